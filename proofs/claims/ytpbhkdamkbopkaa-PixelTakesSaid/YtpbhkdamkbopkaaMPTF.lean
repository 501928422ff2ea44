/- Parts of the proof, glued by a program of this session (wip/tools/claimfit.py). -/
import Derived.Test.YtpbhkdamkbopkaaMPTE
set_option linter.unusedVariables false
set_option linter.unusedSimpArgs false
set_option linter.unusedSectionVars false
namespace Go.Proofs.Ytpbhkdamkbopkaa.Inf
open Go.RowKit Ext RefP GInfl GHuff YtpbhkdamkbopkaaW.PrintWords YtpbhkdamkbopkaaW.PrintLast YtpbhkdamkbopkaaW.PrintMore
theorem tab16 {c:List Int} (h:c.length=16):[c.getD 0 0,c.getD 1 0,c.getD 2 0,c.getD 3 0,c.getD 4 0,c.getD 5 0,c.getD 6 0,c.getD 7 0,c.getD 8 0,c.getD 9 0,c.getD 10 0,c.getD 11 0,c.getD 12 0,c.getD 13 0,c.getD 14 0,c.getD 15 0]=c:=by
 match c,h with
 |[_,_,_,_,_,_,_,_,_,_,_,_,_,_,_,_],_=>rfl
theorem bad_ev (n:Int):infl_bad.f n=some (badLen n):=by
 unfold infl_bad.f badLen;by_cases h:n < 0
 ·rw [if_pos h,decide_eq_true h];rfl
 ·rw [if_neg h,decide_eq_false h];rfl
theorem idx_none {l:List Int} (hl:l.length≤1000000):∀ (d i:Nat),i+d=l.length → (∀ j:Nat,i≤j → j < l.length → badLen (rd l j)=false) → Ev (fun k=>infl_idx.l0 k l (l.length:Int) (i:Int)) (-1)
 |0,i,h,_=>Ev.step (fun k=>by simp only [infl_idx.l0];rw [if_neg (by omega)]) (Ev.now _)
 |d + 1, i, h, hb => Ev.step (f := fun k => infl_idx.l0 k l (l.length : Int) ((i + 1 : Nat) : Int)) (fun k => by
   simp only [infl_idx.l0];rw [if_pos (by omega),if_pos (by omega),if_pos (by omega),bad_ev,hb i (Nat.le_refl _) (by omega)];simp only [Option.bind_some];rw [if_neg (by decide),wrap_in (by omega) (by omega)];rfl) (idx_none hl d (i+1) (by omega) fun j h1 h2=>hb j (by omega) h2)
theorem idx_some {l:List Int} (hl:l.length≤1000000) (m:Nat) (hm:m < l.length) (hbm:badLen (rd l m)=true):∀ (d i:Nat),i+d=m → (∀ j:Nat,i≤j → j < m → badLen (rd l j)=false) → Ev (fun k=>infl_idx.l0 k l (l.length:Int) (i:Int)) (m:Int)
 |0, i, h, _ => Ev.step (fun k => by
   (obtain rfl:i=m:=by omega);simp only [infl_idx.l0];rw [if_pos (by omega),if_pos (by omega),if_pos (by omega),bad_ev,hbm];simp only [Option.bind_some];rw [if_pos trivial]) (Ev.now _)
 |d + 1, i, h, hb => Ev.step (f := fun k => infl_idx.l0 k l (l.length : Int) ((i + 1 : Nat) : Int)) (fun k => by
   simp only [infl_idx.l0];rw [if_pos (by omega),if_pos (by omega),if_pos (by omega),bad_ev,hb i (Nat.le_refl _) (by omega)];simp only [Option.bind_some];rw [if_neg (by decide),wrap_in (by omega) (by omega)];rfl) (idx_some hl m hm hbm d (i+1) (by omega) fun j h1 h2=>hb j (by omega) h2)
theorem has_ev {l:List Int} (hl:l.length≤1000000):Ev (fun k=>infl_has.f k l) (!(okL l)):=by
 rcases first_bad l l.length with h | ⟨m,h0,h1,h2⟩
 ·rw [(ok_is l).1 h];exact Ev.bind (f:=fun _ t7=>some (decide (t7 ≥ 0))) (idx_none hl l.length 0 (by omega) fun j _ hj=>h j hj) (Ev.now _)
 ·have : okL l = false := by
   cases q:okL l with
   |false=>rfl
   |true=>rw [(ok_is l).2 q m h0] at h1;cases h1
  rw [this];refine Ev.bind (f:=fun _ t7=>some (decide (t7 ≥ 0))) (idx_some hl m h0 h1 m 0 (by omega) fun j _ hj=>h2 j hj) ?_;exact Ev.congr (fun _=>by rw [decide_eq_true (by omega)];rfl) (Ev.now _)
def hN0 (l:List Int) (i:Int) (c:List Int) (k:Nat):=infl_hNew.l0 k l l (l.length:Int) i (c.getD 0 0) (c.getD 1 0) (c.getD 2 0) (c.getD 3 0) (c.getD 4 0) (c.getD 5 0) (c.getD 6 0) (c.getD 7 0) (c.getD 8 0) (c.getD 9 0) (c.getD 10 0) (c.getD 11 0) (c.getD 12 0) (c.getD 13 0) (c.getD 14 0) (c.getD 15 0)
def hN1 (l:List Int) (r m n:Int) (c:List Int) (k:Nat):=infl_hNew.l1 k l r m n (c.getD 0 0) (c.getD 1 0) (c.getD 2 0) (c.getD 3 0) (c.getD 4 0) (c.getD 5 0) (c.getD 6 0) (c.getD 7 0) (c.getD 8 0) (c.getD 9 0) (c.getD 10 0) (c.getD 11 0) (c.getD 12 0) (c.getD 13 0) (c.getD 14 0) (c.getD 15 0)
def hN2 (l:List Int) (n:Int) (c ss:List Int) (k:Nat):=infl_hNew.l2 k l n (c.getD 0 0) (c.getD 1 0) (c.getD 2 0) (c.getD 3 0) (c.getD 4 0) (c.getD 5 0) (c.getD 6 0) (c.getD 7 0) (c.getD 8 0) (c.getD 9 0) (c.getD 10 0) (c.getD 11 0) (c.getD 12 0) (c.getD 13 0) (c.getD 14 0) (c.getD 15 0) ss
def hN3 (l:List Int) (n i:Int) (c ss:List Int) (k:Nat):=infl_hNew.l3 k l n l (l.length:Int) i (c.getD 0 0) (c.getD 1 0) (c.getD 2 0) (c.getD 3 0) (c.getD 4 0) (c.getD 5 0) (c.getD 6 0) (c.getD 7 0) (c.getD 8 0) (c.getD 9 0) (c.getD 10 0) (c.getD 11 0) (c.getD 12 0) (c.getD 13 0) (c.getD 14 0) (c.getD 15 0) ss
theorem rd_get (c:List Int) (i:Nat):rd c (i:Int)=c.getD i 0:=rd_nat c i
theorem hN3_end {l:List Int} {n:Nat} {c ss:List Int} (hn:n≤15):∀ k,hN3 l n (l.length:Int) c ss (k+1)=hN2 l ((n+1:Nat):Int) c ss k:=fun k=>by
 unfold hN3;simp only [infl_hNew.l3];rw [if_neg (by omega),wrap_in (by omega) (by omega)];rfl
theorem hN3_step {l:List Int} {n i:Nat} {c ss:List Int} (hi:i < l.length) (hl:l.length≤320) (hs:ss.length≤100000):∀ k,hN3 l n i c ss (k+1)=hN3 l n ((i+1:Nat):Int) c (if l.getD i 0=(n:Int) then ss ++ [(i:Int)] else ss) k:=fun k=>by
 unfold hN3;simp only [infl_hNew.l3];rw [if_pos (by omega),if_pos (by omega),if_pos (by omega),rd_get,wrap_in (by omega) (by omega)];by_cases h:l.getD i 0=(n:Int)
 ·rw [if_pos h,if_pos h,if_pos (by omega)];rfl
 ·rw [if_neg h,if_neg h];rfl
theorem hN3_ev {l:List Int} {n:Nat} {c:List Int} {R:List Int × List Int × Int} (hn:n≤15) (hl:l.length≤320) (ss:List Int) (hs:ss.length≤50000) (hR:Ev (hN2 l ((n+1:Nat):Int) c (ss ++ idxN l n l.length)) R):∀ (d i:Nat),i+d=l.length → Ev (hN3 l n i c (ss ++ idxN l n i)) R
 |0,i,h=>by
  obtain rfl:i=l.length:=by omega
  exact Ev.step (hN3_end hn) hR
 |d+1,i,h=>by
  have hle:=idxN_length l n i;refine Ev.step (hN3_step (by omega) hl (by rw [List.length_append];omega)) ?_;have:=hN3_ev hn hl ss hs hR d (i+1) (by omega);rw [idxN_succ] at this;by_cases q:l.getD i 0=(n:Int)
  ·rw [if_pos q] at this ⊢;rwa [← List.append_assoc] at this
  ·rw [if_neg q,List.append_nil] at this;rw [if_neg q];exact this
theorem hN2_ev {l:List Int} {c:List Int} (hl:l.length≤320) (hc:c.length=16):∀ (d n:Nat),n+d=15 → Ev (hN2 l ((n+1:Nat):Int) c (symsN l n)) (c,symsN l 15,0)
 |0,n,h=>by
  obtain rfl:n=15:=by omega
  refine Ev.step (f:=fun _=>some (c,symsN l 15,0)) (fun k=>?_) (Ev.now _);unfold hN2;simp only [infl_hNew.l2];rw [if_neg (by decide),tab16 hc]
 |d+1,n,h=>by
  have hs:=symsN_length l n;have:n*l.length≤15*320:=Nat.mul_le_mul (by omega) hl;refine Ev.step (f:=hN3 l ((n+1:Nat):Int) ((0:Nat):Int) c (symsN l n ++ idxN l (n+1) 0)) (fun k=>?_) (hN3_ev (by omega) hl _ (by omega) (hN2_ev hl hc d (n+1) (by omega)) l.length 0 (by omega));unfold hN2 hN3;simp only [infl_hNew.l2];rw [if_pos (by omega)];simp [idxN]
theorem hN1_step {l:List Int} {r m:Int} {n:Nat} {c:List Int} (hc:c.length=16) (hn:n < 16) (h1:-1000000000≤r∧r≤1000000000) (h2:-1000000000≤m∧m≤1000000000) (hb:∀ n,0≤c.getD n 0∧c.getD n 0≤320):∀ k,hN1 l r m n c (k+1)=hN1 l (r - c.getD n 0*2 ^ (15 - n)) (m+c.getD n 0) ((n+1:Nat):Int) c k:=fun k=>by
 have hp:=pow_rng n;have e15:wrap64 (15 - (n:Int))=((15 - n:Nat):Int):=by rw [wrap_in (by omega) (by omega)];omega
 have hq:0≤c.getD n 0*2 ^ (15 - n):=Int.mul_nonneg (hb n).1 (by omega);have hq2:c.getD n 0*2 ^ (15 - n)≤320*32768:=Int.mul_le_mul (hb n).2 hp.2 (by omega) (by omega);unfold hN1;simp only [infl_hNew.l1];rw [if_pos (by omega),if_pos (by omega),if_pos (by omega),e15,if_pos (by omega),tab16 hc,rd_get,Int.toNat_natCast,Nat.min_eq_left (by omega),wrap_in (n:=c.getD n 0*2 ^ (15 - n)) (by omega) (by omega),wrap_in (n:=r - _) (by omega) (by omega),wrap_in (n:=m+_) (by have:=hb n;omega) (by have:=hb n;omega),wrap_in (n:=(n:Int)+1) (by omega) (by omega)];rfl
theorem cnts_c (l:List Int) (hl:l.length≤320) (n:Nat):0≤(cnts l).getD n 0∧(cnts l).getD n 0≤320:=by have:=cnts_rng l n;omega
theorem hN1_ev {l:List Int} (hl:l.length≤320) {R:List Int × List Int × Int} (hR:Ev (hN1 l (roomN (cnts l) 16) (manyN (cnts l) 16) ((16:Nat):Int) (cnts l)) R):∀ (d n:Nat),n+d=16 → Ev (hN1 l (roomN (cnts l) n) (manyN (cnts l) n) n (cnts l)) R
 |0,n,h=>by
  obtain rfl:n=16:=by omega
  exact hR
 |d+1,n,h=>by
  have r1:=roomN_rng (cnts l) 320 (cnts_c l hl) (by omega) n;have r2:=manyN_rng (cnts l) 320 (cnts_c l hl) (by omega) n;exact Ev.step (hN1_step (cnts_length l) (by omega) (by omega) (by omega) (cnts_c l hl)) (hN1_ev hl hR d (n+1) (by omega))
theorem hN1_end {l:List Int} (hl:l.length≤320):Ev (hN1 l (roomN (cnts l) 16) (manyN (cnts l) 16) ((16:Nat):Int) (cnts l)) (if badSum l=true then (zero16,[],4) else (cnts l,syms l,0)):=by
 have e1:(rd [(cnts l).getD 0 0,(cnts l).getD 1 0,(cnts l).getD 2 0,(cnts l).getD 3 0,(cnts l).getD 4 0,(cnts l).getD 5 0,(cnts l).getD 6 0,(cnts l).getD 7 0,(cnts l).getD 8 0,(cnts l).getD 9 0,(cnts l).getD 10 0,(cnts l).getD 11 0,(cnts l).getD 12 0,(cnts l).getD 13 0,(cnts l).getD 14 0,(cnts l).getD 15 0] 1)=cnt l 1:=by
  rw [tab16 (cnts_length l)];show (cnts l).getD 1 0=_;rw [List.getD_eq_getElem?_getD,cnts_get l 1 (by decide)];rfl
 have bad:Ev (fun _=>some ((z16,[],4):List Int × List Int × Int)) (zero16,[],4):=Ev.now _;have ok:Ev (hN2 l ((0+1:Nat):Int) (cnts l) (symsN l 0)) (cnts l,syms l,0):=hN2_ev hl (cnts_length l) 15 0 (by omega)
 have st:∀ k,hN1 l (roomN (cnts l) 16) (manyN (cnts l) 16) ((16:Nat):Int) (cnts l) (k+1)=if badSum l=true then some (z16,[],4) else hN2 l ((0+1:Nat):Int) (cnts l) (symsN l 0) k:=fun k=>by
  unfold hN1;simp only [infl_hNew.l1];rw [if_neg (by decide),e1];unfold badSum;generalize roomN (cnts l) 16=r;generalize manyN (cnts l) 16=m;by_cases h1:r < 0
  ·rw [if_pos h1,if_pos (by simp [h1])]
  rw [if_neg h1];by_cases h2:r > 0;rotate_left
  ·rw [if_neg h2,if_neg (by simp [h1,show ¬ (0:Int) < r from h2])];rfl
  rw [if_pos h2];by_cases h3:m > 0;rotate_left
  ·rw [if_neg h3,if_neg (by simp [h1,show ¬ (0:Int) < m from h3])];rfl
  rw [if_pos h3];by_cases h4:m=1
  ·rw [if_pos h4];by_cases h5:cnt l 1=1
   ·rw [if_pos h5,if_neg (by simp [h1,h4,h5])];rfl
   ·rw [if_neg h5,if_pos (by simp [h5,h3,show (0:Int) < r from h2,h4])]
  ·rw [if_neg h4,if_pos (by simp [h4,show (0:Int) < r from h2,show (0:Int) < m from h3])]
 refine Ev.step st ?_;cases badSum l with
 |true=>exact bad
 |false=>exact ok
theorem take_all (l:List Int):l.take l.length=l:=List.take_length
theorem hN0_ev {l:List Int} (hl:l.length≤320) (hok:okL l=true) {R:List Int × List Int × Int} (hR:Ev (hN1 l 32768 0 ((0:Nat):Int) (cnts l)) R):∀ (d i:Nat),i+d=l.length → Ev (hN0 l i (cntsAll (l.take i))) R
 |0,i,h=>by
  obtain rfl:i=l.length:=by omega
  refine Ev.step (fun k=>?_) hR;unfold hN0 hN1;simp only [infl_hNew.l0];rw [if_neg (by omega),take_all]
  have g:∀ q:Nat,q ≠ 0 → (cnts l).getD q 0=(cntsAll l).getD q 0:=fun q hq=>by
   unfold cnts;rw [List.getD_eq_getElem?_getD,List.getElem?_set,if_neg (by omega),← List.getD_eq_getElem?_getD]
  have g0:(cnts l).getD 0 0=0:=by rw [List.getD_eq_getElem?_getD,cnts_get l 0 (by decide)];rfl
  rw [g0,g 1 (by decide),g 2 (by decide),g 3 (by decide),g 4 (by decide),g 5 (by decide),g 6 (by decide),g 7 (by decide),g 8 (by decide),g 9 (by decide),g 10 (by decide),g 11 (by decide),g 12 (by decide),g 13 (by decide),g 14 (by decide),g 15 (by decide)];rfl
 |d+1,i,h=>by
  obtain ⟨n,e,hn⟩:=good_is l i ((ok_is l).2 hok i (by omega));have hi:l.getD i 0=(n:Int):=by rw [← rd_nat];exact e
  have hcl:=cnt_le (l.take i) n;have hc0:=cnt_nonneg (l.take i) n;have htl:(l.take i).length≤320:=by rw [List.length_take];omega
  have hg:(cntsAll (l.take i)).getD n 0=cnt (l.take i) n:=by rw [List.getD_eq_getElem?_getD,cntsAll_get _ _ hn];rfl
  refine Ev.step (f:=hN0 l ((i+1:Nat):Int) (cntsAll (l.take (i+1)))) (fun k=>?_) (hN0_ev hl hok hR d (i+1) (by omega));rw [take_snoc' l i (by omega),hi,cntsAll_snoc _ _ hn];unfold hN0;simp only [infl_hNew.l0];rw [if_pos (by omega),if_pos (by omega),if_pos (by omega),e,if_pos (by omega),if_pos (by omega),tab16 (cntsAll_length _),rd_get,hg,Int.toNat_natCast,wrap_in (n:=cnt (l.take i) n+1) (by omega) (by omega),wrap_in (n:=(i:Int)+1) (by omega) (by omega)];rfl
theorem new_ev (l:List Int):Ev (fun k=>infl_hNew.f k l) (newCs l,newSs l,errOf l):=by
 unfold newCs newSs;by_cases h:320 < l.length
 ·have e:errOf l=1:=by unfold errOf;rw [if_pos h]
  rw [e,if_neg (by decide),if_neg (by decide)];exact Ev.congr (fun k=>by unfold infl_hNew.f;rw [if_pos (by omega)];rfl) (Ev.now _)
 have hh:=has_ev (l:=l) (by omega);refine Ev.congr (fun k=>by unfold infl_hNew.f;rw [if_neg (by omega)]) (Ev.bind hh ?_);cases hok:okL l with
 |false =>
  have e:errOf l=1:=by unfold errOf;rw [if_neg h,hok,if_pos rfl]
  rw [e,if_neg (by decide),if_neg (by decide)];exact Ev.now _
 |true =>
  have key:Ev (hN0 l ((0:Nat):Int) (cntsAll (l.take 0))) (if badSum l=true then (zero16,[],4) else (cnts l,syms l,0)):=hN0_ev (by omega) hok (hN1_ev (by omega) (hN1_end (by omega)) 16 0 (by omega)) l.length 0 (by omega);by_cases hb:badSum l=true
  ·have e:errOf l=4:=by unfold errOf;rw [if_neg h,hok,if_neg (by decide),if_pos hb]
   rw [if_pos hb] at key;rw [e,if_neg (by decide),if_neg (by decide)];exact key
  ·have e:errOf l=0:=by unfold errOf;rw [if_neg h,hok,if_neg (by decide),if_neg hb]
   rw [if_neg hb] at key;rw [e,if_pos rfl,if_pos rfl];exact key
end Go.Proofs.Ytpbhkdamkbopkaa.Inf
namespace Go.Proofs.Ytpbhkdamkbopkaa.Inf
open Go.RowKit Ext RefP GInfl GHuff YtpbhkdamkbopkaaW.PrintWords YtpbhkdamkbopkaaW.PrintLast YtpbhkdamkbopkaaW.PrintMore
def hX (s:ByteArray) (cs ss:List Int) (pos code first index n:Int) (k:Nat):=infl_hNext.l0 k s pos code first index n (cs.getD 0 0) (cs.getD 1 0) (cs.getD 2 0) (cs.getD 3 0) (cs.getD 4 0) (cs.getD 5 0) (cs.getD 6 0) (cs.getD 7 0) (cs.getD 8 0) (cs.getD 9 0) (cs.getD 10 0) (cs.getD 11 0) (cs.getD 12 0) (cs.getD 13 0) (cs.getD 14 0) (cs.getD 15 0) ss
theorem nxt_ev {s : ByteArray} {cs ss : List Int} (hc : cs.length = 16) (hb : ∀ i : Nat, 0 ≤ cs.getD i 0 ∧ cs.getD i 0 ≤ 320) (hss : ss.length ≤ 6000) : ∀ (d : Nat) (pos code first index P : Int) (r : Int × Int × Int), d ≤ 15 → P * 2 ^ d = 32768 → 1 ≤ P → 0 ≤ code → code < P → 0 ≤ first → first + 640 ≤ 640 * P → 0 ≤ index → index ≤ 320 * (15 - d : Nat) →
  nxt cs ss s d pos code first index=some r → Ev (hX s cs ss pos code first index ((16 - d:Nat):Int)) r
 |0,pos,code,first,index,P,r,_,_,_,_,_,_,_,_,_,h=>by
  simp only [nxt,Option.some.injEq] at h;subst h;refine Ev.step (f:=fun _=>some (0,0,4)) (fun k=>?_) (Ev.now _);unfold hX;simp only [infl_hNext.l0];rw [if_neg (by decide)]
 |d+1,pos,code,first,index,P,r,hd,hP,hP1,c0,c1,f0,f1,i0,i1,h=>by
  obtain ⟨hp2,hp3⟩:=pstep hP hP1;unfold nxt at h;cases hbit:huff_Bit.f s pos with
  |none=>rw [hbit] at h;cases h
  |some p =>
   rw [hbit] at h;simp only [Option.bind_some] at h;have hr:=bit_rng hbit;obtain ⟨n,hn,hnn⟩:∃ n:Nat,n=15 - d∧16 - (d+1)=n:=⟨15 - d,rfl,by omega⟩;rw [hnn];(have e2:(2:Int) ^ (min (1:Int).toNat 64)=2:=by decide);(have ec:Go.bits .or .i64 (wrap64 (code*2)) p.1=2*code+p.1:=by rw [wrap_in (by omega) (by omega),or_01 c0 (by omega) hr.1 hr.2];omega);(have ef:wrap64 (first*2)=2*first:=by rw [wrap_in (by omega) (by omega)];omega);have hbn:=hb (15 - d);rw [← hn] at h hbn
   have st : ∀ k, hX s cs ss pos code first index n (k + 1) = if p.2 = true then (if 2 * code + p.1 < 2 * first + cs.getD n 0 then (if 0 ≤ index + (2 * code + p.1) - 2 * first then (if index + (2 * code + p.1) - 2 * first < (ss.length : Int) then some (rd ss (index + (2 * code + p.1) - 2 * first), wrap64 (pos + 1), 0) else none) else none)
     else if index+cs.getD n 0=(ss.length:Int) then some (0,0,4) else hX s cs ss (wrap64 (pos+1)) (2*code+p.1) (2*first+cs.getD n 0) (index+cs.getD n 0) ((n+1:Nat):Int) k) else some (0,0,2):=fun k=>by
    unfold hX;simp only [infl_hNext.l0];rw [if_pos (by omega),hbit];simp only [Option.bind_some];cases p.2 with
    |false=>rfl
    |true =>
     rw [if_pos rfl,if_pos rfl,if_pos (by omega),if_pos (by omega),tab16 hc,rd_get,e2,ec,ef,wrap_in (n:=2*first+cs.getD n 0) (by omega) (by omega),wrap_in (n:=index+(2*code+p.1)) (by omega) (by omega),wrap_in (n:=index+(2*code+p.1) - 2*first) (by omega) (by omega),wrap_in (n:=index+cs.getD n 0) (by omega) (by omega),wrap_in (n:=(n:Int)+1) (by omega) (by omega)];rfl
   refine Ev.step st ?_;cases hp:p.2 with
   |false=>rw [hp,if_pos rfl] at h;cases h;exact Ev.now _
   |true =>
    rw [hp,if_neg (by decide)] at h;refine Ev.congr (fun k=>if_pos rfl) ?_;by_cases q1:2*code+p.1 < 2*first+cs.getD n 0
    ·rw [if_pos q1] at h;refine Ev.congr (fun k=>if_pos q1) ?_
     split at h
     ·rename_i q2;cases h;exact Ev.congr (fun k=>by rw [if_pos q2.1,if_pos q2.2];rfl) (Ev.now _)
     ·cases h
    rw [if_neg q1] at h;refine Ev.congr (fun k=>if_neg q1) ?_;by_cases q2:index+cs.getD n 0=(ss.length:Int)
    ·rw [if_pos q2] at h;cases h;exact Ev.congr (fun k=>if_pos q2) (Ev.now _)
    ·rw [if_neg q2] at h;refine Ev.congr (fun k=>if_neg q2) ?_;have:=nxt_ev hc hb hss d _ _ _ _ (2*P) r (by omega) hp2 (by omega) (by omega) (by omega) (by omega) (by omega) (by omega) (by omega) h;rw [show 16 - d=n+1 by omega] at this;exact this
theorem next_ev {s:ByteArray} {cs ss:List Int} {pos:Int} {r:Int × Int × Int} (h:nextOf cs ss s pos=some r):Ev (fun k=>infl_hNext.f k (cs.getD 0 0) (cs.getD 1 0) (cs.getD 2 0) (cs.getD 3 0) (cs.getD 4 0) (cs.getD 5 0) (cs.getD 6 0) (cs.getD 7 0) (cs.getD 8 0) (cs.getD 9 0) (cs.getD 10 0) (cs.getD 11 0) (cs.getD 12 0) (cs.getD 13 0) (cs.getD 14 0) (cs.getD 15 0) ss s pos) r:=by
 unfold nextOf at h;by_cases h0:pos < 0
 ·rw [if_pos h0] at h;cases h;exact Ev.congr (fun k=>by unfold infl_hNext.f;rw [if_pos h0]) (Ev.now _)
 rw [if_neg h0] at h;by_cases h1:ss.length=0
 ·rw [if_pos h1] at h;cases h;exact Ev.congr (fun k=>by unfold infl_hNext.f;rw [if_neg h0,if_pos (by omega)]) (Ev.now _)
 rw [if_neg h1] at h
 split at h
 ·rename_i hc
  have hb:∀ i:Nat,0≤cs.getD i 0∧cs.getD i 0≤320:=fun i=>by
   rw [List.getD_eq_getElem?_getD]
   rcases Nat.lt_or_ge i cs.length with q | q
   ·rw [List.getElem?_eq_getElem q];exact hc.2.2 _ (List.getElem_mem q)
   ·rw [List.getElem?_eq_none q];exact ⟨by decide,by decide⟩
  have:=nxt_ev hc.1 hb hc.2.1 15 pos 0 0 0 1 r (by omega) (by decide) (by decide) (by decide) (by decide) (by decide) (by decide) (by decide) (by decide) h;exact Ev.congr (fun k=>by unfold infl_hNext.f;rw [if_neg h0,if_neg (by omega)];rfl) this
 ·cases h
theorem fail_ev (e a:Int):infl_fail.f e a=some (if e=0 then a else e):=by
 unfold infl_fail.f;by_cases h:e=0
 ·rw [if_pos h,if_pos h]
 ·rw [if_neg h,if_neg h]
theorem fail_e_is (x:St) (a:Int):(fail x a).e=if x.e=0 then a else x.e:=by
 unfold fail;split <;> rfl
theorem tak_ev {x:St} {r:Int × Int × Int} {g:Nat → Option (Int × Int × Int)} (h:x.e=0 → Ev g r):Ev (fun k=>if x.e=0 then ((g k).bind fun t23=>if t23.2.2=0 then some (t23.1,t23.2.1,x.e) else ((infl_fail.f x.e t23.2.2).bind fun t31=>some (0,x.p,t31))) else some (0,x.p,x.e)) ((tak x r).1,(tak x r).2.p,(tak x r).2.e):=by
 unfold tak;by_cases he:x.e=0
 ·refine Ev.congr (fun k=>if_pos he) (Ev.bind (h he) ?_);rw [if_pos he];by_cases h2:r.2.2=0
  ·simp only [if_pos h2];exact Ev.now _
  ·simp only [if_neg h2];exact Ev.congr (fun k=>by rw [fail_ev,if_pos he];rfl) (Ev.now _)
 ·rw [if_neg he];exact Ev.congr (fun k=>if_neg he) (Ev.now _)
theorem bits_ev {s:ByteArray} {x:St} (hs:s.size≤17592186044416) (hx:Ok s x) (n:Int):Ev (fun k=>infl_bits.f k s x.p x.e n) ((bits s n x).1,(bits s n x).2.p,(bits s n x).2.e) :=
 tak_ev (g:=fun k=>huff_Bits.f k s x.p n) fun _=>bits_is s (by omega) x.p n (by have:=hx.p1;omega)
theorem rnext_ev {s:ByteArray} {x:St} (l:List Int) (hs:s.size≤17592186044416) (hx:Ok s x) (he:x.e=0 → errOf l=0):Ev (fun k=>infl_next.f k (rd (newCs l) 0) (rd (newCs l) 1) (rd (newCs l) 2) (rd (newCs l) 3) (rd (newCs l) 4) (rd (newCs l) 5) (rd (newCs l) 6) (rd (newCs l) 7) (rd (newCs l) 8) (rd (newCs l) 9) (rd (newCs l) 10) (rd (newCs l) 11) (rd (newCs l) 12) (rd (newCs l) 13) (rd (newCs l) 14) (rd (newCs l) 15) (newSs l) s x.p x.e) ((next l s x).1,(next l s x).2.p,(next l s x).2.e) :=
 tak_ev (g:=fun k=>infl_hNext.f k (rd (newCs l) 0) (rd (newCs l) 1) (rd (newCs l) 2) (rd (newCs l) 3) (rd (newCs l) 4) (rd (newCs l) 5) (rd (newCs l) 6) (rd (newCs l) 7) (rd (newCs l) 8) (rd (newCs l) 9) (rd (newCs l) 10) (rd (newCs l) 11) (rd (newCs l) 12) (rd (newCs l) 13) (rd (newCs l) 14) (rd (newCs l) 15) (newSs l) s x.p) fun h=>by
  exact next_ev (next_some l (he h) s (by omega) x.p hx.p0 (by have:=hx.p1;omega)).1
theorem table_ev {x:St} (l:List Int):Ev (fun k=>infl_table.f k x.e l) (if x.e=0 then newCs l else zero16,if x.e=0 then newSs l else [],(table l x).e):=by
 unfold table;rw [fail_e_is];by_cases h:x.e=0
 ·rw [if_pos h,if_pos h,if_pos h];refine Ev.congr (fun k=>by unfold infl_table.f;rw [if_pos h]) (Ev.bind (new_ev l) ?_);exact Ev.congr (fun k=>by rw [fail_ev,if_pos h];rfl) (Ev.now _)
 ·rw [if_neg h,if_neg h,if_neg h];exact Ev.congr (fun k=>by unfold infl_table.f;rw [if_neg h];rfl) (Ev.now _)
end Go.Proofs.Ytpbhkdamkbopkaa.Inf
namespace Go.Proofs.Ytpbhkdamkbopkaa.Inf
open Go.RowKit Ext RefP GInfl GHuff YtpbhkdamkbopkaaW.PrintWords YtpbhkdamkbopkaaW.PrintLast YtpbhkdamkbopkaaW.PrintMore
theorem byts_cut {s:ByteArray} {q n:Nat} (h:q+n≤s.size):Rs.byts (s.extract q (q+n))=cut s q n:=cut_bytes h
theorem Ok.align {s:ByteArray} {x:St} (h:Ok s x):Ok s ⟨(x.p+7) / 8*8,x.o,x.e⟩:=⟨by have:=h.p0;show 0≤(x.p+7) / 8*8;omega,by have:=h.p1;show (x.p+7) / 8*8≤8*(s.size:Int);omega,h.e⟩
theorem tdiv8 {n:Int} (h0:0≤n) (h1:n≤4611686018427387904):wrap64 (Int.tdiv n 8)=n / 8:=by
 rw [Int.tdiv_eq_ediv_of_nonneg h0,wrap_in (by omega) (by omega)]
theorem fail_ev' {y:St} {a:Int} (h:y.e=0):infl_fail.f y.e a=some a:=by rw [fail_ev,if_pos h]
theorem stored_ev {s:ByteArray} {x:St} {mx:Int} (hs:s.size≤17592186044416) (hx:Ok s x) (ho:(x.o.length:Int)≤mx) (hm:mx≤262144):Ev (fun k=>infl_stored.f k s x.p x.o mx x.e) ((stored s mx x).o,(stored s mx x).p,(stored s mx x).e):=by
 have ha:=hx.align;have h1:=hx.p0;have h2:=hx.p1
 have e0:wrap64 ((wrap64 (Int.tdiv (wrap64 (x.p+7)) 8))*8)=(x.p+7) / 8*8:=by
  rw [wrap_in (n:=x.p+7) (by omega) (by omega),tdiv8 (by omega) (by omega),wrap_in (by omega) (by omega)]
 have g1:=bits_get (n:=16) (k:=16) (m:=(bits s 16 ⟨(x.p+7) / 8*8,x.o,x.e⟩).1) (y:=(bits s 16 ⟨(x.p+7) / 8*8,x.o,x.e⟩).2) rfl ha (by decide) rfl;have E1:=bits_ev hs ha 16;unfold stored;generalize bits s 16 ⟨(x.p+7) / 8*8,x.o,x.e⟩=a at g1 E1 ⊢;have g2:=bits_get (n:=16) (k:=16) (m:=(bits s 16 a.2).1) (y:=(bits s 16 a.2).2) rfl g1.1 (by decide) rfl;have E2:=bits_ev hs g1.1 16
 dsimp only
 generalize bits s 16 a.2=b at g2 E2 ⊢;have l1:a.1 < 65536:=g1.2.2.1;have p0:=g2.1.p0;have p1:=g2.1.p1;have bo:b.2.o=x.o:=g2.2.2.2.1.trans g1.2.2.2.1;refine Ev.congr (fun k=>by unfold infl_stored.f;rw [e0]) (Ev.bind E1 (Ev.bind E2 ?_))
 dsimp only
 by_cases he:b.2.e=0;rotate_left
 ·simp only [if_neg he];rw [bo];exact Ev.now _
 simp only [if_pos he];by_cases hq:Go.bits .xor .i64 a.1 b.1=65535;rotate_left
 ·simp only [if_neg hq];rw [fail_e_is,fail_p,fail_o,if_pos he,bo];exact Ev.congr (fun k=>by rw [fail_ev' he];rfl) (Ev.now _)
 simp only [if_pos hq];rw [wrap_in (n:=(x.o.length:Int)+a.1) (by omega) (by omega),bo];by_cases hl:(x.o.length:Int)+a.1≤mx;rotate_left
 ·rw [if_neg hl,fail_e_is,fail_p,fail_o,if_pos he,bo];simp only [if_pos (show (x.o.length:Int)+a.1 > mx by omega)];exact Ev.congr (fun k=>by rw [fail_ev' he];rfl) (Ev.now _)
 rw [if_pos hl];simp only [if_neg (show ¬ (x.o.length:Int)+a.1 > mx by omega)];rw [tdiv8 p0 (by omega),wrap_in (n:=(s.size:Int) - b.2.p / 8) (by omega) (by omega)];by_cases hn:a.1≤(s.size:Int) - b.2.p / 8;rotate_left
 ·rw [if_neg hn,fail_e_is,fail_p,fail_o,if_pos he,bo];simp only [if_pos (show (s.size:Int) - b.2.p / 8 < a.1 by omega)];exact Ev.congr (fun k=>by rw [fail_ev' he];rfl) (Ev.now _)
 rw [if_pos hn];simp only [if_neg (show ¬ (s.size:Int) - b.2.p / 8 < a.1 by omega)];obtain ⟨q,hq2⟩:∃ q:Nat,b.2.p / 8=q:=⟨(b.2.p / 8).toNat,by omega⟩;obtain ⟨n,hn2⟩:∃ n:Nat,a.1=n:=⟨a.1.toNat,by have:=g1.2.1;omega⟩;rw [hq2,hn2];rw [hq2,hn2] at hn;have hqs:q+n≤s.size:=by omega
 rw [wrap_in (n:=(q:Int)+(n:Int)) (by omega) (by omega),wrap_in (n:=8*(n:Int)) (by omega) (by omega),wrap_in (n:=b.2.p+8*(n:Int)) (by omega) (by omega)]
 have hc:Rs.byts (s.extract (q:Int).toNat ((q:Int)+(n:Int)).toNat)=cut s q n:=by
  rw [Int.toNat_natCast,show ((q:Int)+(n:Int)).toNat=q+n by omega];exact byts_cut hqs
 rw [hc,Int.toNat_natCast,Int.toNat_natCast];have hcl:=cut_len s q n;exact Ev.congr (fun k=>by rw [if_pos (by omega),if_pos (by omega),if_pos (by omega),if_pos (by omega)]) (Ev.now _)
theorem rep_ev {v n:Int} (h0:1≤n) (h1:n≤1000000):infl_rep.f v n=some (List.replicate n.toNat v):=by unfold infl_rep.f;rw [if_pos ⟨h0,h1⟩]
theorem grow_ev {s : ByteArray} {x : St} {l : List Int} {v : Int} {c b : Int} {m : Nat} (hs : s.size ≤ 17592186044416) (hx : Ok s x) (hm : m ≤ 16) (hb : b = (m : Int)) (hc : 0 < c) (hc2 : c ≤ 1000) (hl : l.length ≤ 1000000) :
  Ev (fun k=>(infl_bits.f k s x.p x.e b).bind fun t=>(infl_rep.f v (wrap64 (c+t.1))).bind fun t51=>if 0 < t51.length then (if l.length+t51.length≤17592186044416 then some (l ++ t51,t.2.1,t.2.2) else none) else none) (l ++ List.replicate (c+(bits s b x).1).toNat v,(bits s b x).2.p,(bits s b x).2.e):=by
 have g:=bits_get (n:=m) (k:=b) (m:=(bits s b x).1) (y:=(bits s b x).2) hb hx hm rfl;have hp:(2:Int) ^ m≤65536:=(pow_16 m hm).2;have g0:=g.2.1;have g1:=g.2.2.1;refine Ev.bind (bits_ev hs hx b) ?_;refine Ev.congr (fun k=>?_) (Ev.now _)
 dsimp only
 rw [wrap_in (by omega) (by omega),rep_ev (by omega) (by omega)];simp only [Option.bind_some,List.length_replicate];rw [if_pos (by omega),if_pos (by omega)]
theorem lengthen_ev {s:ByteArray} {x:St} {l:List Int} {y:Int} (hs:s.size≤17592186044416) (hx:Ok s x) (hl:l.length≤1000000):Ev (fun k=>infl_lengthen.f k s x.p x.e l y) ((lengthen s l y x).1,(lengthen s l y x).2.p,(lengthen s l y x).2.e):=by
 unfold lengthen;by_cases he:x.e=0;rotate_left
 ·rw [if_neg he];exact Ev.congr (fun k=>by unfold infl_lengthen.f;rw [if_neg he]) (Ev.now _)
 rw [if_pos he];refine Ev.congr (fun k=>by unfold infl_lengthen.f;rw [if_pos he]) ?_;by_cases h1:y=16;rotate_left
 ·rw [if_neg h1];simp only [if_neg h1];by_cases h2:y=17
  ·rw [if_pos h2];simp only [if_pos h2];exact grow_ev (v:=0) (c:=3) (b:=3) (m:=3) hs hx (by decide) rfl (by decide) (by decide) hl
  ·rw [if_neg h2];simp only [if_neg h2];by_cases h3:y=18
   ·rw [if_pos h3];simp only [if_pos h3];exact grow_ev (v:=0) (c:=11) (b:=7) (m:=7) hs hx (by decide) rfl (by decide) (by decide) hl
   ·rw [if_neg h3];simp only [if_neg h3];exact Ev.congr (fun k=>by rw [if_pos (by omega)]) (Ev.now _)
 rw [if_pos h1];simp only [if_pos h1];by_cases h2:l.length=0
 ·rw [if_pos h2,fail_e_is,fail_p,if_pos he];exact Ev.congr (fun k=>by rw [if_pos (by omega),fail_ev' he];rfl) (Ev.now _)
 ·rw [if_neg h2];have e1:wrap64 ((l.length:Int) - 1)=((l.length - 1:Nat):Int):=by rw [wrap_in (by omega) (by omega)];omega
  refine Ev.congr (fun k=>?_) (grow_ev (v:=l.getD (l.length - 1) 0) (c:=3) (b:=2) (m:=2) hs hx (by decide) rfl (by decide) (by decide) hl);rw [if_neg (by omega),e1,if_pos (by omega),if_pos (by omega),rd_get]
end Go.Proofs.Ytpbhkdamkbopkaa.Inf
namespace Go.Proofs.Ytpbhkdamkbopkaa.GInfr
open Go.RowKit YtpbhkdamkbopkaaW.PrintWords YtpbhkdamkbopkaaW.PrintLast YtpbhkdamkbopkaaW.PrintMore GHuff
mutual
def c05_Plain.l0:Nat → List Int → Int → Option (List Int × List Int)
 |0,_,_=>none
 |k+1,x2,x4=>if x4 < 288 then (if x4 > 143 then (c05_Plain.j1 k x2 x4 8 (decide (x4 < 256))) else (c05_Plain.j1 k x2 x4 8 false)) else (c05_Plain.l1 k x2 ([]:List Int) 0)
def c05_Plain.j1:Nat → List Int → Int → Int → Bool → Option (List Int × List Int)
 |0,_,_,_,_=>none
 |k+1,x2,x4,x5,x16=>if x16=true then (if x4 > 255 then (if x4 < 280 then (if x2.length < 17592186044416 then (c05_Plain.l0 k (x2 ++ [7]) (wrap64 (x4+1))) else (none)) else (if x2.length < 17592186044416 then (c05_Plain.l0 k (x2 ++ [9]) (wrap64 (x4+1))) else (none))) else (if x2.length < 17592186044416 then (c05_Plain.l0 k (x2 ++ [9]) (wrap64 (x4+1))) else (none))) else (if x4 > 255 then (if x4 < 280 then (if x2.length < 17592186044416 then (c05_Plain.l0 k (x2 ++ [7]) (wrap64 (x4+1))) else (none)) else (if x2.length < 17592186044416 then (c05_Plain.l0 k (x2 ++ [x5]) (wrap64 (x4+1))) else (none))) else (if x2.length < 17592186044416 then (c05_Plain.l0 k (x2 ++ [x5]) (wrap64 (x4+1))) else (none)))
def c05_Plain.l1:Nat → List Int → List Int → Int → Option (List Int × List Int)
 |0,_,_,_=>none
 |k+1,x2,x3,x6=>if x6 < 32 then (if x3.length < 17592186044416 then (c05_Plain.l1 k x2 (x3 ++ [5]) (wrap64 (x6+1))) else (none)) else (some (x2,x3))
end
def c05_Plain.f (k:Nat) :Option (List Int × List Int):=c05_Plain.l0 k ([]:List Int) 0
theorem c05_Plain.mono_l:∀ k,(∀ y0 y1,LeO (c05_Plain.l0 k y0 y1) (c05_Plain.l0 (k+1) y0 y1))∧(∀ y0 y1 y2 y3,LeO (c05_Plain.j1 k y0 y1 y2 y3) (c05_Plain.j1 (k+1) y0 y1 y2 y3))∧(∀ y0 y1 y2,LeO (c05_Plain.l1 k y0 y1 y2) (c05_Plain.l1 (k+1) y0 y1 y2))
 |0=>⟨fun _ _ r h=>by simp [c05_Plain.l0] at h,fun _ _ _ _ r h=>by simp [c05_Plain.j1] at h,fun _ _ _ r h=>by simp [c05_Plain.l1] at h⟩
 |k+1=>by
  obtain ⟨ih0,ih1,ih2⟩:=c05_Plain.mono_l k;refine ⟨?_,?_,?_⟩
  ·intro y0 y1;unfold c05_Plain.l0;repeat' first
   |(with_reducible exact ih0 _ _)
   |(with_reducible exact ih1 _ _ _ _)
   |(with_reducible exact ih2 _ _ _)
   |(with_reducible exact LeO.refl _)
   |(with_reducible exact LeO.none _)
   |(with_reducible refine LeO.ite ?_ ?_)
   |(with_reducible refine LeO.bind ?_ (fun _=>?_))
   |exact ih0 _ _
   |exact ih1 _ _ _ _
   |exact ih2 _ _ _
   |exact LeO.none _
   |refine LeO.ite ?_ ?_
   |refine LeO.bind ?_ (fun _=>?_)
  ·intro y0 y1 y2 y3;unfold c05_Plain.j1;repeat' first
   |(with_reducible exact ih0 _ _)
   |(with_reducible exact ih1 _ _ _ _)
   |(with_reducible exact ih2 _ _ _)
   |(with_reducible exact LeO.refl _)
   |(with_reducible exact LeO.none _)
   |(with_reducible refine LeO.ite ?_ ?_)
   |(with_reducible refine LeO.bind ?_ (fun _=>?_))
   |exact ih0 _ _
   |exact ih1 _ _ _ _
   |exact ih2 _ _ _
   |exact LeO.none _
   |refine LeO.ite ?_ ?_
   |refine LeO.bind ?_ (fun _=>?_)
  ·intro y0 y1 y2;unfold c05_Plain.l1;repeat' first
   |(with_reducible exact ih0 _ _)
   |(with_reducible exact ih1 _ _ _ _)
   |(with_reducible exact ih2 _ _ _)
   |(with_reducible exact LeO.refl _)
   |(with_reducible exact LeO.none _)
   |(with_reducible refine LeO.ite ?_ ?_)
   |(with_reducible refine LeO.bind ?_ (fun _=>?_))
   |exact ih0 _ _
   |exact ih1 _ _ _ _
   |exact ih2 _ _ _
   |exact LeO.none _
   |refine LeO.ite ?_ ?_
   |refine LeO.bind ?_ (fun _=>?_)
theorem c05_Plain.mono:∀ k,LeO (c05_Plain.f k ) (c05_Plain.f (k+1) ):=by
 intro  k;obtain ⟨ih0,ih1,ih2⟩:=c05_Plain.mono_l k;unfold c05_Plain.f
 repeat' first
   |(with_reducible exact ih0 _ _)
   |(with_reducible exact ih1 _ _ _ _)
   |(with_reducible exact ih2 _ _ _)
   |(with_reducible exact LeO.refl _)
   |(with_reducible exact LeO.none _)
   |(with_reducible refine LeO.ite ?_ ?_)
   |(with_reducible refine LeO.bind ?_ (fun _=>?_))
   |exact ih0 _ _
   |exact ih1 _ _ _ _
   |exact ih2 _ _ _
   |exact LeO.none _
   |refine LeO.ite ?_ ?_
   |refine LeO.bind ?_ (fun _=>?_)
def c05_number.f (k:Nat) (a0:ByteArray) (l1_0:List Int) (a1_1:Int) (a1_2:Int) (a2:Int):Option (Int × List Int × Int × Int):=if a1_2=0 then ((c04_Bits.f k a0 a1_1 a2).bind fun bt224=>(some (bt224.1,l1_0,bt224.2.1,bt224.2.2))) else (some (0,l1_0,a1_1,a1_2))
mutual
def c05_stored.l0:Nat → ByteArray → Int → List Int → Int → Int → Option (List Int × Int × Int)
 |0,_,_,_,_,_=>none
 |k+1,x0,x2,x228000,x228001,x228002=>if (Int.tmod x228001 8)=0 then ((c05_number.f k x0 x228000 x228001 x228002 16).bind fun bt229=>((c05_number.f k x0 bt229.2.1 bt229.2.2.1 bt229.2.2.2 16).bind fun bt235=>(if bt235.2.2.2=0 then (if (wrap64 (bt229.1+bt235.1))=65535 then (c05_stored.l1 k x0 x2 bt229.1 0 bt235.2.1 bt235.2.2.1 bt235.2.2.2) else (some (bt235.2.1,bt235.2.2.1,3))) else (some (bt235.2.1,bt235.2.2.1,bt235.2.2.2))))) else (c05_stored.l0 k x0 x2 x228000 (wrap64 (x228001+1)) x228002)
def c05_stored.l1:Nat → ByteArray → Int → Int → Int → List Int → Int → Int → Option (List Int × Int × Int)
 |0,_,_,_,_,_,_,_=>none
 |k+1,x0,x2,x7,x9,x228000,x228001,x228002=>if x9 < 16 then ((c04_Bit.f k x0 (wrap64 ((wrap64 (x228001 - 32))+x9))).bind fun t241=>((c04_Bit.f k x0 (wrap64 ((wrap64 (x228001 - 16))+x9))).bind fun t242=>(if t241=t242 then (some (x228000,x228001,3)) else (c05_stored.l1 k x0 x2 x7 (wrap64 (x9+1)) x228000 x228001 x228002)))) else (if (wrap64 ((x228000.length:Int)+x7)) > x2 then (some (x228000,x228001,7)) else (if (wrap64 ((wrap64 (Int.tdiv x228001 8))+x7)) > (x0.size:Int) then (some (x228000,x228001,2)) else (c05_stored.l2 k x0 x7 (wrap64 (Int.tdiv x228001 8)) 0 x228000 x228001 x228002)))
def c05_stored.l2:Nat → ByteArray → Int → Int → Int → List Int → Int → Int → Option (List Int × Int × Int)
 |0,_,_,_,_,_,_,_=>none
 |k+1,x0,x7,x10,x11,x228000,x228001,x228002=>if x11 < x7 then (if 0≤(wrap64 (x10+x11)) then (if (wrap64 (x10+x11)) < (x0.size:Int) then (if x228000.length < 140737488355328 then (c05_stored.l2 k x0 x7 x10 (wrap64 (x11+1)) (x228000 ++ [bt x0 (wrap64 (x10+x11))]) x228001 x228002) else (none)) else (none)) else (none)) else (some (x228000,wrap64 (8*(wrap64 (x10+x7))),x228002))
end
def c05_stored.f (k:Nat) (a0:ByteArray) (l1_0:List Int) (a1_1:Int) (a1_2:Int) (a2:Int):Option (List Int × Int × Int):=c05_stored.l0 k a0 a2 l1_0 a1_1 a1_2
def c05_Length.l0:Nat → Int → Int → Int → Option (Int × Int)
 |0,_,_,_=>none
 |k+1,x5,x6,x7=>if x7 < x5 then (c05_Length.l0 k x5 (wrap64 (x6*2)) (wrap64 (x7+1))) else (some (wrap64 (x6+3),x5))
def c05_Length.f (k:Nat) (a0:Int):Option (Int × Int):=if (wrap64 (a0 - 257)) < 8 then (some (wrap64 ((wrap64 (a0 - 257))+3),0)) else (if (wrap64 (a0 - 257))=28 then (some (258,0)) else (c05_Length.l0 k (wrap64 ((wrap64 (Int.tdiv (wrap64 (a0 - 257)) 4)) - 1)) (wrap64 (4+(Int.tmod (wrap64 (a0 - 257)) 4))) 0))
theorem c05_Length.mono_l:∀ k,(∀ y0 y1 y2,LeO (c05_Length.l0 k y0 y1 y2) (c05_Length.l0 (k+1) y0 y1 y2))
 |0=>fun _ _ _ r h=>by simp [c05_Length.l0] at h
 |k+1=>by
  have ih0:=c05_Length.mono_l k
  ·intro y0 y1 y2;unfold c05_Length.l0;repeat' first
   |(with_reducible exact ih0 _ _ _)
   |(with_reducible exact LeO.refl _)
   |(with_reducible exact LeO.none _)
   |(with_reducible refine LeO.ite ?_ ?_)
   |(with_reducible refine LeO.bind ?_ (fun _=>?_))
   |exact ih0 _ _ _
   |exact LeO.none _
   |refine LeO.ite ?_ ?_
   |refine LeO.bind ?_ (fun _=>?_)
theorem c05_Length.mono:∀ a0 k,LeO (c05_Length.f k a0) (c05_Length.f (k+1) a0):=by
 intro a0 k;have ih0:=c05_Length.mono_l k;unfold c05_Length.f
 repeat' first
   |(with_reducible exact ih0 _ _ _)
   |(with_reducible exact LeO.refl _)
   |(with_reducible exact LeO.none _)
   |(with_reducible refine LeO.ite ?_ ?_)
   |(with_reducible refine LeO.bind ?_ (fun _=>?_))
   |exact ih0 _ _ _
   |exact LeO.none _
   |refine LeO.ite ?_ ?_
   |refine LeO.bind ?_ (fun _=>?_)
def c05_Distance.l0:Nat → Int → Int → Int → Option (Int × Int)
 |0,_,_,_=>none
 |k+1,x4,x5,x6=>if x6 < x4 then (c05_Distance.l0 k x4 (wrap64 (x5*2)) (wrap64 (x6+1))) else (some (wrap64 (x5+1),x4))
def c05_Distance.f (k:Nat) (a0:Int):Option (Int × Int):=if a0 < 4 then (some (wrap64 (a0+1),0)) else (c05_Distance.l0 k (wrap64 ((wrap64 (Int.tdiv a0 2)) - 1)) (wrap64 (2+(Int.tmod a0 2))) 0)
theorem c05_Distance.mono_l:∀ k,(∀ y0 y1 y2,LeO (c05_Distance.l0 k y0 y1 y2) (c05_Distance.l0 (k+1) y0 y1 y2))
 |0=>fun _ _ _ r h=>by simp [c05_Distance.l0] at h
 |k+1=>by
  have ih0:=c05_Distance.mono_l k
  ·intro y0 y1 y2;unfold c05_Distance.l0;repeat' first
   |(with_reducible exact ih0 _ _ _)
   |(with_reducible exact LeO.refl _)
   |(with_reducible exact LeO.none _)
   |(with_reducible refine LeO.ite ?_ ?_)
   |(with_reducible refine LeO.bind ?_ (fun _=>?_))
   |exact ih0 _ _ _
   |exact LeO.none _
   |refine LeO.ite ?_ ?_
   |refine LeO.bind ?_ (fun _=>?_)
theorem c05_Distance.mono:∀ a0 k,LeO (c05_Distance.f k a0) (c05_Distance.f (k+1) a0):=by
 intro a0 k;have ih0:=c05_Distance.mono_l k;unfold c05_Distance.f
 repeat' first
   |(with_reducible exact ih0 _ _ _)
   |(with_reducible exact LeO.refl _)
   |(with_reducible exact LeO.none _)
   |(with_reducible refine LeO.ite ?_ ?_)
   |(with_reducible refine LeO.bind ?_ (fun _=>?_))
   |exact ih0 _ _ _
   |exact LeO.none _
   |refine LeO.ite ?_ ?_
   |refine LeO.bind ?_ (fun _=>?_)
def c05_symbol.f (k:Nat) (a0:ByteArray) (l1_0:List Int) (a1_1:Int) (a1_2:Int) (l2:List Int):Option (Int × List Int × Int × Int):=if a1_2=0 then ((c04_Next.f k l2 a0 a1_1).bind fun bt248=>(some (bt248.1,l1_0,bt248.2.1,bt248.2.2))) else (some (0,l1_0,a1_1,a1_2))
mutual
def c05_codes.j0:Nat → ByteArray → Int → List Int → List Int → List Int → Int → Int → Option (List Int × Int × Int)
 |0,_,_,_,_,_,_,_=>none
 |k+1,x0,x2,x3,x4,x252000,x252001,x252002=>if x252002=0 then ((c04_Error.f k x4).bind fun t254=>(c05_codes.j1 k x0 x2 x3 x4 x252000 x252001 t254)) else (c05_codes.j1 k x0 x2 x3 x4 x252000 x252001 x252002)
def c05_codes.j1:Nat → ByteArray → Int → List Int → List Int → List Int → Int → Int → Option (List Int × Int × Int)
 |0,_,_,_,_,_,_,_=>none
 |k+1,x0,x2,x3,x4,x252000,x252001,x252002=>c05_codes.l0 k x0 x2 x3 x4 x252000 x252001 x252002
def c05_codes.l0:Nat → ByteArray → Int → List Int → List Int → List Int → Int → Int → Option (List Int × Int × Int)
 |0,_,_,_,_,_,_,_=>none
 |k+1,x0,x2,x3,x4,x252000,x252001,x252002=>if x252002=0 then ((c05_symbol.f k x0 x252000 x252001 x252002 x3).bind fun bt255=>(if bt255.2.2.2=0 then (c05_codes.j3 k x0 x2 x3 x4 bt255.1 (bt255.1 == 256) bt255.2.1 bt255.2.2.1 bt255.2.2.2) else (c05_codes.j3 k x0 x2 x3 x4 bt255.1 true bt255.2.1 bt255.2.2.1 bt255.2.2.2))) else (some (x252000,x252001,x252002))
def c05_codes.j3:Nat → ByteArray → Int → List Int → List Int → Int → Bool → List Int → Int → Int → Option (List Int × Int × Int)
 |0,_,_,_,_,_,_,_,_,_=>none
 |k+1,x0,x2,x3,x4,x11,x45,x252000,x252001,x252002=>if x45=true then (some (x252000,x252001,x252002)) else (if x11 < 256 then (if (x252000.length:Int) ≥ x2 then (some (x252000,x252001,7)) else (if x252000.length < 140737488355328 then (c05_codes.l0 k x0 x2 x3 x4 (x252000 ++ [(x11) % 256]) x252001 x252002) else (none))) else (if x11 > 285 then (some (x252000,x252001,3)) else ((c05_Length.f k x11).bind fun bt264=>((c05_number.f k x0 x252000 x252001 x252002 bt264.2).bind fun bt266=>((c05_symbol.f k x0 bt266.2.1 bt266.2.2.1 bt266.2.2.2 x4).bind fun bt272=>(if bt272.2.2.2=0 then (c05_codes.j4 k x0 x2 x3 x4 (wrap64 (bt264.1+bt266.1)) bt272.1 (decide (bt272.1 > 29)) bt272.2.1 bt272.2.2.1 bt272.2.2.2) else (c05_codes.j4 k x0 x2 x3 x4 (wrap64 (bt264.1+bt266.1)) bt272.1 false bt272.2.1 bt272.2.2.1 bt272.2.2.2)))))))
def c05_codes.j4:Nat → ByteArray → Int → List Int → List Int → Int → Int → Bool → List Int → Int → Int → Option (List Int × Int × Int)
 |0,_,_,_,_,_,_,_,_,_,_=>none
 |k+1,x0,x2,x3,x4,x11,x12,x95,x252000,x252001,x252002=>if x95=true then (c05_codes.j5 k x0 x2 x3 x4 x11 x12 x252000 x252001 3) else (c05_codes.j5 k x0 x2 x3 x4 x11 x12 x252000 x252001 x252002)
def c05_codes.j5:Nat → ByteArray → Int → List Int → List Int → Int → Int → List Int → Int → Int → Option (List Int × Int × Int)
 |0,_,_,_,_,_,_,_,_,_=>none
 |k+1,x0,x2,x3,x4,x11,x12,x252000,x252001,x252002=>if x252002=0 then ((c05_Distance.f k x12).bind fun bt278=>((c05_number.f k x0 x252000 x252001 x252002 bt278.2).bind fun bt280=>(if bt280.2.2.2=0 then (if (wrap64 (bt278.1+bt280.1)) > (bt280.2.1.length:Int) then (some (bt280.2.1,bt280.2.2.1,3)) else (if (wrap64 ((bt280.2.1.length:Int)+x11)) > x2 then (some (bt280.2.1,bt280.2.2.1,7)) else (c05_codes.l1 k x0 x2 x3 x4 x11 (wrap64 (bt278.1+bt280.1)) 0 bt280.2.1 bt280.2.2.1 bt280.2.2.2))) else (some (bt280.2.1,bt280.2.2.1,bt280.2.2.2))))) else (some (x252000,x252001,x252002))
def c05_codes.l1:Nat → ByteArray → Int → List Int → List Int → Int → Int → Int → List Int → Int → Int → Option (List Int × Int × Int)
 |0,_,_,_,_,_,_,_,_,_,_=>none
 |k+1,x0,x2,x3,x4,x11,x12,x16,x252000,x252001,x252002=>if x16 < x11 then (if 0≤(wrap64 ((x252000.length:Int) - x12)) then (if (wrap64 ((x252000.length:Int) - x12)) < (x252000.length:Int) then (if x252000.length < 140737488355328 then (c05_codes.l1 k x0 x2 x3 x4 x11 x12 (wrap64 (x16+1)) (x252000 ++ [rd x252000 (wrap64 ((x252000.length:Int) - x12))]) x252001 x252002) else (none)) else (none)) else (none)) else (c05_codes.l0 k x0 x2 x3 x4 x252000 x252001 x252002)
end
def c05_codes.f (k:Nat) (a0:ByteArray) (l1_0:List Int) (a1_1:Int) (a1_2:Int) (a2:Int) (l3:List Int) (l4:List Int):Option (List Int × Int × Int):=if a1_2=0 then ((c04_Error.f k l3).bind fun t253=>(c05_codes.j0 k a0 a2 l3 l4 l1_0 a1_1 t253)) else (c05_codes.j0 k a0 a2 l3 l4 l1_0 a1_1 a1_2)
mutual
def c05_lengths.j0:Nat → ByteArray → Int → Int → Int → Bool → List Int → Int → Int → Option (List Int × List Int × List Int × Int × Int)
 |0,_,_,_,_,_,_,_,_=>none
 |k+1,x0,x7,x8,x9,x47,x291000,x291001,x291002=>if x47=true then (c05_lengths.j1 k x0 x7 x8 x9 x291000 x291001 3) else (c05_lengths.j1 k x0 x7 x8 x9 x291000 x291001 x291002)
def c05_lengths.j1:Nat → ByteArray → Int → Int → Int → List Int → Int → Int → Option (List Int × List Int × List Int × Int × Int)
 |0,_,_,_,_,_,_,_=>none
 |k+1,x0,x7,x8,x9,x291000,x291001,x291002=>if 19≤35184372088832 then (c05_lengths.l0 k x0 x7 x8 x9 (List.replicate 19 0) (([16,17,18,0,8,7,9,6,10,5,11,4,12,3,13,2,14,1,15]:List Int)) 0 x291000 x291001 x291002) else (none)
def c05_lengths.l0:Nat → ByteArray → Int → Int → Int → List Int → List Int → Int → List Int → Int → Int → Option (List Int × List Int × List Int × Int × Int)
 |0,_,_,_,_,_,_,_,_,_,_=>none
 |k+1,x0,x7,x8,x9,x10,x11,x12,x291000,x291001,x291002=>if x12 < (wrap64 (x9+4)) then (if 0≤x12 then (if x12 < (x11.length:Int) then ((c05_number.f k x0 x291000 x291001 x291002 3).bind fun bt317=>(if 0≤(rd x11 x12) then (if (rd x11 x12) < (x10.length:Int) then (c05_lengths.l0 k x0 x7 x8 x9 (x10.set ((rd x11 x12):Int).toNat bt317.1) x11 (wrap64 (x12+1)) bt317.2.1 bt317.2.2.1 bt317.2.2.2) else (none)) else (none))) else (none)) else (none)) else (if x291002=0 then ((c04_Error.f k x10).bind fun t324=>(c05_lengths.j3 k x0 x7 x8 x10 x291000 x291001 t324)) else (c05_lengths.j3 k x0 x7 x8 x10 x291000 x291001 x291002))
def c05_lengths.j3:Nat → ByteArray → Int → Int → List Int → List Int → Int → Int → Option (List Int × List Int × List Int × Int × Int)
 |0,_,_,_,_,_,_,_=>none
 |k+1,x0,x7,x8,x10,x291000,x291001,x291002=>c05_lengths.l1 k x0 x7 x10 ([]:List Int) (wrap64 ((wrap64 (x7+x8))+258)) x291000 x291001 x291002
def c05_lengths.j8:Nat → Int → List Int → Int → List Int → Int → Int → Option (List Int × List Int × List Int × Int × Int)
 |0,_,_,_,_,_,_=>none
 |k+1,x7,x13,x14,x291000,x291001,x291002=>if x291002=0 then (if (x13.length:Int)=x14 then (if 256 < (x13.length:Int) then (c05_lengths.j9 k x7 x13 ((rd x13 256) == 0) x291000 x291001 x291002) else (none)) else (c05_lengths.j9 k x7 x13 true x291000 x291001 x291002)) else (c05_lengths.j9 k x7 x13 false x291000 x291001 x291002)
def c05_lengths.j9:Nat → Int → List Int → Bool → List Int → Int → Int → Option (List Int × List Int × List Int × Int × Int)
 |0,_,_,_,_,_,_=>none
 |k+1,x7,x13,x169,x291000,x291001,x291002=>if x169=true then (if 3=0 then (if 0≤(wrap64 (x7+257)) then (if (wrap64 (x7+257)) < (x13.length:Int) then (some (x13,(([wrap64 (x7+257)]:List Int)),x291000,x291001,3)) else (none)) else (none)) else (some (([]:List Int),([]:List Int),x291000,x291001,3))) else (if x291002=0 then (if 0≤(wrap64 (x7+257)) then (if (wrap64 (x7+257)) < (x13.length:Int) then (some (x13,(([wrap64 (x7+257)]:List Int)),x291000,x291001,x291002)) else (none)) else (none)) else (some (([]:List Int),([]:List Int),x291000,x291001,x291002)))
def c05_lengths.l1:Nat → ByteArray → Int → List Int → List Int → Int → List Int → Int → Int → Option (List Int × List Int × List Int × Int × Int)
 |0,_,_,_,_,_,_,_,_=>none
 |k+1,x0,x7,x10,x13,x14,x291000,x291001,x291002=>if x291002=0 then (c05_lengths.j5 k x0 x7 x10 x13 x14 (decide ((x13.length:Int) < x14)) x291000 x291001 x291002) else (c05_lengths.j5 k x0 x7 x10 x13 x14 false x291000 x291001 x291002)
def c05_lengths.j5:Nat → ByteArray → Int → List Int → List Int → Int → Bool → List Int → Int → Int → Option (List Int × List Int × List Int × Int × Int)
 |0,_,_,_,_,_,_,_,_,_=>none
 |k+1,x0,x7,x10,x13,x14,x87,x291000,x291001,x291002=>if x87=true then ((c05_symbol.f k x0 x291000 x291001 x291002 x10).bind fun bt325=>(if bt325.2.2.2=0 then (if bt325.1 < 16 then (if x13.length < 17592186044416 then (c05_lengths.l1 k x0 x7 x10 (x13 ++ [bt325.1]) x14 bt325.2.1 bt325.2.2.1 bt325.2.2.2) else (none)) else (if bt325.1=16 then (if (x13.length:Int)=0 then (some (([]:List Int),([]:List Int),bt325.2.1,bt325.2.2.1,3)) else (if 0≤(wrap64 ((x13.length:Int) - 1)) then (if (wrap64 ((x13.length:Int) - 1)) < (x13.length:Int) then ((c05_number.f k x0 bt325.2.1 bt325.2.2.1 bt325.2.2.2 2).bind fun bt335=>(c05_lengths.j6 k x0 x7 x10 x13 x14 (rd x13 (wrap64 ((x13.length:Int) - 1))) (wrap64 (bt335.1+3)) bt335.2.1 bt335.2.2.1 bt335.2.2.2)) else (none)) else (none))) else (if bt325.1=17 then ((c05_number.f k x0 bt325.2.1 bt325.2.2.1 bt325.2.2.2 3).bind fun bt341=>(c05_lengths.j6 k x0 x7 x10 x13 x14 0 (wrap64 (bt341.1+3)) bt341.2.1 bt341.2.2.1 bt341.2.2.2)) else (if bt325.1=18 then ((c05_number.f k x0 bt325.2.1 bt325.2.2.1 bt325.2.2.2 7).bind fun bt347=>(c05_lengths.j6 k x0 x7 x10 x13 x14 0 (wrap64 (bt347.1+11)) bt347.2.1 bt347.2.2.1 bt347.2.2.2)) else (c05_lengths.j6 k x0 x7 x10 x13 x14 0 0 bt325.2.1 bt325.2.2.1 bt325.2.2.2))))) else (c05_lengths.j8 k x7 x13 x14 bt325.2.1 bt325.2.2.1 bt325.2.2.2))) else (c05_lengths.j8 k x7 x13 x14 x291000 x291001 x291002)
def c05_lengths.j6:Nat → ByteArray → Int → List Int → List Int → Int → Int → Int → List Int → Int → Int → Option (List Int × List Int × List Int × Int × Int)
 |0,_,_,_,_,_,_,_,_,_,_=>none
 |k+1,x0,x7,x10,x13,x14,x16,x17,x291000,x291001,x291002=>c05_lengths.l2 k x0 x7 x10 x13 x14 x16 x17 0 x291000 x291001 x291002
def c05_lengths.l2:Nat → ByteArray → Int → List Int → List Int → Int → Int → Int → Int → List Int → Int → Int → Option (List Int × List Int × List Int × Int × Int)
 |0,_,_,_,_,_,_,_,_,_,_,_=>none
 |k+1,x0,x7,x10,x13,x14,x16,x17,x18,x291000,x291001,x291002=>if x18 < x17 then (if x13.length < 17592186044416 then (c05_lengths.l2 k x0 x7 x10 (x13 ++ [x16]) x14 x16 x17 (wrap64 (x18+1)) x291000 x291001 x291002) else (none)) else (c05_lengths.l1 k x0 x7 x10 x13 x14 x291000 x291001 x291002)
end
def c05_lengths.f (k:Nat) (a0:ByteArray) (l1_0:List Int) (a1_1:Int) (a1_2:Int):Option (List Int × List Int × List Int × Int × Int):=(c05_number.f k a0 l1_0 a1_1 a1_2 5).bind fun bt292=>((c05_number.f k a0 bt292.2.1 bt292.2.2.1 bt292.2.2.2 5).bind fun bt298=>((c05_number.f k a0 bt298.2.1 bt298.2.2.1 bt298.2.2.2 4).bind fun bt304=>(if bt304.2.2.2=0 then (if bt292.1 > 29 then (c05_lengths.j0 k a0 bt292.1 bt298.1 bt304.1 true bt304.2.1 bt304.2.2.1 bt304.2.2.2) else (c05_lengths.j0 k a0 bt292.1 bt298.1 bt304.1 (decide (bt298.1 > 29)) bt304.2.1 bt304.2.2.1 bt304.2.2.2)) else (c05_lengths.j0 k a0 bt292.1 bt298.1 bt304.1 false bt304.2.1 bt304.2.2.1 bt304.2.2.2))))
def c05_lencodes.f (k:Nat) (a0:ByteArray) (l1_0:List Int) (a1_1 a1_2 a2:Int):Option (List Int × Int × Int):=(c05_lengths.f k a0 l1_0 a1_1 a1_2).bind fun q=>c05_codes.f k a0 q.2.2.1 q.2.2.2.1 q.2.2.2.2 a2 (q.1.take (q.2.1.headD 0).toNat) (q.1.drop (q.2.1.headD 0).toNat)
mutual
def c05_Raw.j0:Nat → ByteArray → Int → Bool → Option (ByteArray × Int × Int)
 |0,_,_,_=>none
 |k+1,x0,x1,x20=>if x20=true then (some ((⟨#[]⟩:ByteArray),0,1)) else (c05_Raw.l0 k x0 x1 0 ([]:List Int) 0 0)
def c05_Raw.l0:Nat → ByteArray → Int → Int → List Int → Int → Int → Option (ByteArray × Int × Int)
 |0,_,_,_,_,_,_=>none
 |k+1,x0,x1,x8,x366000,x366001,x366002=>if x8=0 then (c05_Raw.j2 k x0 x1 (x366002 == 0) x366000 x366001 x366002) else (c05_Raw.j2 k x0 x1 false x366000 x366001 x366002)
def c05_Raw.j2:Nat → ByteArray → Int → Bool → List Int → Int → Int → Option (ByteArray × Int × Int)
 |0,_,_,_,_,_,_=>none
 |k+1,x0,x1,x28,x366000,x366001,x366002=>if x28=true then ((c05_number.f k x0 x366000 x366001 x366002 1).bind fun bt366=>((c05_number.f k x0 bt366.2.1 bt366.2.2.1 bt366.2.2.2 2).bind fun bt372=>(if bt372.2.2.2=0 then (if bt372.1=0 then ((c05_stored.f k x0 bt372.2.1 bt372.2.2.1 bt372.2.2.2 x1).bind fun bt378=>(c05_Raw.j3 k x0 x1 bt366.1 bt372.1 bt378.1 bt378.2.1 bt378.2.2)) else (c05_Raw.j3 k x0 x1 bt366.1 bt372.1 bt372.2.1 bt372.2.2.1 bt372.2.2.2)) else (some ((⟨#[]⟩:ByteArray),0,bt372.2.2.2))))) else (if x366002=0 then (some (strOfNums x366000,wrap64 (Int.tdiv (wrap64 (x366001+7)) 8),0)) else (some ((⟨#[]⟩:ByteArray),0,x366002)))
def c05_Raw.j3:Nat → ByteArray → Int → Int → Int → List Int → Int → Int → Option (ByteArray × Int × Int)
 |0,_,_,_,_,_,_,_=>none
 |k+1,x0,x1,x8,x9,x366000,x366001,x366002=>if x9=1 then ((c05_Plain.f k).bind fun bt383=>((c05_codes.f k x0 x366000 x366001 x366002 x1 bt383.1 bt383.2).bind fun bt389=>(c05_Raw.j4 k x0 x1 x8 x9 bt389.1 bt389.2.1 bt389.2.2))) else (c05_Raw.j4 k x0 x1 x8 x9 x366000 x366001 x366002)
def c05_Raw.j4:Nat → ByteArray → Int → Int → Int → List Int → Int → Int → Option (ByteArray × Int × Int)
 |0,_,_,_,_,_,_,_=>none
 |k+1,x0,x1,x8,x9,x366000,x366001,x366002=>if x9=2 then ((c05_lencodes.f k x0 x366000 x366001 x366002 x1).bind fun bt394=>(if x9=3 then (c05_Raw.l0 k x0 x1 x8 bt394.1 bt394.2.1 3) else (c05_Raw.l0 k x0 x1 x8 bt394.1 bt394.2.1 bt394.2.2))) else (if x9=3 then (c05_Raw.l0 k x0 x1 x8 x366000 x366001 3) else (c05_Raw.l0 k x0 x1 x8 x366000 x366001 x366002))
end
def c05_Raw.f (k:Nat) (a0:ByteArray) (a1:Int):Option (ByteArray × Int × Int):=if a1 < 0 then (c05_Raw.j0 k a0 a1 true) else (c05_Raw.j0 k a0 a1 (decide (a1 > 262144)))
end Go.Proofs.Ytpbhkdamkbopkaa.GInfr
namespace Go.Proofs.Ytpbhkdamkbopkaa.RefA
open Go.RowKit Ext GHuff YtpbhkdamkbopkaaW.PrintWords YtpbhkdamkbopkaaW.PrintLast YtpbhkdamkbopkaaW.PrintMore
theorem bit_is' (s : ByteArray) (hs : s.size ≤ 140737488351232) (p : Int) (h0 : 0 ≤ p) (hp : p ≤ 9223372036854775807) :
  huff_Bit.f s p=if p < 8*s.size then some (bitN s p,true) else some (0,false):=bit_is s hs p h0 hp
theorem refbit_l (p:Int) (h0:0≤p) (d:Nat):∀ (x:Int) (i:Nat),0≤x → x≤255 → (i:Int)+d=p % 8 → Ev (fun k=>c04_Bit.l0 k p x i) (x / 2 ^ d % 2):=by
 induction d with
 |zero =>
  intro x i hx0 hx1 hi;refine Ev.step (f:=fun _=>some (x / 2 ^ 0 % 2)) (fun k=>?_) (Ev.now _);simp only [c04_Bit.l0];rw [Int.tmod_eq_emod_of_nonneg h0,if_neg (by omega),Int.tmod_eq_emod_of_nonneg hx0];simp
 |succ d ih =>
  intro x i hx0 hx1 hi
  have e:x / 2 ^ (d+1)=x / 2 / 2 ^ d:=by
   rw [Int.pow_succ,Int.mul_comm,Int.ediv_ediv_of_nonneg (by decide)]
  rw [e];refine Ev.step (fun k=>?_) (ih (x / 2) (i+1) (by omega) (by omega) (by omega));simp only [c04_Bit.l0];rw [Int.tmod_eq_emod_of_nonneg h0,if_pos (by omega),Int.tdiv_eq_ediv_of_nonneg hx0,wrap_in (n:=x / 2) (by omega) (by omega),wrap_in (n:=(i:Int)+1) (by omega) (by omega)];rfl
theorem refbit_is (s : ByteArray) (hs : s.size ≤ 140737488351232) (p : Int) (hp : p ≤ 9223372036854775807) (hp' : -9223372036854775808 ≤ p) :
  Ev (fun k=>c04_Bit.f k s p) (if 0≤p∧p < 8*s.size then bitN s p else -1):=by
 by_cases h0:p < 0
 ·rw [if_neg (by omega)];refine Ev.congr (f:=fun k=>c04_Bit.j0 k s p true) (fun k=>by unfold c04_Bit.f;rw [if_pos h0]) ?_;exact Ev.step (fun k=>by simp only [c04_Bit.j0];rw [if_pos trivial]) (Ev.now _)
 have h0':0≤p:=by omega
 refine Ev.congr (f:=fun k=>c04_Bit.j0 k s p (decide (p / 8 ≥ s.size))) (fun k=>by
  unfold c04_Bit.f;rw [if_neg h0,Int.tdiv_eq_ediv_of_nonneg h0',wrap_in (n:=p / 8) (by omega) (by omega)]) ?_
 by_cases h1:p < 8*s.size;rotate_left
 ·rw [if_neg (by omega),decide_eq_true (by omega)];exact Ev.step (fun k=>by simp only [c04_Bit.j0];rw [if_pos trivial]) (Ev.now _)
 rw [if_pos ⟨h0',h1⟩,decide_eq_false (by omega)];have hb:=bt_range s (p / 8);have hl:=refbit_l p h0' (p % 8).toNat (bt s (p / 8)) 0 hb.1 hb.2 (by omega);refine Ev.step (fun k=>?_) hl;simp only [c04_Bit.j0];rw [if_neg (by simp),Int.tdiv_eq_ediv_of_nonneg h0',wrap_in (n:=p / 8) (by omega) (by omega),if_pos (by omega),if_pos (by omega),wrap_in (n:=bt s (p / 8)) (by omega) (by omega)];rfl
def Bn (s:ByteArray) (pos:Int):Nat → Int
 |0=>0
 |i+1=>Bn s pos i+2 ^ i*bitN s (pos+i)
theorem Bn_rng (s:ByteArray) (pos:Int) (n:Nat):0≤Bn s pos n∧Bn s pos n < 2 ^ n:=by
 induction n with
 |zero=>simp [Bn]
 |succ n ih =>
  have hb:=bitN_rng s (pos+n);have hp:(0:Int) < 2 ^ n:=Int.pow_pos (by decide);simp only [Bn];rw [Int.pow_succ]
  rcases (by omega:bitN s (pos+n)=0 ∨ bitN s (pos+n)=1) with h | h <;> rw [h] <;> omega
theorem pow_16 (n:Nat) (h:n≤16):(1:Int)≤2 ^ n∧(2:Int) ^ n≤65536:=by
 have h1:2 ^ n≤2 ^ 16:=Nat.pow_le_pow_right (by decide) h;have h2:1≤2 ^ n:=Nat.one_le_two_pow;have e:((2 ^ n:Nat):Int)=(2:Int) ^ n:=by rw [Int.natCast_pow];rfl
 rw [← e];omega
theorem refbits_l (s : ByteArray) (hs : s.size ≤ 140737488351232) (pos : Int) (h0 : 0 ≤ pos) (hp : pos ≤ 4611686018427387904) (n : Nat) (hn : n ≤ 16) (d : Nat) : ∀ (i : Nat), i + d = n → (i = 0 ∨ pos + i ≤ 8 * s.size) →
  Ev (fun k=>c04_Bits.l0 k s pos n (Bn s pos i) (2 ^ i) i) (if pos+n≤8*s.size then (Bn s pos n,pos+n,0) else (0,0,2)):=by
 induction d with
 |zero =>
  intro i hi hb;obtain rfl:i=n:=by omega
  refine Ev.step (f:=fun _=>some (if pos+i≤8*s.size then (Bn s pos i,pos+i,0) else (0,0,2))) (fun k=>?_) (Ev.now _);simp only [c04_Bits.l0];rw [if_neg (by omega),wrap_in (n:=8*(s.size:Int)) (by omega) (by omega),wrap_in (n:=pos+i) (by omega) (by omega)];by_cases hi0:i=0
  ·subst hi0;rw [if_pos (by rfl)];by_cases h:pos > 8*s.size
   ·rw [if_pos h,if_neg (by omega)]
   ·rw [if_neg h,if_pos (by omega)]
  ·rw [if_neg (by omega),if_pos (by omega)]
 |succ d ih =>
  intro i hi hb;obtain ⟨K1,hbit⟩:=refbit_is s hs (pos+i) (by omega) (by omega)
  dsimp only at hbit
  have hwp:wrap64 (pos+i)=pos+i:=wrap_in (by omega) (by omega);by_cases h:pos+i < 8*s.size;rotate_left
  ·rw [if_neg (by omega)] at hbit;rw [if_neg (by omega)];(have hin:(i:Int) < n:=by omega);refine ⟨K1+1,fun k hk=>?_⟩;obtain ⟨k,rfl⟩:∃ m,k=m+1:=⟨k - 1,by omega⟩;simp only [c04_Bits.l0];rw [if_pos hin,hwp,hbit k (by omega)];simp only [Option.bind_some];rw [if_pos (by decide)]
  rw [if_pos (show 0≤pos+(i:Int)∧pos+(i:Int) < 8*s.size from ⟨by omega,h⟩)] at hbit;have hbr:=bitN_rng s (pos+i);have hBr:=Bn_rng s pos i;have hpw:=pow_16 i (by omega);obtain ⟨K2,hi'⟩:=ih (i+1) (by omega) (.inr (by omega))
  dsimp only at hi'
  have e1:Bn s pos (i+1)=Bn s pos i+2 ^ i*bitN s (pos+i):=rfl;have e2:(2:Int) ^ (i+1)=2 ^ i*2:=Int.pow_succ 2 i;rw [e1,e2] at hi';have hm0:0≤2 ^ i*bitN s (pos+i):=Int.mul_nonneg (by omega) hbr.1;have hm1:2 ^ i*bitN s (pos+i)≤65536*1:=Int.mul_le_mul hpw.2 hbr.2 hbr.1 (by omega);have e3:wrap64 ((i:Int)+1)=((i+1:Nat):Int):=by rw [wrap_in (by omega) (by omega)];rfl
  have e4:wrap64 (2 ^ i*bitN s (pos+i))=2 ^ i*bitN s (pos+i):=wrap_in (by omega) (by omega);have e5:wrap64 ((2:Int) ^ i*2)=2 ^ i*2:=wrap_in (by omega) (by omega);have e6:wrap64 (Bn s pos i+2 ^ i*bitN s (pos+i))=Bn s pos i+2 ^ i*bitN s (pos+i):=wrap_in (by omega) (by omega);have hin:(i:Int) < n:=by omega
  have hb0:¬ bitN s (pos+i) < 0:=by omega
  refine ⟨K1+K2+1,fun k hk=>?_⟩;obtain ⟨k,rfl⟩:∃ m,k=m+1:=⟨k - 1,by omega⟩;simp only [c04_Bits.l0];rw [if_pos hin,hwp,hbit k (by omega)];simp only [Option.bind_some];rw [if_neg hb0,e4,e5,e6,e3];exact hi' k (by omega)
def bitsOf (s:ByteArray) (pos n:Int):Int × Int × Int :=
 if pos < 0 ∨ n < 0 ∨ 16 < n then (0,0,1) else if pos+n≤8*s.size then (Bn s pos n.toNat,pos+n,0) else (0,0,2)
theorem refbits_is (s:ByteArray) (hs:s.size≤140737488351232) (pos n:Int) (hp:pos≤9223372036854775807):Ev (fun k=>c04_Bits.f k s pos n) (bitsOf s pos n):=by
 have herr:Ev (fun k=>c04_Bits.j0 k s pos n true) (0,0,1):=Ev.step (fun k=>by simp only [c04_Bits.j0];rw [if_pos trivial]) (Ev.now _);unfold bitsOf;by_cases h0:pos < 0
 ·rw [if_pos (.inl h0)];exact Ev.congr (fun k=>by unfold c04_Bits.f;rw [if_pos h0]) herr
 by_cases h1:n < 0
 ·rw [if_pos (.inr (.inl h1))];exact Ev.congr (fun k=>by unfold c04_Bits.f;rw [if_neg h0,if_pos h1]) herr
 by_cases h2:n > 16
 ·rw [if_pos (.inr (.inr h2))];exact Ev.congr (fun k=>by unfold c04_Bits.f;rw [if_neg h0,if_neg h1,decide_eq_true h2]) herr
 rw [if_neg (by omega)];obtain ⟨m,rfl⟩:∃ m:Nat,n=m:=⟨n.toNat,by omega⟩;rw [Int.toNat_natCast];by_cases hbig:pos≤4611686018427387904
 ·obtain ⟨K,h⟩:=refbits_l s hs pos (by omega) hbig m (by omega) m 0 (by omega) (.inl rfl);refine ⟨K+1,fun k hk=>?_⟩;obtain ⟨k,rfl⟩:∃ q,k=q+1:=⟨k - 1,by omega⟩
  dsimp only
  unfold c04_Bits.f;rw [if_neg h0,if_neg h1,decide_eq_false h2];simp only [c04_Bits.j0];rw [if_neg (by simp)];exact h k (by omega)
 have e8:wrap64 (8*(s.size:Int))=8*s.size:=wrap_in (by omega) (by omega);rw [if_neg (by omega)];by_cases hm:m=0
 ·subst hm;refine ⟨2,fun k hk=>?_⟩;obtain ⟨k,rfl⟩:∃ q,k=q+2:=⟨k - 2,by omega⟩
  dsimp only
  unfold c04_Bits.f;rw [if_neg h0,if_neg h1,decide_eq_false h2];simp only [c04_Bits.j0];rw [if_neg (by simp)];simp only [c04_Bits.l0];rw [if_neg (by simp),if_pos (by rfl),e8,if_pos (by omega)]
 obtain ⟨K1,hbit⟩:=refbit_is s hs pos hp (by omega)
 dsimp only at hbit
 rw [if_neg (by omega)] at hbit;refine ⟨K1+2,fun k hk=>?_⟩;obtain ⟨k,rfl⟩:∃ q,k=q+2:=⟨k - 2,by omega⟩
 dsimp only
 unfold c04_Bits.f;rw [if_neg h0,if_neg h1,decide_eq_false h2];simp only [c04_Bits.j0];rw [if_neg (by simp)];simp only [c04_Bits.l0];rw [if_pos (by omega),Int.add_zero,wrap_in (n:=pos) (by omega) hp,hbit k (by omega)];simp only [Option.bind_some];rw [if_pos (by decide)]
theorem or_comm64 (x y:Int):Go.bits .or .i64 x y=Go.bits .or .i64 y x:=by unfold Go.bits;simp only;rw [BitVec.or_comm]
theorem or_shl (v b:Int) (i:Nat) (hi:i < 16) (hv0:0≤v) (hv:v < 2 ^ i) (hb0:0≤b) (hb:b≤1):Go.bits .or .i64 v (wrap64 (b*2 ^ (min (i:Int).toNat 64)))=v+2 ^ i*b:=by
 have hpw:=pow_16 i (by omega);have hm0:0≤b*2 ^ i:=Int.mul_nonneg hb0 (by omega);have hm1:b*2 ^ i≤1*65536:=Int.mul_le_mul hb hpw.2 (by omega) (by omega)
 have e:wrap64 (b*2 ^ (min (i:Int).toNat 64))=b*2 ^ i:=by
  rw [Int.toNat_natCast,Nat.min_eq_left (by omega)];unfold wrap64;omega
 rw [e,or_comm64];have hw:∀ n:Int,0≤n → n < 2 ^ 40 → IntKind.i64.wrap n=n:=fun n h₀ h₁=>by rw [IntKind.wrap_i64];omega
 rw [Go.bits_join .i64 40 (by decide) hw i (b*2 ^ i) v hm0 (Int.mul_emod_left _ _) (by omega) hv0 hv (by omega),Int.mul_comm b];omega
theorem bits_l (s : ByteArray) (hs : s.size ≤ 140737488351232) (pos : Int) (h0 : 0 ≤ pos) (n : Nat) (hn : n ≤ 16) (hb : pos + n ≤ 8 * s.size) (d : Nat) : ∀ (i : Nat), i + d = n →
  Ev (fun k=>huff_Bits.l0 k s pos n (Bn s pos i) n i) (Bn s pos n,pos+n,0):=by
 induction d with
 |zero =>
  intro i hi;obtain rfl:i=n:=by omega
  refine Ev.step (f:=fun _=>some (Bn s pos i,pos+i,0)) (fun k=>?_) (Ev.now _);simp only [huff_Bits.l0];rw [if_neg (by omega),wrap_in (n:=pos+i) (by omega) (by omega)]
 |succ d ih =>
  intro i hi;obtain ⟨K,h⟩:=ih (i+1) (by omega)
  dsimp only at h
  have hbr:=bitN_rng s (pos+i);have hBr:=Bn_rng s pos i;have hwp:wrap64 (pos+i)=pos+i:=wrap_in (by omega) (by omega);have e3:wrap64 ((i:Int)+1)=((i+1:Nat):Int):=by rw [wrap_in (by omega) (by omega)];rfl
  have e1:Bn s pos (i+1)=Bn s pos i+2 ^ i*bitN s (pos+i):=rfl;have hin:(i:Int) < n:=by omega
  have hbt:=bit_is' s hs (pos+i) (by omega) (by omega);rw [if_pos (by omega)] at hbt;refine ⟨K+1,fun k hk=>?_⟩;obtain ⟨k,rfl⟩:∃ m,k=m+1:=⟨k - 1,by omega⟩;simp only [huff_Bits.l0];rw [if_pos hin,hwp,hbt];simp only [Option.bind_some];rw [if_pos (Int.natCast_nonneg _),or_shl _ _ i (by omega) hBr.1 hBr.2 hbr.1 hbr.2,e3,← e1];exact h k (by omega)
theorem bits_is (s:ByteArray) (hs:s.size≤140737488351232) (pos n:Int) (hp:pos≤9223372036854775807):Ev (fun k=>huff_Bits.f k s pos n) (bitsOf s pos n):=by
 have herr:Ev (fun k=>huff_Bits.j0 k s pos n true) (0,0,1):=Ev.step (fun k=>by simp only [huff_Bits.j0];rw [if_pos trivial]) (Ev.now _);unfold bitsOf;by_cases h0:pos < 0
 ·rw [if_pos (.inl h0)];exact Ev.congr (fun k=>by unfold huff_Bits.f;rw [if_pos h0]) herr
 by_cases h1:n < 0
 ·rw [if_pos (.inr (.inl h1))];exact Ev.congr (fun k=>by unfold huff_Bits.f;rw [if_neg h0,if_pos h1]) herr
 by_cases h2:n > 16
 ·rw [if_pos (.inr (.inr h2))];exact Ev.congr (fun k=>by unfold huff_Bits.f;rw [if_neg h0,if_neg h1,decide_eq_true h2]) herr
 rw [if_neg (by omega)];have e8:wrap64 (8*(s.size:Int))=8*s.size:=wrap_in (by omega) (by omega);have e9:wrap64 (8*(s.size:Int) - n)=8*s.size - n:=wrap_in (by omega) (by omega);obtain ⟨m,rfl⟩:∃ m:Nat,n=m:=⟨n.toNat,by omega⟩;rw [Int.toNat_natCast];by_cases hb:pos+m≤8*s.size;rotate_left
 ·rw [if_neg hb];refine ⟨1,fun k hk=>?_⟩;obtain ⟨k,rfl⟩:∃ q,k=q+1:=⟨k - 1,by omega⟩
  dsimp only
  unfold huff_Bits.f;rw [if_neg h0,if_neg h1,decide_eq_false h2];simp only [huff_Bits.j0];rw [if_neg (by simp),e8,e9,if_pos (by omega)]
 rw [if_pos hb];obtain ⟨K,h⟩:=bits_l s hs pos (by omega) m (by omega) hb m 0 (by omega)
 dsimp only at h
 refine ⟨K+1,fun k hk=>?_⟩;obtain ⟨k,rfl⟩:∃ q,k=q+1:=⟨k - 1,by omega⟩
 dsimp only
 unfold huff_Bits.f;rw [if_neg h0,if_neg h1,decide_eq_false h2];simp only [huff_Bits.j0];rw [if_neg (by simp),e8,e9,if_neg (by omega)];exact h k (by omega)
def half (n:Nat):Int:=32768 / 2 ^ n
theorem half_succ (n:Nat):half (n+1)=half n / 2:=by
 unfold half;rw [Int.pow_succ,Int.ediv_ediv_of_nonneg (Int.le_of_lt (Int.pow_pos (by decide)))]
theorem half_rng (n:Nat):0≤half n∧half n≤32768:=by
 unfold half;exact ⟨Int.ediv_nonneg (by decide) (Int.le_of_lt (Int.pow_pos (by decide))),Int.ediv_le_self _ (by decide)⟩
theorem half_is (n:Nat) (h:n≤15):half n=2 ^ (15 - n):=by
 unfold half;have e:(32768:Int)=2 ^ (15 - n)*2 ^ n:=by rw [← Int.pow_add,show 15 - n+n=15 by omega];decide
 rw [e,Int.mul_ediv_cancel _ (Int.ne_of_gt (Int.pow_pos (by decide)))]
def takes (l:List Int):Nat → Int
 |0=>0
 |k+1=>takes l k+if 0 < l.getD k 0 then half (l.getD k 0).toNat else 0
def manyK (l:List Int):Nat → Int
 |0=>0
 |k+1=>manyK l k+if 0 < l.getD k 0 then 1 else 0
def onesK (l:List Int):Nat → Int
 |0=>0
 |k+1=>onesK l k+if l.getD k 0=1 then 1 else 0
theorem takes_rng (l:List Int) (k:Nat):0≤takes l k∧takes l k≤32768*k∧0≤manyK l k∧manyK l k≤k∧0≤onesK l k∧onesK l k≤k:=by
 induction k with
 |zero=>simp [takes,manyK,onesK]
 |succ k ih =>
  have:=half_rng (l.getD k 0).toNat;simp only [takes,manyK,onesK];by_cases h:0 < l.getD k 0
  ·rw [if_pos h,if_pos h]
   split <;> omega
  ·rw [if_neg h,if_neg h,if_neg (by omega)];omega
theorem referr_l1 (l : List Int) (hl : l.length ≤ 320) (i : Nat) (hi : i < l.length) (n : Nat) (hn : l.getD i 0 = n) (hn1 : n ≤ 15) (x3 x4 x5 : Int) (h3 : 0 ≤ x3) (h3' : x3 ≤ 32768 * 400) (h5 : 0 ≤ x5) (h5' : x5 ≤ 400) (r : Int)
  (h:Ev (fun k=>c04_Error.l0 k l (x3+half n) x4 (x5+if n=1 then 1 else 0) ((i+1:Nat):Int)) r) (d:Nat):∀ j:Nat,j+d=n →
  Ev (fun k=>c04_Error.l1 k l x3 x4 x5 i (half j) j) r:=by
 have hrd:rd l i=n:=by rw [rd_nat];exact hn
 have hi1:(i:Int) < l.length:=by omega
 have e1:wrap64 ((i:Int)+1)=((i+1:Nat):Int):=by rw [wrap_in (by omega) (by omega)];rfl
 induction d with
 |zero =>
  intro j hj;obtain rfl:j=n:=by omega
  have hh:=half_rng j;obtain ⟨K,h⟩:=h
  dsimp only at h
  refine ⟨K+1,fun k hk=>?_⟩;obtain ⟨k,rfl⟩:∃ q,k=q+1:=⟨k - 1,by omega⟩;have h':=h k (by omega);simp only [c04_Error.l1];have e2:wrap64 (x3+half j)=x3+half j:=wrap_in (by omega) (by omega);have e3:wrap64 (x5+1)=x5+1:=wrap_in (by omega) (by omega);rw [if_pos (Int.natCast_nonneg _),if_pos hi1,hrd,if_neg (Int.lt_irrefl _),e2,e3,e1];by_cases hj1:j=1
  ·rw [if_pos hj1] at h';rw [if_pos (by exact_mod_cast hj1)];exact h'
  ·rw [if_neg hj1,Int.add_zero] at h';rw [if_neg (by exact_mod_cast hj1)];exact h'
 |succ d ih =>
  intro j hj;obtain ⟨K,hd⟩:=ih (j+1) (by omega)
  dsimp only at hd
  have hh:=half_rng j;rw [half_succ] at hd;refine ⟨K+1,fun k hk=>?_⟩;obtain ⟨k,rfl⟩:∃ q,k=q+1:=⟨k - 1,by omega⟩;simp only [c04_Error.l1];have e2:wrap64 (half j / 2)=half j / 2:=wrap_in (by omega) (by omega);have e3:wrap64 ((j:Int)+1)=((j+1:Nat):Int):=by rw [wrap_in (by omega) (by omega)];rfl
  have hjn:(j:Int) < n:=by omega
  rw [if_pos (Int.natCast_nonneg _),if_pos hi1,hrd,if_pos hjn,Int.tdiv_eq_ediv_of_nonneg hh.1,e2,e3];exact hd k (by omega)
def refErrOf (l:List Int):Int:=if takes l l.length=32768 then 0 else if manyK l l.length=0 then 0 else if manyK l l.length=1 then (if onesK l l.length=1 then 0 else 4) else 4
theorem referr_l0 (l : List Int) (hl : l.length ≤ 320) (d : Nat) : ∀ i : Nat, i + d = l.length → (∀ q : Nat, q < i → badLen (rd l q) = false) →
  Ev (fun k=>c04_Error.l0 k l (takes l i) (manyK l i) (onesK l i) i) (if okL l=true then refErrOf l else 1):=by
 induction d with
 |zero =>
  intro i hi hg;obtain rfl:i=l.length:=by omega
  rw [if_pos ((ok_is l).1 hg)];refine Ev.step (f:=fun _=>some (refErrOf l)) (fun k=>?_) (Ev.now _);simp only [c04_Error.l0];rw [if_neg (by omega)];unfold refErrOf;repeat' split
  all_goals rfl
 |succ d ih =>
  intro i hi hg;have hil:(i:Int) < l.length:=by omega
  by_cases hb:badLen (rd l i)=true
  ·have hok : ¬ okL l = true := fun h => by
    have:=(ok_is l).2 h i (by omega);rw [hb] at this;cases this
   rw [if_neg hok];refine ⟨2,fun k hk=>?_⟩;obtain ⟨k,rfl⟩:∃ q,k=q+2:=⟨k - 2,by omega⟩;simp only [c04_Error.l0];rw [if_pos hil,if_pos (Int.natCast_nonneg _)];by_cases h0:rd l i < 0
   ·rw [if_pos h0];simp only [c04_Error.j1];rw [if_pos trivial]
   ·rw [if_neg h0,decide_eq_true (by simp [badLen] at hb;omega)];simp only [c04_Error.j1];rw [if_pos trivial]
  have hb':badLen (rd l i)=false:=by simpa using hb
  obtain ⟨n,en,hn⟩:=good_is l i hb'
  have hgi:∀ q:Nat,q < i+1 → badLen (rd l q)=false:=fun q hq=>by
   rcases Nat.lt_or_ge q i with h | h
   ·exact hg q h
   ·obtain rfl:q=i:=by omega
    exact hb'
  have hi':=ih (i+1) (by omega) hgi;have hg0:l.getD i 0=n:=by rw [← rd_nat];exact en
  have htr:=takes_rng l i;have e4:Aside0 (wrap64 (manyK l i+1)=manyK l i+1):=⟨wrap_in (by omega) (by omega)⟩;have e1:Aside0 (wrap64 ((i:Int)+1)=((i+1:Nat):Int)):=⟨by rw [wrap_in (by omega) (by omega)];rfl⟩;simp only [takes,manyK,onesK] at hi';rw [hg0,Int.toNat_natCast] at hi';by_cases hn0:n=0
  ·subst hn0;rw [if_neg (by simp),if_neg (by simp),if_neg (by simp),Int.add_zero,Int.add_zero,Int.add_zero] at hi';obtain ⟨K,hK⟩:=hi'
   dsimp only at hK
   refine ⟨K+2,fun k hk=>?_⟩;obtain ⟨k,rfl⟩:∃ q,k=q+2:=⟨k - 2,by omega⟩;simp only [c04_Error.l0];rw [if_pos hil,if_pos (Int.natCast_nonneg _),en,if_neg (by simp),decide_eq_false (by simp)];simp only [c04_Error.j1];rw [if_neg (by simp),if_pos (Int.natCast_nonneg _),if_pos hil,en,if_neg (by simp),if_neg (by simp),e1.out];exact hK k (by omega)
  rw [if_pos (by omega),if_pos (by omega)] at hi'
  have hif:(if (n:Int)=1 then (1:Int) else 0)=if n=1 then 1 else 0:=by
   by_cases h:n=1
   ·rw [if_pos h,if_pos (by exact_mod_cast h)]
   ·rw [if_neg h,if_neg (by exact_mod_cast h)]
  rw [hif] at hi';have hl1:=referr_l1 l hl i (by omega) n hg0 (by omega) (takes l i) (manyK l i+1) (onesK l i) htr.1 (by omega) htr.2.2.2.2.1 (by omega) _ hi' n 0 (by omega);rw [show half 0=32768 from rfl] at hl1;obtain ⟨K,hK⟩:=hl1
  dsimp only at hK
  refine ⟨K+2,fun k hk=>?_⟩;obtain ⟨k,rfl⟩:∃ q,k=q+2:=⟨k - 2,by omega⟩;simp only [c04_Error.l0];rw [if_pos hil,if_pos (Int.natCast_nonneg _),en,if_neg (by omega),decide_eq_false (by omega)];simp only [c04_Error.j1];rw [if_neg (by simp),if_pos (Int.natCast_nonneg _),if_pos hil,en,if_pos (by omega),e4.out];exact hK k (by omega)
end Go.Proofs.Ytpbhkdamkbopkaa.RefA
namespace Go.Proofs.Ytpbhkdamkbopkaa.RefA
open Go.RowKit Ext GHuff YtpbhkdamkbopkaaW.PrintWords YtpbhkdamkbopkaaW.PrintLast YtpbhkdamkbopkaaW.PrintMore
theorem cz_snoc (a:List Int) (x:Int) (n:Nat) (h:n < 16):cz (a ++ [x]) n=cz a n+if x=n∧0 < n then 1 else 0:=by
 unfold cz;rw [List.getD_eq_getElem?_getD,List.getD_eq_getElem?_getD,cnts_get _ _ h,cnts_get _ _ h];simp only [Option.getD_some];by_cases h0:n=0
 ·rw [if_pos h0,if_pos h0,if_neg (by omega)];rfl
 ·rw [if_neg h0,if_neg h0,cnt_snoc];by_cases hx:x=(n:Int)
  ·rw [if_pos hx,if_pos ⟨hx,by omega⟩]
  ·rw [if_neg hx,if_neg (fun h=>hx h.1)]
theorem room_snoc (a:List Int) (x:Int) (n:Nat) (h:n≤16):roomN (cnts (a ++ [x])) n=roomN (cnts a) n - if 0 < x∧x < n then 2 ^ (15 - x.toNat) else 0:=by
 induction n with
 |zero=>rw [if_neg (by omega)];rfl
 |succ n ih =>
  have h1:roomN (cnts (a ++ [x])) (n+1)=roomN (cnts (a ++ [x])) n - cz (a ++ [x]) n*2 ^ (15 - n):=rfl;have h2:roomN (cnts a) (n+1)=roomN (cnts a) n - cz a n*2 ^ (15 - n):=rfl;have hc:=cz_snoc a x n (by omega);rw [h1,h2,ih (by omega)];by_cases hx:x=(n:Int);rotate_left
  ·rw [if_neg (show ¬ (x=(n:Int)∧0 < n) from fun h=>hx h.1),Int.add_zero] at hc;rw [hc];by_cases h3:0 < x∧x < n
   ·rw [if_pos h3,if_pos (show 0 < x∧x < ((n+1:Nat):Int) by omega)];omega
   ·rw [if_neg h3,if_neg (show ¬ (0 < x∧x < ((n+1:Nat):Int)) by omega)];omega
  by_cases h0:0 < n
  ·rw [if_pos (show x=(n:Int)∧0 < n from ⟨hx,h0⟩)] at hc;rw [hc,if_neg (show ¬ (0 < x∧x < (n:Int)) by omega),if_pos (show 0 < x∧x < ((n+1:Nat):Int) by omega),Int.add_mul,hx,Int.toNat_natCast];omega
  ·rw [if_neg (show ¬ (x=(n:Int)∧0 < n) by omega)] at hc;rw [hc,if_neg (show ¬ (0 < x∧x < (n:Int)) by omega),if_neg (show ¬ (0 < x∧x < ((n+1:Nat):Int)) by omega),Int.add_zero];omega
theorem many_snoc (a:List Int) (x:Int) (n:Nat) (h:n≤16):manyN (cnts (a ++ [x])) n=manyN (cnts a) n+if 0 < x∧x < n then 1 else 0:=by
 induction n with
 |zero=>rw [if_neg (by omega)];rfl
 |succ n ih =>
  have h1:manyN (cnts (a ++ [x])) (n+1)=manyN (cnts (a ++ [x])) n+cz (a ++ [x]) n:=rfl;have h2:manyN (cnts a) (n+1)=manyN (cnts a) n+cz a n:=rfl;have hc:=cz_snoc a x n (by omega);rw [h1,h2,ih (by omega)];by_cases hx:x=(n:Int);rotate_left
  ·rw [if_neg (show ¬ (x=(n:Int)∧0 < n) from fun h=>hx h.1),Int.add_zero] at hc;rw [hc];by_cases h3:0 < x∧x < n
   ·rw [if_pos h3,if_pos (show 0 < x∧x < ((n+1:Nat):Int) by omega)];omega
   ·rw [if_neg h3,if_neg (show ¬ (0 < x∧x < ((n+1:Nat):Int)) by omega)];omega
  by_cases h0:0 < n
  ·rw [if_pos (show x=(n:Int)∧0 < n from ⟨hx,h0⟩)] at hc;rw [hc,if_neg (show ¬ (0 < x∧x < (n:Int)) by omega),if_pos (show 0 < x∧x < ((n+1:Nat):Int) by omega)];omega
  ·rw [if_neg (show ¬ (x=(n:Int)∧0 < n) by omega)] at hc;rw [hc,if_neg (show ¬ (0 < x∧x < (n:Int)) by omega),if_neg (show ¬ (0 < x∧x < ((n+1:Nat):Int)) by omega),Int.add_zero];omega
theorem room_nil (n:Nat) (h:n≤16):roomN (cnts []) n=32768∧manyN (cnts []) n=0:=by
 have hz:∀ m,cz [] m=0:=fun m=>by have:=cz_rng [] m;simp at this;omega
 induction n with
 |zero=>exact ⟨rfl,rfl⟩
 |succ n ih =>
  have h1:roomN (cnts []) (n+1)=roomN (cnts []) n - cz [] n*2 ^ (15 - n):=rfl;have h2:manyN (cnts []) (n+1)=manyN (cnts []) n+cz [] n:=rfl;rw [h1,h2,hz n,(ih (by omega)).1,(ih (by omega)).2];simp
theorem ok_at (l:List Int) (h:okL l=true) (i:Nat) (hi:i < l.length):∃ n:Nat,l.getD i 0=n∧n≤15:=by
 obtain ⟨n,e,hn⟩:=good_is l i ((ok_is l).2 h i hi);exact ⟨n,by rw [← rd_nat];exact e,by omega⟩
theorem takes_is (l:List Int) (h:okL l=true):∀ k,k≤l.length → takes l k=32768 - roomN (cnts (l.take k)) 16∧manyK l k=manyN (cnts (l.take k)) 16∧onesK l k=cnt (l.take k) 1:=by
 intro k
 induction k with
 |zero=>intro _;rw [List.take_zero,(room_nil 16 (Nat.le_refl _)).1,(room_nil 16 (Nat.le_refl _)).2];simp [takes,manyK,onesK,cnt]
 |succ k ih =>
  intro hk;obtain ⟨h1,h2,h3⟩:=ih (by omega);obtain ⟨n,en,hn⟩:=ok_at l h k (by omega);rw [take_snoc' l k (by omega),room_snoc _ _ 16 (Nat.le_refl _),many_snoc _ _ 16 (Nat.le_refl _),cnt_snoc,en];simp only [takes,manyK,onesK];rw [h1,h2,h3,en,Int.toNat_natCast,half_is n hn];refine ⟨?_,?_,rfl⟩
  ·by_cases h0:0 < (n:Int)
   ·rw [if_pos h0,if_pos ⟨h0,by omega⟩];omega
   ·rw [if_neg h0,if_neg (fun h=>h0 h.1)];omega
  ·by_cases h0:0 < (n:Int)
   ·rw [if_pos h0,if_pos ⟨h0,by omega⟩]
   ·rw [if_neg h0,if_neg (fun h=>h0 h.1)]
theorem refErr_is (l:List Int) (h:okL l=true):refErrOf l=if badSum l=true then 4 else 0:=by
 obtain ⟨h1,h2,h3⟩:=takes_is l h l.length (Nat.le_refl _);rw [List.take_length] at h1 h2 h3;have hG:=Gn_room l 15 (Nat.le_refl _);have hS:=many_Sn l 15 (Nat.le_refl _);have hc1:cz l 1=cnt l 1:=cz_is l 1 (by decide) (by decide);rw [show (15:Nat)+1=16 from rfl] at hG hS;simp only [Nat.sub_self,Int.pow_zero,Int.mul_one] at hG
 have hz:Sn l 15=0 → Gn l 15=0:=fun h0=>by
  have:=Gn_stop l 0 15 (by decide) (by decide) (by rw [h0];rfl);rw [Gn_zero] at this
  simpa using this
 have ho:Sn l 15=1 → cz l 1=1 → Gn l 15=16384:=fun h0 hc=>by
  have hs1:=Sn_succ l 0 (by decide);have hs0:Sn l 0=0:=rfl;have:=Gn_stop l 1 15 (by decide) (by decide) (by rw [h0,hs1,hs0,hc];rfl);rw [this,Gn_succ,Gn_zero,hc];decide
 have hs0:0≤Sn l 15:=Int.natCast_nonneg _;unfold refErrOf badSum;rw [h1,h2,h3,hS];rw [hS] at h2;generalize roomN (cnts l) 16=r at *;generalize Sn l 15=m at *;rw [hc1] at ho;generalize cnt l 1=c at *;generalize Gn l 15=g at *;by_cases hr:r=0
 ·subst hr;rw [if_pos (by omega),if_neg (by simp)]
 rw [if_neg (by omega)];by_cases hm:m=0
 ·have:=hz hm;rw [if_pos hm,if_neg];subst hm;simp;omega
 rw [if_neg hm];by_cases hm1:m=1;rotate_left
 ·rw [if_neg hm1,if_pos];simp [hm1];omega
 rw [if_pos hm1];by_cases hcc:c=1
 ·have:=ho hm1 hcc;rw [if_pos hcc,if_neg];subst hm1 hcc;simp;omega
 ·rw [if_neg hcc,if_pos];subst hm1;simp [hcc];omega
theorem referr_is (l:List Int):Ev (fun k=>c04_Error.f k l) (errOf l):=by
 unfold errOf;by_cases h:320 < l.length
 ·rw [if_pos h];exact Ev.congr (f:=fun _=>some 1) (fun k=>by unfold c04_Error.f;rw [if_pos (by omega)]) (Ev.now _)
 rw [if_neg h];have h0:=referr_l0 l (by omega) l.length 0 (by omega) (fun q hq=>absurd hq (Nat.not_lt_zero q))
 have e:(if okL l=true then refErrOf l else 1)=if okL l=false then 1 else if badSum l=true then 4 else 0:=by
  by_cases hk:okL l=true
  ·rw [if_pos hk,if_neg (by rw [hk];decide),refErr_is l hk]
  ·rw [if_neg hk,if_pos (by simpa using hk)]
 rw [e] at h0;exact Ev.congr (fun k=>by unfold c04_Error.f;rw [if_neg (by omega)];rfl) h0
def ahead (l:List Int) (i:Nat):Nat → Int
 |0=>0
 |q+1=>ahead l i q+if 0 < l.getD q 0∧(l.getD q 0 < l.getD i 0 ∨ l.getD q 0=l.getD i 0∧q < i) then half (l.getD q 0).toNat else 0
theorem ahead_rng (l:List Int) (i q:Nat):0≤ahead l i q∧ahead l i q≤32768*q:=by
 induction q with
 |zero=>simp [ahead]
 |succ q ih =>
  have:=half_rng (l.getD q 0).toNat;simp only [ahead]
  split <;> omega
theorem ahead_is (l : List Int) (h : okL l = true) (i : Nat) (hi : i < l.length) (n : Nat) (hn : l.getD i 0 = n) (h0 : 0 < n) (hn15 : n ≤ 15) : ∀ q, q ≤ l.length →
  ahead l i q=32768 - roomN (cnts (l.take q)) n+((idxN l n (min q i)).length:Int)*2 ^ (15 - n):=by
 intro q
 induction q with
 |zero=>intro _;rw [List.take_zero,(room_nil n (by omega)).1,Nat.zero_min];simp [ahead,idxN]
 |succ q ih =>
  intro hq;obtain ⟨m,em,hm⟩:=ok_at l h q (by omega);have ih:=ih (by omega);rw [take_snoc' l q (by omega),room_snoc _ _ n (by omega),em];simp only [ahead];rw [ih,em,hn,Int.toNat_natCast,half_is m hm];by_cases hqi:q < i;rotate_left
  ·rw [show min (q+1) i=i by omega,show min q i=i by omega];by_cases hlt:0 < (m:Int)∧(m:Int) < n
   ·rw [if_pos hlt,if_pos (show 0 < (m:Int)∧((m:Int) < n ∨ (m:Int)=n∧q < i) from ⟨hlt.1,.inl hlt.2⟩)];omega
   ·rw [if_neg hlt,if_neg (show ¬ (0 < (m:Int)∧((m:Int) < n ∨ (m:Int)=n∧q < i)) by omega)];omega
  rw [show min (q+1) i=q+1 by omega,show min q i=q by omega,idxN_succ,em,List.length_append];by_cases hmn:m=n
  ·subst hmn;rw [if_pos (show 0 < (m:Int)∧((m:Int) < m ∨ (m:Int)=m∧q < i) from ⟨by omega,.inr ⟨rfl,hqi⟩⟩),if_neg (show ¬ (0 < (m:Int)∧(m:Int) < m) by omega),if_pos rfl];simp only [List.length_singleton,Int.natCast_add,Int.add_mul];omega
  have hz:((idxN l n q).length+(if (m:Int)=(n:Int) then [(q:Int)] else []).length:Nat)=(idxN l n q).length:=by
   rw [if_neg (by omega)];rfl
  rw [hz];by_cases hlt:0 < (m:Int)∧(m:Int) < n
  ·rw [if_pos hlt,if_pos (show 0 < (m:Int)∧((m:Int) < n ∨ (m:Int)=n∧q < i) from ⟨hlt.1,.inl hlt.2⟩)];omega
  ·rw [if_neg hlt,if_neg (show ¬ (0 < (m:Int)∧((m:Int) < n ∨ (m:Int)=n∧q < i)) by omega)];omega
theorem firstC_room (l:List Int) (n:Nat) (h0:0 < n) (hn:n≤15):firstC l n*2 ^ (15 - n)=32768 - roomN (cnts l) n:=by
 obtain ⟨m,rfl⟩:∃ m,n=m+1:=⟨n - 1,by omega⟩;have h1:=Gn_room l m (by omega);rw [pow_split m hn] at h1;rw [firstC_succ,Int.mul_comm 2,Int.mul_assoc];exact h1
theorem ahead_code (l:List Int) (h:okL l=true) (i:Nat) (hi:i < l.length) (n:Nat) (hn:l.getD i 0=n) (h0:0 < n) (hn15:n≤15):ahead l i l.length / 2 ^ (15 - n)=codeAt l i:=by
 rw [ahead_is l h i hi n hn h0 hn15 l.length (Nat.le_refl _),List.take_length,← firstC_room l n h0 hn15,show min l.length i=i by omega,← Int.add_mul,
  Int.mul_ediv_cancel _ (Int.ne_of_gt (Int.pow_pos (by decide)))]
 unfold codeAt;rw [rank_n l i n hn,hn,Int.toNat_natCast]
theorem refcodes_l2 (l out : List Int) (i q : Nat) (hq : q < l.length) (n : Nat) (hn : l.getD q 0 = n) (hn15 : n ≤ 15) (sum : Int) (hs0 : 0 ≤ sum) (hs1 : sum ≤ 32768 * 400) (hl : l.length ≤ 320) (r : List Int)
  (h:Ev (fun k=>c04_Codes.l1 k l out i (sum+half n) ((q+1:Nat):Int)) r) (d:Nat):∀ j:Nat,j+d=n →
  Ev (fun k=>c04_Codes.l2 k l out i sum q (half j) j) r:=by
 have hrd:rd l q=n:=by rw [rd_nat];exact hn
 have hq1:(q:Int) < l.length:=by omega
 have e1:Aside0 (wrap64 ((q:Int)+1)=((q+1:Nat):Int)):=⟨by rw [wrap_in (by omega) (by omega)];rfl⟩
 induction d with
 |zero =>
  intro j hj;obtain rfl:j=n:=by omega
  have hh:=half_rng j;obtain ⟨K,h⟩:=h
  dsimp only at h
  have e2:Aside0 (wrap64 (sum+half j)=sum+half j):=⟨wrap_in (by omega) (by omega)⟩;refine ⟨K+1,fun k hk=>?_⟩;obtain ⟨k,rfl⟩:∃ q,k=q+1:=⟨k - 1,by omega⟩;simp only [c04_Codes.l2];rw [if_pos (Int.natCast_nonneg _),if_pos hq1,hrd,if_neg (Int.lt_irrefl _),e2.out,e1.out];exact h k (by omega)
 |succ d ih =>
  intro j hj;obtain ⟨K,hd⟩:=ih (j+1) (by omega)
  dsimp only at hd
  have hh:=half_rng j;rw [half_succ] at hd;have hjn:(j:Int) < n:=by omega
  have e2:Aside0 (wrap64 (half j / 2)=half j / 2):=⟨wrap_in (by omega) (by omega)⟩;have e3:Aside0 (wrap64 ((j:Int)+1)=((j+1:Nat):Int)):=⟨by rw [wrap_in (by omega) (by omega)];rfl⟩;refine ⟨K+1,fun k hk=>?_⟩;obtain ⟨k,rfl⟩:∃ q,k=q+1:=⟨k - 1,by omega⟩;simp only [c04_Codes.l2];rw [if_pos (Int.natCast_nonneg _),if_pos hq1,hrd,if_pos hjn,Int.tdiv_eq_ediv_of_nonneg hh.1,e2.out,e3.out];exact hd k (by omega)
theorem refcodes_l3 (l out : List Int) (i : Nat) (hi : i < out.length) (hol : out.length ≤ 320) (r : List Int) (d : Nat) : ∀ (j : Nat) (sum : Int), j + d = 15 → 0 ≤ sum → sum ≤ 32768 * 400 →
  Ev (fun k=>c04_Codes.l0 k l (out.set i (sum / 2 ^ d)) ((i+1:Nat):Int)) r → Ev (fun k=>c04_Codes.l3 k l out i sum j) r:=by
 have e1:Aside0 (wrap64 ((i:Int)+1)=((i+1:Nat):Int)):=⟨by rw [wrap_in (by omega) (by omega)];rfl⟩
 induction d with
 |zero =>
  intro j sum hj hs0 hs1 h;obtain ⟨K,h⟩:=h
  dsimp only at h
  rw [Int.pow_zero,Int.ediv_one] at h;have hj':¬ (j:Int) < 15:=by omega
  have hi':(i:Int) < out.length:=by omega
  refine ⟨K+1,fun k hk=>?_⟩;obtain ⟨k,rfl⟩:∃ q,k=q+1:=⟨k - 1,by omega⟩;simp only [c04_Codes.l3];rw [if_neg hj',if_pos (Int.natCast_nonneg _),if_pos hi',Int.toNat_natCast,e1.out];exact h k (by omega)
 |succ d ih =>
  intro j sum hj hs0 hs1 h;have e:sum / 2 ^ (d+1)=sum / 2 / 2 ^ d:=by rw [Int.pow_succ,Int.mul_comm,Int.ediv_ediv_of_nonneg (by decide)]
  rw [e] at h;obtain ⟨K,h⟩:=ih (j+1) (sum / 2) (by omega) (by omega) (by omega) h
  dsimp only at h
  have hj':(j:Int) < 15:=by omega
  have e2:Aside0 (wrap64 (sum / 2)=sum / 2):=⟨wrap_in (by omega) (by omega)⟩;have e3:Aside0 (wrap64 ((j:Int)+1)=((j+1:Nat):Int)):=⟨by rw [wrap_in (by omega) (by omega)];rfl⟩;refine ⟨K+1,fun k hk=>?_⟩;obtain ⟨k,rfl⟩:∃ q,k=q+1:=⟨k - 1,by omega⟩;simp only [c04_Codes.l3];rw [if_pos hj',Int.tdiv_eq_ediv_of_nonneg hs0,e2.out,e3.out];exact h k (by omega)
theorem refcodes_l1 (l out : List Int) (hl : l.length ≤ 320) (hok : okL l = true) (i : Nat) (hi : i < l.length) (r : List Int)
  (h:Ev (fun k=>c04_Codes.l3 k l out i (ahead l i l.length) (l.getD i 0)) r) (d:Nat):∀ q:Nat,q+d=l.length →
  Ev (fun k=>c04_Codes.l1 k l out i (ahead l i q) q) r:=by
 have hri:rd l i=l.getD i 0:=rd_nat l i;have hi1:(i:Int) < l.length:=by omega
 induction d with
 |zero =>
  intro q hq;obtain rfl:q=l.length:=by omega
  obtain ⟨K,h⟩:=h
  dsimp only at h
  refine ⟨K+1,fun k hk=>?_⟩;obtain ⟨k,rfl⟩:∃ q,k=q+1:=⟨k - 1,by omega⟩;simp only [c04_Codes.l1];rw [if_neg (Int.lt_irrefl _),if_pos (Int.natCast_nonneg _),if_pos hi1,hri];exact h k (by omega)
 |succ d ih =>
  intro q hq;have hrq:rd l q=l.getD q 0:=rd_nat l q;have hq1:(q:Int) < l.length:=by omega
  obtain ⟨m,em,hm⟩:=ok_at l hok q (by omega);have hd:=ih (q+1) (by omega);have har:=ahead_rng l i q;have e1:Aside0 (wrap64 ((q:Int)+1)=((q+1:Nat):Int)):=⟨by rw [wrap_in (by omega) (by omega)];rfl⟩;simp only [ahead] at hd
  have key:Ev (fun k=>c04_Codes.j2 k l out i (ahead l i q) q (decide (0 < l.getD q 0∧(l.getD q 0 < l.getD i 0 ∨ l.getD q 0=l.getD i 0∧q < i)))) r:=by
   by_cases hc:0 < l.getD q 0∧(l.getD q 0 < l.getD i 0 ∨ l.getD q 0=l.getD i 0∧q < i)
   ·rw [decide_eq_true hc];rw [if_pos hc,em,Int.toNat_natCast] at hd;have h2:=refcodes_l2 l out i q (by omega) m em hm (ahead l i q) har.1 (by omega) hl r hd m 0 (by omega);exact Ev.step (fun k=>by simp only [c04_Codes.j2];rw [if_pos trivial];rfl) h2
   ·rw [decide_eq_false hc];rw [if_neg hc,Int.add_zero] at hd;exact Ev.step (fun k=>by simp only [c04_Codes.j2];rw [if_neg (by simp),e1.out]) hd
  refine Ev.step (fun k=>?_) key;simp only [c04_Codes.l1];rw [if_pos hq1,if_pos (Int.natCast_nonneg _),hrq,hri];by_cases h0:l.getD q 0 > 0;rotate_left
  ·rw [if_neg h0,decide_eq_false (fun h=>h0 h.1)]
  rw [if_pos h0,if_pos (Int.natCast_nonneg _),if_pos hi1];by_cases h1:l.getD q 0 < l.getD i 0
  ·rw [if_pos h1,decide_eq_true ⟨h0,.inl h1⟩]
  rw [if_neg h1];by_cases h2:l.getD q 0=l.getD i 0
  ·rw [if_pos h2]
   congr 1
   rw [Bool.eq_iff_iff];simp only [decide_eq_true_eq];omega
  ·rw [if_neg h2,decide_eq_false (fun h=>h.2.elim h1 (fun h=>h2 h.1))]
theorem set_mid (a b:List Int) (x v:Int) (i:Nat) (h:a.length=i):(a ++ x :: b).set i v=a ++ v :: b:=by
 subst h;simp [List.set_append]
theorem codesOf_length (l:List Int):(codesOf l).length=l.length:=by simp [codesOf]
theorem codesOf_get (l:List Int) (i:Nat) (hi:i < l.length):(codesOf l)[i]?=some (if l.getD i 0≤0 then 0 else codeAt l i):=by simp [codesOf,hi]
theorem refcodes_l0 (l : List Int) (hl : l.length ≤ 320) (hok : okL l = true) (d : Nat) : ∀ i : Nat, i + d = l.length →
  Ev (fun k=>c04_Codes.l0 k l ((codesOf l).take i ++ List.replicate d 0) i) (codesOf l):=by
 induction d with
 |zero =>
  intro i hi;obtain rfl:i=l.length:=by omega
  refine Ev.step (f:=fun _=>some (codesOf l)) (fun k=>?_) (Ev.now _);simp only [c04_Codes.l0];rw [if_neg (Int.lt_irrefl _),List.take_of_length_le (by rw [codesOf_length];omega)];simp
 |succ d ih =>
  intro i hi;have hd:=ih (i+1) (by omega);have hil:(i:Int) < l.length:=by omega
  have hri:rd l i=l.getD i 0:=rd_nat l i;have hget:=codesOf_get l i (by omega);have hci:i < (codesOf l).length:=by rw [codesOf_length];omega
  have e1:Aside0 (wrap64 ((i:Int)+1)=((i+1:Nat):Int)):=⟨by rw [wrap_in (by omega) (by omega)];rfl⟩
  have hset:∀ v,(codesOf l)[i]?=some v → ((codesOf l).take i ++ List.replicate (d+1) 0).set i v=(codesOf l).take (i+1) ++ List.replicate d 0:=by
   intro v hv;rw [List.take_succ_eq_append_getElem hci,List.replicate_succ,set_mid _ _ _ _ i (by rw [List.length_take];omega),List.append_assoc,List.singleton_append];rw [List.getElem?_eq_getElem hci] at hv;(injection hv with hv);rw [hv]
  obtain ⟨n,en,hn⟩:=ok_at l hok i (by omega);by_cases h0:l.getD i 0=0
  ·rw [if_pos (by omega)] at hget;have hs:=hset 0 hget
   have hsame:((codesOf l).take i ++ List.replicate (d+1) 0).set i 0=(codesOf l).take i ++ List.replicate (d+1) (0:Int):=by
    rw [List.replicate_succ,set_mid _ _ _ _ i (by rw [List.length_take];omega)]
   rw [hsame] at hs;rw [hs];refine Ev.step (fun k=>?_) hd;simp only [c04_Codes.l0];rw [if_pos hil,if_pos (Int.natCast_nonneg _),hri,if_pos h0,e1.out]
  rw [if_neg (by omega)] at hget;have hs:=hset _ hget
  have hol:((codesOf l).take i ++ List.replicate (d+1) (0:Int)).length=l.length:=by
   rw [List.length_append,List.length_take,List.length_replicate];omega
  have har:=ahead_rng l i l.length;rw [← hs,← ahead_code l hok i (by omega) n en (by omega) hn] at hd;have h3:=refcodes_l3 l _ i (by rw [hol];omega) (by rw [hol];omega) _ (15 - n) n (ahead l i l.length) (by omega) har.1 (by omega) hd;rw [← en] at h3;have h1:=refcodes_l1 l _ hl hok i (by omega) _ h3 l.length 0 (by omega);refine Ev.step (fun k=>?_) h1;simp only [c04_Codes.l0];rw [if_pos hil,if_pos (Int.natCast_nonneg _),hri,if_neg h0];rfl
theorem refcodes_is (l:List Int) (hl:l.length≤320) (hok:okL l=true):Ev (fun k=>c04_Codes.f k l) (codesOf l):=by
 refine Ev.congr (fun k=>?_) (refcodes_l0 l hl hok l.length 0 (by omega));unfold c04_Codes.f;rw [if_pos (Int.natCast_nonneg _),Int.toNat_natCast,if_pos (by omega)];rfl
end Go.Proofs.Ytpbhkdamkbopkaa.RefA
namespace Go.Proofs.Ytpbhkdamkbopkaa.RefA
open Go.RowKit Ext GHuff YtpbhkdamkbopkaaW.PrintWords YtpbhkdamkbopkaaW.PrintLast YtpbhkdamkbopkaaW.PrintMore
def Begins (l:List Int) (n:Nat) (v:Int) (i:Nat):Prop:=(n:Int) < l.getD i 0∧codeAt l i / 2 ^ ((l.getD i 0).toNat - n)=v
theorem full_begins (l:List Int) (hf:Gn l 15=32768) (n:Nat) (hn:n≤15) (v:Int) (h0:Gn l n≤v) (h1:v < 2 ^ n):∃ i:Nat,i < l.length∧Begins l n v i:=by
 have key:∀ m,n≤m → m≤15 → (∃ i:Nat,i < l.length∧Begins l n v i) ∨ Gn l m≤v*2 ^ (m - n):=by
  intro m
  induction m with
  |zero=>intro a b;obtain rfl:n=0:=(by omega);right;simpa using h0
  |succ m ih =>
   intro a b;by_cases e:n=m+1
   ·subst e;right;simpa using h0
   rcases ih (by omega) (by omega) with h | h
   ·exact .inl h
   ·by_cases hlt:v*2 ^ (m+1 - n) < Gn l (m+1)
    ·left
     have e2:v*2 ^ (m+1 - n)=2*(v*2 ^ (m - n)):=by
      rw [show m+1 - n=(m - n)+1 by omega,Int.pow_succ,← Int.mul_assoc,Int.mul_comm _ 2]
     (have hge:firstC l (m+1)≤v*2 ^ (m+1 - n):=by rw [firstC_succ,e2];omega);obtain ⟨i,_,hi,hli,hc⟩:=symbol_is l (m+1) (by omega) (by omega) _ hge hlt;refine ⟨i,hi,?_,?_⟩
     ·rw [hli];omega
     ·rw [hli,Int.toNat_natCast,hc,Int.mul_ediv_cancel _ (Int.ne_of_gt (Int.pow_pos (by decide)))]
    ·right;omega
 rcases key 15 hn (Nat.le_refl _) with h | h
 ·exact h
 ·exfalso
  rw [hf] at h;have h3:(2:Int) ^ n*2 ^ (15 - n)=32768:=by rw [← Int.pow_add,show n+(15 - n)=15 by omega];decide
  have h4:(0:Int) < 2 ^ (15 - n):=Int.pow_pos (by decide);have h5:v*2 ^ (15 - n) < 2 ^ n*2 ^ (15 - n):=Int.mul_lt_mul_of_pos_right h1 h4;omega
theorem begins_more (l:List Int) (hok:okL l=true) (n:Nat) (v:Int) (i:Nat) (hi:i < l.length) (h:Begins l n v i):Sn l n ≠ Sn l 15:=by
 obtain ⟨m,em,hm⟩:=ok_at l hok i hi;have h1:=h.1;rw [em] at h1;have h2:=symbol_at l i m (by omega) (by omega) hi em;have h3:0 < cz l m:=by have:=h2.1;have:=h2.2.1;unfold Gn at *;omega
 obtain ⟨q,rfl⟩:∃ q,m=q+1:=⟨m - 1,by omega⟩;have h4:=Sn_succ l q (by omega);have h5:=Sn_mono l n q (by omega) (by omega);have h6:=Sn_mono l (q+1) 15 hm (Nat.le_refl _);omega
theorem begins_iff (l:List Int) (hok:okL l=true) (hb:badSum l=false) (n:Nat) (hn:n≤15) (v:Int) (h0:Gn l n≤v) (hv0:0≤v) (h1:v < 2 ^ n):(∃ i:Nat,i < l.length∧Begins l n v i) ↔ Sn l n ≠ Sn l 15:=by
 constructor
 ·rintro ⟨i,hi,h⟩;exact begins_more l hok n v i hi h
 ·intro hs
  rcases good_sum l hb with hf | ⟨h2,_⟩ | ⟨h2,h3,_⟩
  ·exact full_begins l hf n hn v h0 h1
  ·exfalso
   have h4:=Sn_mono l n 15 hn (Nat.le_refl _);have h5:0≤Sn l n:=Int.natCast_nonneg _;omega
  ·by_cases hn0:n=0
   ·subst hn0;(have hv:v=0:=by simp at h1;omega);have hs1:=Gn_succ l 0;rw [Gn_zero,h3] at hs1;(have hf1:firstC l 1=0:=by rw [firstC_succ,Gn_zero];rfl);obtain ⟨i,_,hi,hli,hc⟩:=symbol_is l 1 (by decide) (by decide) 0 (by rw [hf1];decide) (by rw [hs1];decide);refine ⟨i,hi,?_,?_⟩
    ·rw [hli];decide
    ·rw [hc,hv];simp
   ·exfalso
    have h4:=Sn_mono l 1 n (by omega) hn;have h5:Sn l 1=Sn l 0+cz l 1:=Sn_succ l 0 (by decide);have h6:Sn l 0=0:=rfl;have h7:=Sn_mono l n 15 hn (Nat.le_refl _);omega
theorem codesOf_rng (l:List Int) (hl:l.length≤320) (hok:okL l=true) (i:Nat) (hi:i < l.length):0≤codeAt l i∧codeAt l i≤41943360:=by
 obtain ⟨m,em,hm⟩:=ok_at l hok i hi;have h1:=firstC_le l hl m (by omega);have h2:=idxN_length l m i;unfold codeAt;rw [rank_n l i m em,em,Int.toNat_natCast];omega
theorem refnext_l2 (l : List Int) (hl : l.length ≤ 320) (s : ByteArray) (pos : Int) (cs : List Int) (v : Int) (n : Nat) (b : Bool) (i : Nat) (hi : i < l.length) (m : Nat) (hm : l.getD i 0 = m) (hm15 : m ≤ 15) (r : Int × Int × Int) (d : Nat) : ∀ (j : Nat) (c : Int), j + d = m → 0 ≤ c → c ≤ 41943360 →
  (if c / 2 ^ d=v then (if m=n then r=((i:Int),wrap64 (pos+n),0) else Ev (fun k=>c04_Next.l1 k l s pos cs v n true ((i+1:Nat):Int)) r) else Ev (fun k=>c04_Next.l1 k l s pos cs v n b ((i+1:Nat):Int)) r) →
  Ev (fun k=>c04_Next.l2 k l s pos cs v n b i c j) r:=by
 have hri:rd l i=m:=by rw [rd_nat];exact hm
 have hi1:(i:Int) < l.length:=by omega
 have e1:Aside0 (wrap64 ((i:Int)+1)=((i+1:Nat):Int)):=⟨by rw [wrap_in (by omega) (by omega)];rfl⟩
 induction d with
 |zero =>
  intro j c hj hc0 hc1 h;obtain rfl:j=m:=by omega
  rw [Int.pow_zero,Int.ediv_one] at h;by_cases hcv:c=v;rotate_left
  ·rw [if_neg hcv] at h;refine Ev.step (fun k=>?_) h;simp only [c04_Next.l2];rw [if_pos (Int.natCast_nonneg _),if_pos hi1,hri,if_neg (Int.lt_irrefl _),if_neg hcv,e1.out]
  rw [if_pos hcv] at h;by_cases hmn:j=n
  ·rw [if_pos hmn] at h;refine Ev.step (f:=fun _=>some r) (fun k=>?_) (Ev.now _);simp only [c04_Next.l2];rw [if_pos (Int.natCast_nonneg _),if_pos hi1,hri,if_neg (Int.lt_irrefl _),if_pos hcv,if_pos (by exact_mod_cast hmn),h]
  ·rw [if_neg hmn] at h;refine Ev.step (fun k=>?_) h;simp only [c04_Next.l2];rw [if_pos (Int.natCast_nonneg _),if_pos hi1,hri,if_neg (Int.lt_irrefl _),if_pos hcv,if_neg (by exact_mod_cast hmn),e1.out]
 |succ d ih =>
  intro j c hj hc0 hc1 h;have e:c / 2 ^ (d+1)=c / 2 / 2 ^ d:=by rw [Int.pow_succ,Int.mul_comm,Int.ediv_ediv_of_nonneg (by decide)]
  rw [e] at h;have hd:=ih (j+1) (c / 2) (by omega) (by omega) (by omega) h;have hjm:(j:Int) < m:=by omega
  have e2:Aside0 (wrap64 (c / 2)=c / 2):=⟨wrap_in (by omega) (by omega)⟩;have e3:Aside0 (wrap64 ((j:Int)+1)=((j+1:Nat):Int)):=⟨by rw [wrap_in (by omega) (by omega)];rfl⟩;refine Ev.step (fun k=>?_) hd;simp only [c04_Next.l2];rw [if_pos (Int.natCast_nonneg _),if_pos hi1,hri,if_pos hjm,Int.tdiv_eq_ediv_of_nonneg hc0,e2.out,e3.out]
def Hits (l:List Int) (n:Nat) (v:Int) (i:Nat):Prop:=0 < n∧l.getD i 0=n∧codeAt l i=v
theorem refnext_hit (l : List Int) (hl : l.length ≤ 320) (hok : okL l = true) (s : ByteArray) (pos : Int) (v : Int) (n : Nat) (hn : n ≤ 15) (i0 : Nat) (hi0 : i0 < l.length) (hh : Hits l n v i0) (d : Nat) : ∀ (i : Nat) (b : Bool), i + d = i0 →
  Ev (fun k=>c04_Next.l1 k l s pos (codesOf l) v n b i) ((i0:Int),wrap64 (pos+n),0):=by
 induction d with
 |zero =>
  intro i b hi;obtain rfl:i=i0:=by omega
  have hil:(i:Int) < l.length:=by omega
  have hri:rd l i=n:=by rw [rd_nat];exact hh.2.1
  have hcr:=codesOf_rng l hl hok i hi0
  have hcd:rd (codesOf l) i=codeAt l i:=by
   rw [rd_nat,List.getD_eq_getElem?_getD,codesOf_get l i hi0,if_neg (by rw [hh.2.1];have:=hh.1;omega)];rfl
  have h2:=refnext_l2 l hl s pos (codesOf l) v n b i hi0 n hh.2.1 hn ((i:Int),wrap64 (pos+n),0) 0 n (codeAt l i) (by omega) hcr.1 hcr.2 (by
   rw [Int.pow_zero,Int.ediv_one,if_pos hh.2.2,if_pos rfl])
  obtain ⟨K,h2⟩:=h2
  dsimp only at h2
  have hn0:((n:Int) == 0)=false:=beq_eq_false_iff_ne.2 (by have:=hh.1;omega);have hcl:(i:Int) < (codesOf l).length:=by rw [codesOf_length];omega
  refine ⟨K+2,fun k hk=>?_⟩;obtain ⟨k,rfl⟩:∃ q,k=q+2:=⟨k - 2,by omega⟩;simp only [c04_Next.l1];rw [if_pos hil,if_pos (Int.natCast_nonneg _),hri,if_neg (Int.lt_irrefl _),hn0];simp only [c04_Next.j2];rw [if_neg (by simp),if_pos (Int.natCast_nonneg _),if_pos hcl,hcd];exact h2 k (by omega)
 |succ d ih =>
  intro i b hi;have hil:(i:Int) < l.length:=by omega
  obtain ⟨m,em,hm⟩:=ok_at l hok i (by omega);have hri:rd l i=m:=by rw [rd_nat];exact em
  have e1:Aside0 (wrap64 ((i:Int)+1)=((i+1:Nat):Int)):=⟨by rw [wrap_in (by omega) (by omega)];rfl⟩;have hcl:(i:Int) < (codesOf l).length:=by rw [codesOf_length];omega
  have key:Ev (fun k=>c04_Next.j2 k l s pos (codesOf l) v n b i (decide (m < n ∨ m=0))) ((i0:Int),wrap64 (pos+n),0):=by
   by_cases hc:m < n ∨ m=0
   ·rw [decide_eq_true hc];refine Ev.step (fun k=>?_) (ih (i+1) b (by omega));simp only [c04_Next.j2];rw [if_pos trivial,e1.out]
   rw [decide_eq_false hc];have hcr:=codesOf_rng l hl hok i (by omega)
   have hcd:rd (codesOf l) i=codeAt l i:=by
    rw [rd_nat,List.getD_eq_getElem?_getD,codesOf_get l i (by omega),if_neg (by rw [em];omega)];rfl
   have hne:¬ (m=n∧codeAt l i=v):=by
    rintro ⟨rfl,hcv⟩;have:=code_inj l i i0 m (by omega) (by omega) (by omega) hi0 em hh.2.1 (by rw [hcv,hh.2.2]);omega
   have h2:=refnext_l2 l hl s pos (codesOf l) v n b i (by omega) m em hm ((i0:Int),wrap64 (pos+n),0) (m - n) n (codeAt l i) (by omega) hcr.1 hcr.2 (by
    by_cases hcv:codeAt l i / 2 ^ (m - n)=v
    ·rw [if_pos hcv];by_cases hmn:m=n
     ·exfalso;subst hmn;rw [Nat.sub_self,Int.pow_zero,Int.ediv_one] at hcv;exact hne ⟨rfl,hcv⟩
     ·rw [if_neg hmn];exact ih (i+1) true (by omega)
    ·rw [if_neg hcv];exact ih (i+1) b (by omega))
   refine Ev.step (fun k=>?_) h2;simp only [c04_Next.j2];rw [if_neg (by simp),if_pos (Int.natCast_nonneg _),if_pos hcl,hcd]
  refine Ev.step (fun k=>?_) key;simp only [c04_Next.l1];rw [if_pos hil,if_pos (Int.natCast_nonneg _),hri];by_cases h1:(m:Int) < n
  ·rw [if_pos h1,decide_eq_true (.inl (by omega))]
  ·rw [if_neg h1]
   congr 1
   rw [Bool.eq_iff_iff,beq_iff_eq,decide_eq_true_eq];omega
theorem refnext_miss (l : List Int) (hl : l.length ≤ 320) (hok : okL l = true) (s : ByteArray) (pos : Int) (v : Int) (n : Nat) (hn : n ≤ 15) (hm : ∀ i : Nat, i < l.length → ¬ Hits l n v i) (r0 r1 : Int × Int × Int)
  (E1:(∃ q:Nat,q < l.length∧Begins l n v q) → Ev (fun k=>c04_Next.l1 k l s pos (codesOf l) v n true l.length) r1) (E0:Ev (fun k=>c04_Next.l1 k l s pos (codesOf l) v n false l.length) r0) (d:Nat):∀ (i:Nat) (b:Bool),i+d=l.length → (b=true → ∃ q:Nat,q < l.length∧Begins l n v q) → ∀ r:Int × Int × Int,
  (b=true ∨ (∃ q:Nat,i≤q∧q < l.length∧Begins l n v q) → r=r1) → (¬ (b=true ∨ ∃ q:Nat,i≤q∧q < l.length∧Begins l n v q) → r=r0) →
  Ev (fun k=>c04_Next.l1 k l s pos (codesOf l) v n b i) r:=by
 induction d with
 |zero =>
  intro i b hi hbt r h1 h0;obtain rfl:i=l.length:=by omega
  cases b with
  |true=>rw [h1 (.inl rfl)];exact E1 (hbt rfl)
  |false=>rw [h0 (by rintro (h | ⟨q,h,h',_⟩);exact absurd h (by decide);omega)];exact E0
 |succ d ih =>
  intro i b hi hbt r hr1 hr0;have hil:(i:Int) < l.length:=by omega
  obtain ⟨m,em,hm15⟩:=ok_at l hok i (by omega);have hri:rd l i=m:=by rw [rd_nat];exact em
  have e1:Aside0 (wrap64 ((i:Int)+1)=((i+1:Nat):Int)):=⟨by rw [wrap_in (by omega) (by omega)];rfl⟩;have hcl:(i:Int) < (codesOf l).length:=by rw [codesOf_length];omega
  have skip:¬ Begins l n v i → Ev (fun k=>c04_Next.l1 k l s pos (codesOf l) v n b ((i+1:Nat):Int)) r:=fun hb=>by
   refine ih (i+1) b (by omega) hbt r (fun h=>hr1 ?_) (fun h=>hr0 ?_)
   ·rcases h with h | ⟨q,h,h',h''⟩
    ·exact .inl h
    ·exact .inr ⟨q,by omega,h',h''⟩
   ·rintro (h' | ⟨q,h',h'',h3⟩)
    ·exact h (.inl h')
    ·by_cases hq:q=i
     ·subst hq;exact hb h3
     ·exact h (.inr ⟨q,by omega,h'',h3⟩)
  have key:Ev (fun k=>c04_Next.j2 k l s pos (codesOf l) v n b i (decide (m < n ∨ m=0))) r:=by
   by_cases hc:m < n ∨ m=0
   ·rw [decide_eq_true hc];refine Ev.step (fun k=>?_) (skip (by unfold Begins;rw [em];omega));simp only [c04_Next.j2];rw [if_pos trivial,e1.out]
   rw [decide_eq_false hc];have hcr:=codesOf_rng l hl hok i (by omega)
   have hcd:rd (codesOf l) i=codeAt l i:=by
    rw [rd_nat,List.getD_eq_getElem?_getD,codesOf_get l i (by omega),if_neg (by rw [em];omega)];rfl
   have h2:=refnext_l2 l hl s pos (codesOf l) v n b i (by omega) m em hm15 r (m - n) n (codeAt l i) (by omega) hcr.1 hcr.2 (by
    by_cases hcv:codeAt l i / 2 ^ (m - n)=v
    ·rw [if_pos hcv];by_cases hmn:m=n
     ·exfalso;subst hmn;rw [Nat.sub_self,Int.pow_zero,Int.ediv_one] at hcv;exact hm i (by omega) ⟨by omega,em,hcv⟩
     ·rw [if_neg hmn];have hbg:Begins l n v i:=⟨by rw [em];omega,by rw [em,Int.toNat_natCast];exact hcv⟩;exact ih (i+1) true (by omega) (fun _=>⟨i,by omega,hbg⟩) r (fun _=>hr1 (.inr ⟨i,Nat.le_refl _,by omega,hbg⟩)) (fun h=>absurd (.inl rfl) h)
    ·rw [if_neg hcv];refine skip ?_;rintro ⟨h1,h2⟩;rw [em,Int.toNat_natCast] at h2;exact hcv h2)
   refine Ev.step (fun k=>?_) h2;simp only [c04_Next.j2];rw [if_neg (by simp),if_pos (Int.natCast_nonneg _),if_pos hcl,hcd]
  refine Ev.step (fun k=>?_) key;simp only [c04_Next.l1];rw [if_pos hil,if_pos (Int.natCast_nonneg _),hri];by_cases h1:(m:Int) < n
  ·rw [if_pos h1,decide_eq_true (.inl (by omega))]
  ·rw [if_neg h1]
   congr 1
   rw [Bool.eq_iff_iff,beq_iff_eq,decide_eq_true_eq];omega
def stageOf (l:List Int) (s:ByteArray) (pos:Int) (n:Nat):Option (Int × Int × Int) :=
 if Vn s pos n < Gn l n then some ((idxN l n l.length).getD (Vn s pos n - firstC l n).toNat 0,pos+n,0)
 else if Sn l n=(syms l).length then some (0,0,4)
 else nxt (cnts l) (syms l) s (15 - n) (pos+n) (Vn s pos n) (Gn l n) (Sn l n)
theorem stage_step (l : List Int) (hl : l.length ≤ 320) (s : ByteArray) (hs : s.size ≤ 140737488351232) (pos : Int) (h0 : 0 ≤ pos) (hp : pos ≤ 4611686018427387904) (n : Nat) (hn : n ≤ 14) (hV : Gn l n ≤ Vn s pos n) (hS : Sn l n ≠ (syms l).length) :
  stageOf l s pos n=if pos+n < 8*s.size then stageOf l s pos (n+1) else some (0,0,2):=by
 unfold stageOf;rw [if_neg (Int.not_lt.2 hV),if_neg hS,show 15 - n=(15 - (n+1))+1 by omega,nxt_step l hl s hs pos h0 hp n (15 - (n+1)) (by omega) hV]
theorem refnext_stage (l : List Int) (hl : l.length ≤ 320) (hok : okL l = true) (hb : badSum l = false) (s : ByteArray) (hs : s.size ≤ 140737488351232) (pos : Int) (h0 : 0 ≤ pos) (hp : pos ≤ 4611686018427387904) (d : Nat) : ∀ n : Nat, n + d = 15 → firstC l n ≤ Vn s pos n →
  ∃ r,stageOf l s pos n=some r∧Ev (fun k=>c04_Next.l0 k l s pos (codesOf l) (Vn s pos n) n) r:=by
 induction d with
 |zero =>
  intro n hn hV;obtain rfl:n=15:=by omega
  have hVr:=Vn_rng s pos 15;have hlast:Sn l 15=(syms l).length:=rfl;by_cases hlt:Vn s pos 15 < Gn l 15
  ·obtain ⟨i,e,hi,hli,hc⟩:=symbol_is l 15 (by decide) (by decide) _ hV hlt;have hw:wrap64 (pos+(15:Nat))=pos+(15:Nat):=wrap_in (by omega) (by omega);refine ⟨((i:Int),pos+(15:Nat),0),?_,?_⟩
   ·unfold stageOf;rw [if_pos hlt,e]
   ·have:=refnext_hit l hl hok s pos (Vn s pos 15) 15 (by decide) i hi ⟨by decide,hli,hc⟩ i 0 false (by omega);rw [hw] at this;refine Ev.step (fun k=>?_) this;simp only [c04_Next.l0];rw [if_pos (by decide)];rfl
  refine ⟨(0,0,4),?_,?_⟩
  ·unfold stageOf;rw [if_neg hlt,if_pos hlast]
  ·have hno : ∀ i : Nat, i < l.length → ¬ Hits l 15 (Vn s pos 15) i := fun i hi hh => by
    have:=(symbol_at l i 15 (by decide) (by decide) hi hh.2.1).2.1;rw [hh.2.2] at this;exact hlt this
   have hnb:¬ ∃ i:Nat,i < l.length∧Begins l 15 (Vn s pos 15) i:=by
    rintro ⟨i,hi,hbg⟩;exact begins_more l hok 15 _ i hi hbg rfl
   have E0:Ev (fun k=>c04_Next.l1 k l s pos (codesOf l) (Vn s pos 15) (15:Nat) false l.length) (0,0,4):=by
    refine Ev.step (f:=fun _=>some (0,0,4)) (fun k=>?_) (Ev.now _);simp only [c04_Next.l1];rw [if_neg (Int.lt_irrefl _),if_neg (by simp)]
   have:=refnext_miss l hl hok s pos (Vn s pos 15) 15 (by decide) hno (0,0,4) (0,0,4) (fun h=>absurd h hnb) E0 l.length 0 false (by omega) (fun h=>absurd h (by decide)) (0,0,4) (fun _=>rfl) (fun _=>rfl);refine Ev.step (fun k=>?_) this;simp only [c04_Next.l0];rw [if_pos (by decide)];rfl
 |succ d ih =>
  intro n hn hV;have hVr:=Vn_rng s pos n;have hVr1:=Vn_rng s pos (n+1);by_cases hlt:Vn s pos n < Gn l n
  ·have hn0 : 0 < n := by
    rcases Nat.eq_zero_or_pos n with rfl | h
    ·rw [Gn_zero] at hlt;omega
    ·exact h
   obtain ⟨i,e,hi,hli,hc⟩:=symbol_is l n hn0 (by omega) _ hV hlt;have hw:wrap64 (pos+n)=pos+n:=wrap_in (by omega) (by omega);refine ⟨((i:Int),pos+n,0),?_,?_⟩
   ·unfold stageOf;rw [if_pos hlt,e]
   ·have:=refnext_hit l hl hok s pos (Vn s pos n) n (by omega) i hi ⟨hn0,hli,hc⟩ i 0 false (by omega);rw [hw] at this;refine Ev.step (fun k=>?_) this;simp only [c04_Next.l0];rw [if_pos (by omega)];rfl
  have hge:Gn l n≤Vn s pos n:=Int.not_lt.1 hlt
  have hno:∀ i:Nat,i < l.length → ¬ Hits l n (Vn s pos n) i:=fun i hi hh=>by
   have:=(symbol_at l i n hh.1 (by omega) hi hh.2.1).2.1;rw [hh.2.2] at this;exact hlt this
  have hiff:=begins_iff l hok hb n (by omega) (Vn s pos n) hge hVr.1 hVr.2
  have E0:Ev (fun k=>c04_Next.l1 k l s pos (codesOf l) (Vn s pos n) n false l.length) (0,0,4):=by
   refine Ev.step (f:=fun _=>some (0,0,4)) (fun k=>?_) (Ev.now _);simp only [c04_Next.l1];rw [if_neg (Int.lt_irrefl _),if_neg (by simp)]
  have hstart:∀ r,Ev (fun k=>c04_Next.l1 k l s pos (codesOf l) (Vn s pos n) n false ((0:Nat):Int)) r → Ev (fun k=>c04_Next.l0 k l s pos (codesOf l) (Vn s pos n) n) r:=fun r h=>by
   refine Ev.step (fun k=>?_) h;simp only [c04_Next.l0];rw [if_pos (by omega)];rfl
  by_cases hS:Sn l n=(syms l).length
  ·refine ⟨(0,0,4),by unfold stageOf;rw [if_neg hlt,if_pos hS],hstart _ ?_⟩;have hnb:¬ ∃ i:Nat,i < l.length∧Begins l n (Vn s pos n) i:=fun h=>hiff.1 h hS;exact refnext_miss l hl hok s pos (Vn s pos n) n (by omega) hno (0,0,4) (0,0,4) (fun h=>absurd h hnb) E0 l.length 0 false (by omega) (fun h=>absurd h (by decide)) (0,0,4) (fun _=>rfl) (fun _=>rfl)
  have hbg:=hiff.2 hS;have hst:=stage_step l hl s hs pos h0 hp n (by omega) hge hS;have hw:Aside0 (wrap64 (pos+n)=pos+n):=⟨wrap_in (by omega) (by omega)⟩;have hn1:Aside0 (wrap64 ((n:Int)+1)=((n+1:Nat):Int)):=⟨by rw [wrap_in (by omega) (by omega)];rfl⟩;have hbe:∃ q:Nat,0≤q∧q < l.length∧Begins l n (Vn s pos n) q:=by obtain ⟨i,hi,h⟩:=hbg;exact ⟨i,Nat.zero_le _,hi,h⟩
  obtain ⟨KB,hbit⟩:=refbit_is s hs (pos+n) (by omega) (by omega)
  dsimp only at hbit
  by_cases hbt:pos+n < 8*s.size
  ·rw [if_pos hbt] at hst
   have hfg:firstC l (n+1)≤Vn s pos (n+1):=by
    have hbr:=bitN_rng s (pos+n);have e1:Vn s pos (n+1)=2*Vn s pos n+bitN s (pos+n):=rfl;rw [firstC_succ,e1];omega
   obtain ⟨r,hr,hE⟩:=ih (n+1) (by omega) hfg;refine ⟨r,by rw [hst];exact hr,hstart _ ?_⟩;obtain ⟨KN,hE⟩:=hE
   dsimp only at hE
   have hbr:=bitN_rng s (pos+n)
   have hp2:(2:Int) ^ n≤32768:=by
    have h1:2 ^ n≤2 ^ 15:=Nat.pow_le_pow_right (by decide) (by omega);(have e:((2 ^ n:Nat):Int)=(2:Int) ^ n:=by rw [Int.natCast_pow];rfl);rw [← e];omega
   have e2:Aside0 (wrap64 (2*Vn s pos n)=2*Vn s pos n):=⟨wrap_in (by omega) (by omega)⟩;have e3:Aside0 (wrap64 (2*Vn s pos n+bitN s (pos+n))=Vn s pos (n+1)):=⟨by rw [wrap_in (by omega) (by omega)];rfl⟩;(have hb0:¬ bitN s (pos+n) < 0:=by omega)
   have E1:Ev (fun k=>c04_Next.l1 k l s pos (codesOf l) (Vn s pos n) n true l.length) r:=by
    refine ⟨KB+KN+1,fun k hk=>?_⟩;obtain ⟨k,rfl⟩:∃ q,k=q+1:=⟨k - 1,by omega⟩;simp only [c04_Next.l1];rw [if_neg (Int.lt_irrefl _),if_pos trivial,hw.out,hbit k (by omega),if_pos (show 0≤pos+(n:Int)∧pos+(n:Int) < 8*s.size from ⟨by omega,hbt⟩)];simp only [Option.bind_some];rw [if_neg hb0,e2.out,e3.out,hn1.out];exact hE k (by omega)
   exact refnext_miss l hl hok s pos (Vn s pos n) n (by omega) hno (0,0,4) r (fun _=>E1) E0 l.length 0 false (by omega) (fun h=>absurd h (by decide)) r (fun _=>rfl) (fun h=>absurd (.inr hbe) h)
  ·rw [if_neg hbt] at hst;refine ⟨(0,0,2),hst,hstart _ ?_⟩
   have E1:Ev (fun k=>c04_Next.l1 k l s pos (codesOf l) (Vn s pos n) n true l.length) (0,0,2):=by
    refine ⟨KB+1,fun k hk=>?_⟩;obtain ⟨k,rfl⟩:∃ q,k=q+1:=⟨k - 1,by omega⟩;simp only [c04_Next.l1];rw [if_neg (Int.lt_irrefl _),if_pos trivial,hw.out,hbit k (by omega),if_neg (show ¬ (0≤pos+(n:Int)∧pos+(n:Int) < 8*s.size) from fun h=>hbt h.2)];simp only [Option.bind_some];rw [if_pos (by decide)]
   exact refnext_miss l hl hok s pos (Vn s pos n) n (by omega) hno (0,0,4) (0,0,2) (fun _=>E1) E0 l.length 0 false (by omega) (fun h=>absurd h (by decide)) (0,0,2) (fun _=>rfl) (fun h=>absurd (.inr hbe) h)
theorem nextOf_good (l:List Int) (he:errOf l=0) (s:ByteArray) (pos:Int) (h0:0≤pos):nextOf (newCs l) (newSs l) s pos=if (syms l).length=0 then some (0,0,4) else nxt (cnts l) (syms l) s 15 pos 0 0 0:=by
 obtain ⟨hl,_,_⟩:=errOf_ok l he;unfold nextOf newCs newSs;rw [if_pos he,if_pos he,if_neg (by omega)];by_cases ht:(syms l).length=0
 ·rw [if_pos ht,if_pos ht]
 rw [if_neg ht,if_neg ht,if_pos];refine ⟨cnts_length l,?_,fun x hx=>?_⟩
 ·have:=symsN_length l 15;have h2:15*l.length≤15*320:=Nat.mul_le_mul_left _ hl;unfold syms;omega
 ·obtain ⟨i,hi,rfl⟩:=List.getElem_of_mem hx;have:=cnts_rng l i;rw [List.getD_eq_getElem?_getD,List.getElem?_eq_getElem hi,Option.getD_some] at this;omega
theorem next_is (l : List Int) (he : errOf l = 0) (s : ByteArray) (hs : s.size ≤ 140737488351232) (pos : Int) (hp : pos ≤ 9223372036854775807) :
  ∃ r,nextOf (newCs l) (newSs l) s pos=some r∧Ev (fun k=>c04_Next.f k l s pos) r:=by
 obtain ⟨hl,hok,hb⟩:=errOf_ok l he;by_cases hneg:pos < 0
 ·refine ⟨(0,0,1),by unfold nextOf;rw [if_pos hneg],?_⟩;exact Ev.congr (f:=fun _=>some (0,0,1)) (fun k=>by unfold c04_Next.f;rw [if_pos hneg]) (Ev.now _)
 have h0:0≤pos:=by omega
 have hcodes:=refcodes_is l hl hok
 have hto:∀ r,Ev (fun k=>c04_Next.l0 k l s pos (codesOf l) 0 0) r → Ev (fun k=>c04_Next.f k l s pos) r:=fun r h =>
  Ev.congr (fun k=>by unfold c04_Next.f;rw [if_neg hneg]) (Ev.bind hcodes h)
 rw [nextOf_good l he s pos h0];by_cases hin:pos < 8*s.size
 ·obtain ⟨r,hr,hE⟩:=refnext_stage l hl hok hb s hs pos h0 (by omega) 15 0 rfl (by show firstC l 0≤0;exact Int.le_refl 0);refine ⟨r,?_,hto r hE⟩;rw [← hr];have e0:Sn l 0=0:=rfl;have eV:¬ Vn s pos 0 < Gn l 0:=by rw [Gn_zero];exact Int.lt_irrefl 0
  have e1:pos+((0:Nat):Int)=pos:=by omega
  unfold stageOf;rw [if_neg eV,e0,e1,Gn_zero];by_cases ht:(syms l).length=0
  ·rw [if_pos ht,if_pos (by omega)]
  ·rw [if_neg ht,if_neg (by omega)];rfl
 have hno:∀ i:Nat,i < l.length → ¬ Hits l 0 0 i:=fun i hi hh=>absurd hh.1 (Nat.lt_irrefl 0);have hiff:=begins_iff l hok hb 0 (by decide) 0 (by rw [Gn_zero];exact Int.le_refl 0) (Int.le_refl 0) (by decide)
 have E0:Ev (fun k=>c04_Next.l1 k l s pos (codesOf l) 0 ((0:Nat):Int) false l.length) (0,0,4):=by
  refine Ev.step (f:=fun _=>some (0,0,4)) (fun k=>?_) (Ev.now _);simp only [c04_Next.l1];rw [if_neg (Int.lt_irrefl _),if_neg (by simp)]
 have hstart:∀ r,Ev (fun k=>c04_Next.l1 k l s pos (codesOf l) 0 ((0:Nat):Int) false ((0:Nat):Int)) r → Ev (fun k=>c04_Next.l0 k l s pos (codesOf l) 0 0) r:=fun r h=>by
  refine Ev.step (fun k=>?_) h;simp only [c04_Next.l0];rw [if_pos (by decide)];rfl
 have e0:Sn l 0=0:=rfl;by_cases ht:(syms l).length=0
 ·rw [if_pos ht];refine ⟨(0,0,4),rfl,hto _ (hstart _ ?_)⟩;have hnb:¬ ∃ i:Nat,i < l.length∧Begins l 0 0 i:=fun h=>hiff.1 h (by rw [e0,← syms_Sn];omega);exact refnext_miss l hl hok s pos 0 0 (by decide) hno (0,0,4) (0,0,4) (fun h=>absurd h hnb) E0 l.length 0 false (by omega) (fun h=>absurd h (by decide)) (0,0,4) (fun _=>rfl) (fun _=>rfl)
 rw [if_neg ht];have hbg:=hiff.2 (by rw [e0,← syms_Sn];omega);have hbe:∃ q:Nat,0≤q∧q < l.length∧Begins l 0 0 q:=by obtain ⟨i,hi,h⟩:=hbg;exact ⟨i,Nat.zero_le _,hi,h⟩
 obtain ⟨KB,hbit⟩:=refbit_is s hs pos hp (by omega)
 dsimp only at hbit
 have hw:Aside0 (wrap64 (pos+((0:Nat):Int))=pos):=⟨by rw [wrap_in (by omega) (by omega)];omega⟩;refine ⟨(0,0,2),?_,hto _ (hstart _ ?_)⟩
 ·simp only [nxt];rw [bit_is s hs pos h0 hp,if_neg hin];rfl
 ·have E1 : Ev (fun k => c04_Next.l1 k l s pos (codesOf l) 0 ((0 : Nat) : Int) true l.length) (0, 0, 2) := by
   refine ⟨KB+1,fun k hk=>?_⟩;obtain ⟨k,rfl⟩:∃ q,k=q+1:=⟨k - 1,by omega⟩;simp only [c04_Next.l1];rw [if_neg (Int.lt_irrefl _),if_pos trivial,hw.out,hbit k (by omega),if_neg (show ¬ (0≤pos∧pos < 8*s.size) from fun h=>hin h.2)];simp only [Option.bind_some];rw [if_pos (by decide)]
  exact refnext_miss l hl hok s pos 0 0 (by decide) hno (0,0,4) (0,0,2) (fun _=>E1) E0 l.length 0 false (by omega) (fun h=>absurd h (by decide)) (0,0,2) (fun _=>rfl) (fun h=>absurd (.inr hbe) h)
end Go.Proofs.Ytpbhkdamkbopkaa.RefA
namespace Go.Proofs.Ytpbhkdamkbopkaa.Inf
open Go.RowKit Ext GInfr GHuff YtpbhkdamkbopkaaW.PrintWords YtpbhkdamkbopkaaW.PrintLast YtpbhkdamkbopkaaW.PrintMore
theorem bn_eq (s:ByteArray) (pos:Int):∀ n:Nat,RefA.Bn s pos n=RefP.Bn s pos n
 |0=>rfl
 |n+1=>by show RefA.Bn s pos n+_=RefP.Bn s pos n+_;rw [bn_eq s pos n]
theorem bitsOf_eq (s:ByteArray) (pos n:Int):RefA.bitsOf s pos n=RefP.bitsOf s pos n:=by unfold RefA.bitsOf RefP.bitsOf;rw [bn_eq]
structure Rel (x:St) (o:List Int) (p e:Int):Prop where
 e:e=x.e
 o:x.e=0 → o=x.o
 p:x.e=0 → p=x.p
theorem tak_is {s : ByteArray} {x : St} {o : List Int} {p e lo hi : Int} {r : Int × Int × Int} {g : Nat → Option (Int × Int × Int)} (h : Rel x o p e) (hr : x.e = 0 → Good s x.p lo hi r ∧ Ev g r) :
  ∃ q,Ev (fun k=>if e=0 then ((g k).bind fun b=>some (b.1,o,b.2.1,b.2.2)) else some (0,o,p,e)) ((tak x r).1,o,q,(tak x r).2.e)∧Rel (tak x r).2 o q (tak x r).2.e:=by
 by_cases c:x.e=0;rotate_left
 ·refine ⟨p,?_,?_⟩
  ·unfold tak;rw [if_neg c];exact Ev.congr (fun k=>by rw [if_neg (fun h0=>c (h.e.symm.trans h0)),h.e]) (Ev.now _)
  ·unfold tak;rw [if_neg c];exact ⟨rfl,h.o,h.p⟩
 obtain ⟨hg,hE⟩:=hr c;refine ⟨r.2.1,?_,?_⟩
 ·refine Ev.congr (fun k=>by rw [if_pos (h.e.trans c)]) ?_;refine Ev.congr (fun k=>rfl) (Ev.bind (f:=fun _ b=>some (b.1,o,b.2.1,b.2.2)) hE ?_);unfold tak;rw [if_pos c]
  rcases hg with hg | rfl | rfl
  ·rw [if_pos hg.1];exact Ev.congr (fun k=>by rw [hg.1,c]) (Ev.now _)
  ·rw [if_neg (by decide)];exact Ev.now _
  ·rw [if_neg (by decide)];exact Ev.now _
 ·unfold tak;rw [if_pos c]
  rcases hg with hg | rfl | rfl
  ·rw [if_pos hg.1];exact ⟨rfl,fun _=>h.o c,fun _=>rfl⟩
  ·rw [if_neg (by decide)];exact ⟨rfl,fun h0=>by simp at h0,fun h0=>by simp at h0⟩
  ·rw [if_neg (by decide)];exact ⟨rfl,fun h0=>by simp at h0,fun h0=>by simp at h0⟩
theorem number_is {s : ByteArray} {x : St} {o : List Int} {p e : Int} (n : Nat) (hs : s.size ≤ 1000000) (hx : Ok s x) (h : Rel x o p e) (hn : n ≤ 16) :
  ∃ q,Ev (fun k=>c05_number.f k s o p e (n:Int)) ((bits s n x).1,o,q,(bits s n x).2.e)∧Rel (bits s n x).2 o q (bits s n x).2.e:=by
 have g:=bits_some s x.p n hx.p0 hn;obtain ⟨q,h1,h2⟩:=tak_is (g:=fun k=>c04_Bits.f k s p (n:Int)) h (fun c=>⟨g,by rw [h.p c];have:=RefA.refbits_is s (by omega) x.p n (by have:=hx.p1;omega);rw [bitsOf_eq] at this;exact this⟩);exact ⟨q,Ev.congr (fun k=>rfl) h1,h2⟩
theorem symbol_is {s : ByteArray} {x : St} {o : List Int} {p e : Int} (l : List Int) (hs : s.size ≤ 1000000) (hx : Ok s x) (h : Rel x o p e) (he : x.e = 0 → errOf l = 0) :
  ∃ q,Ev (fun k=>c05_symbol.f k s o p e l) ((next l s x).1,o,q,(next l s x).2.e)∧Rel (next l s x).2 o q (next l s x).2.e:=by
 obtain ⟨q,h1,h2⟩:=tak_is (r:=nextL l s x.p) (lo:=1) (hi:=l.length) (g:=fun k=>c04_Next.f k l s p) h (fun c=>by
  obtain ⟨r,hr,hE⟩:=RefA.next_is l (he c) s (by omega) x.p (by have:=hx.p1;omega);have hn:=(next_some l (he c) s (by omega) x.p hx.p0 (by have:=hx.p1;omega)).2;refine ⟨hn,?_⟩;have e1:nextL l s x.p=r:=by unfold nextL;rw [hr];rfl
  rw [e1,h.p c];exact hE)
 exact ⟨q,Ev.congr (fun k=>rfl) h1,h2⟩
end Go.Proofs.Ytpbhkdamkbopkaa.Inf
namespace Go.Proofs.Ytpbhkdamkbopkaa.Inf
open Go.RowKit Ext GInfr GHuff YtpbhkdamkbopkaaW.PrintWords YtpbhkdamkbopkaaW.PrintLast YtpbhkdamkbopkaaW.PrintMore
theorem align_is {s:ByteArray} {mx e:Int} {o:List Int} {R:List Int × Int × Int} (d:Nat):∀ p:Int,0≤p → p≤1000000000 → (p+d) % 8=0 → d < 8 → Ev (fun k=>c05_stored.l0 k s mx o (p+d) e) R → Ev (fun k=>c05_stored.l0 k s mx o p e) R:=by
 induction d with
 |zero=>intro p h0 h1 h2 h3 h;simpa using h
 |succ d ih =>
  intro p h0 h1 h2 h3 h;refine Ev.step (fun k=>?_) (ih (p+1) (by omega) (by omega) (by omega) (by omega) (by rw [show p+1+(d:Int)=p+((d+1:Nat):Int) by omega];exact h));simp only [c05_stored.l0];rw [Int.tmod_eq_emod_of_nonneg h0,if_neg (by omega),wrap_in (n:=p+1) (by omega) (by omega)]
theorem bn_sum (s:ByteArray) (p q:Int):∀ m:Nat,RefP.Bn s p m+RefP.Bn s q m=2 ^ m - 1 → ∀ i:Nat,i < m → bitN s (p+i)+bitN s (q+i)=1
 |0,_,i,hi=>absurd hi (by omega)
 |m+1,h,i,hi=>by
  have a:=RefP.Bn_rng s p m;have b:=RefP.Bn_rng s q m;have ha:=bitN_rng s (p+m);have hb:=bitN_rng s (q+m);have h':RefP.Bn s p m+2 ^ m*bitN s (p+m)+(RefP.Bn s q m+2 ^ m*bitN s (q+m))=2 ^ (m+1) - 1:=h;have e:(2:Int) ^ (m+1)=2*2 ^ m:=by rw [Int.pow_succ,Int.mul_comm]
  have hp:(0:Int) < 2 ^ m:=Int.pow_pos (by decide);rw [e] at h';obtain ⟨M,hM⟩:∃ M:Int,M=2 ^ m:=⟨_,rfl⟩;rw [← hM] at h' hp
  have hs:bitN s (p+m)+bitN s (q+m)=1:=by
   rcases (by omega:bitN s (p+m)=0 ∨ bitN s (p+m)=1) with x | x <;> rcases (by omega:bitN s (q+m)=0 ∨ bitN s (q+m)=1) with y | y <;> rw [x,y] at h' ⊢ <;> omega
  have hm:RefP.Bn s p m+RefP.Bn s q m=M - 1:=by
   rcases (by omega:bitN s (p+m)=0 ∨ bitN s (p+m)=1) with x | x <;> rcases (by omega:bitN s (q+m)=0 ∨ bitN s (q+m)=1) with y | y <;> rw [x,y] at h' hs <;> omega
  by_cases c:i=m
  ·rw [c];exact hs
  ·exact bn_sum s p q m (by rw [← hM];exact hm) i (by omega)
theorem xor_n16 (a:Nat) (h:a≤65535):a ^^^ (65535 - a)=65535:=by
 have e1:(BitVec.ofNat 16 a).toNat=a:=by rw [BitVec.toNat_ofNat];omega
 have e2:(~~~ (BitVec.ofNat 16 a)).toNat=65535 - a:=by rw [BitVec.toNat_not,e1]
 have e3:((BitVec.ofNat 16 a) ^^^ ~~~ (BitVec.ofNat 16 a)).toNat=65535:=by
  have:(BitVec.ofNat 16 a) ^^^ ~~~ (BitVec.ofNat 16 a)=BitVec.allOnes 16:=by
   ext i hi
   rw [BitVec.getElem_xor,BitVec.getElem_not,BitVec.getElem_allOnes];cases (BitVec.ofNat 16 a)[i] <;> rfl
  rw [this];rfl
 rw [BitVec.toNat_xor,e1,e2] at e3;exact e3
theorem xor_sum (a b:Int) (ha0:0≤a) (ha:a < 65536) (hb0:0≤b) (hb:b < 65536):Go.bits .xor .i64 a b=65535 ↔ a+b=65535:=by
 obtain ⟨n,rfl⟩:=Int.eq_ofNat_of_zero_le ha0;obtain ⟨m,rfl⟩:=Int.eq_ofNat_of_zero_le hb0
 have hx:Go.bits .xor .i64 (n:Int) (m:Int)=((n ^^^ m:Nat):Int):=by
  have hl:n ^^^ m < 65536:=Nat.xor_lt_two_pow (n:=16) (show n < 65536 by omega) (show m < 65536 by omega);generalize hq:n ^^^ m=q at hl;show IntKind.i64.wrap ((BitVec.ofInt 64 (n:Int) ^^^ BitVec.ofInt 64 (m:Int)).toNat:Int)=_;rw [BitVec.toNat_xor,ofInt_u64 n (by omega),ofInt_u64 m (by omega),hq,IntKind.wrap_i64];omega
 rw [hx];have h1:=xor_n16 n (by omega);constructor
 ·intro h;have h2:n ^^^ m=n ^^^ (65535 - n):=by rw [h1];omega
  have h3:m=65535 - n:=by
   (have e:n ^^^ (n ^^^ m)=n ^^^ (n ^^^ (65535 - n)):=by rw [h2]);rw [← Nat.xor_assoc,← Nat.xor_assoc,Nat.xor_self,Nat.zero_xor,Nat.zero_xor] at e;exact e
  omega
 ·intro h;have:m=65535 - n:=by omega
  rw [this,h1];rfl
theorem cut_succ (s:ByteArray) (a i:Nat):cut s a (i+1)=cut s a i ++ [bt s ((a+i:Nat):Int)]:=by
 unfold cut;rw [List.range_succ,List.map_append];rfl
theorem copy_is {s : ByteArray} {o : List Int} {p e : Int} (a n : Nat) (hs : s.size ≤ 1000000) (h : a + n ≤ s.size) (ho : o.length ≤ 1000000) (d : Nat) : ∀ i : Nat, i + d = n →
  Ev (fun k=>c05_stored.l2 k s (n:Int) (a:Int) (i:Int) (o ++ cut s a i) p e) (o ++ cut s a n,8*((a:Int)+n),e):=by
 induction d with
 |zero =>
  intro i hi;obtain rfl:i=n:=by omega
  refine Ev.step (f:=fun _=>some (o ++ cut s a i,8*((a:Int)+i),e)) (fun k=>?_) (Ev.now _);simp only [c05_stored.l2];rw [if_neg (by omega),wrap_in (n:=(a:Int)+i) (by omega) (by omega),wrap_in (by omega) (by omega)]
 |succ d ih =>
  intro i hi;refine Ev.step (fun k=>?_) (ih (i+1) (by omega));have hc:(cut s a i).length=i:=by unfold cut;simp
  have hl:(o ++ cut s a i).length < 140737488355328:=by rw [List.length_append];omega
  simp only [c05_stored.l2];rw [if_pos (by omega),wrap_in (n:=(a:Int)+i) (by omega) (by omega),if_pos (by omega),if_pos (by omega),if_pos hl,wrap_in (n:=(i:Int)+1) (by omega) (by omega),cut_succ,← List.append_assoc];rfl
theorem differ_is {s : ByteArray} {mx n e p : Int} {o : List Int} {R : List Int × Int × Int} (hs : s.size ≤ 1000000) (h0 : 0 ≤ p) (hp : p + 32 ≤ 8 * s.size) (hb : ∀ i : Nat, i < 16 → bitN s (p + i) + bitN s (p + 16 + i) = 1)
  (h:Ev (fun k=>c05_stored.l1 k s mx n 16 o (p+32) e) R) (d:Nat):∀ i:Nat,i+d=16 → Ev (fun k=>c05_stored.l1 k s mx n (i:Int) o (p+32) e) R:=by
 induction d with
 |zero =>
  intro i hi;obtain rfl:i=16:=by omega
  exact h
 |succ d ih =>
  intro i hi;refine Ev.step (f:=fun k=>(c04_Bit.f k s (p+i)).bind fun t=>(c04_Bit.f k s (p+16+i)).bind fun u=>if t=u then some (o,p+32,3) else c05_stored.l1 k s mx n ((i+1:Nat):Int) o (p+32) e) (fun k=>?_) ?_
  ·simp only [c05_stored.l1]
   rw [if_pos (by omega),wrap_in (n:=p+32 - 32) (by omega) (by omega),wrap_in (n:=p+32 - 16) (by omega) (by omega),wrap_in (n:=p+32 - 32+i) (by omega) (by omega),wrap_in (n:=p+32 - 16+i) (by omega) (by omega),wrap_in (n:=(i:Int)+1) (by omega) (by omega),
    show p+32 - 32+(i:Int)=p+i by omega,show p+32 - 16+(i:Int)=p+16+i by omega]
   rfl
  ·have e1:=RefA.refbit_is s (by omega) (p+i) (by omega) (by omega);have e2:=RefA.refbit_is s (by omega) (p+16+i) (by omega) (by omega);rw [if_pos ⟨by omega,by omega⟩] at e1 e2;refine Ev.bind e1 (Ev.bind e2 ?_);have:=hb i (by omega);exact Ev.congr (fun k=>by rw [if_neg (by have:=bitN_rng s (p+i);omega)]) (ih (i+1) (by omega))
theorem bits_hit {s:ByteArray} {x:St} (n:Nat) (hx:Ok s x) (hn:n≤16) (he:(bits s n x).2.e=0):x.e=0∧x.p+n≤8*s.size∧bits s n x=(RefP.Bn s x.p n,⟨x.p+n,x.o,0⟩):=by
 have h0:=hx.p0;have e:RefP.bitsOf s x.p n=if x.p+n≤8*s.size then (RefP.Bn s x.p n,x.p+n,0) else (0,0,2):=by unfold RefP.bitsOf;rw [if_neg (by omega),Int.toNat_natCast]
 have b:bits s n x=tak x (RefP.bitsOf s x.p n):=rfl;rw [b] at he ⊢;rw [e] at he ⊢;unfold tak at he ⊢;by_cases c:x.e=0
 ·rw [if_pos c] at he ⊢;by_cases c2:x.p+n≤8*s.size
  ·rw [if_pos c2] at he ⊢;exact ⟨c,c2,by rw [if_pos rfl,c]⟩
  ·rw [if_neg c2] at he;exact absurd he (by simp)
 ·rw [if_neg c] at he;exact absurd he c
theorem stored_is {s : ByteArray} {x : St} {o : List Int} {p e mx : Int} (hs : s.size ≤ 1000000) (hx : Ok s x) (h : Rel x o p e) (he : x.e = 0) (hm0 : 0 ≤ mx) (hm : mx ≤ 262144) (ho : x.o.length ≤ 262144) :
  ∃ o' q,Ev (fun k=>c05_stored.f k s o p e mx) (o',q,(stored s mx x).e)∧Rel (stored s mx x) o' q (stored s mx x).e:=by
 have hp0:=hx.p0;have hp1:=hx.p1;obtain rfl:=h.o he;obtain rfl:=h.p he;obtain rfl:e=0:=h.e.trans he
 let P:Int:=(x.p+7) / 8*8
 have hP:P=(x.p+7) / 8*8:=rfl;have hP1:x.p≤P∧P < x.p+8∧P % 8=0∧P≤8*s.size:=by omega
 have hx1:Ok s ⟨P,x.o,x.e⟩:=⟨by show 0≤P;omega,hP1.2.2.2,hx.e⟩;have hr1:Rel ⟨P,x.o,x.e⟩ x.o P 0:=⟨he.symm,fun _=>rfl,fun _=>rfl⟩;obtain ⟨q1,E1,R1⟩:=number_is 16 hs hx1 hr1 (by decide);have hx2:Ok s (bits s 16 ⟨P,x.o,x.e⟩).2:=tak_ok (Int.natCast_nonneg 16) hx1 (bits_some s P 16 hx1.p0 (by decide));obtain ⟨q2,E2,R2⟩:=number_is 16 hs hx2 R1 (by decide);replace E1:Ev (fun k=>c05_number.f k s x.o P 0 16) ((bits s 16 ⟨P,x.o,x.e⟩).1,x.o,q1,(bits s 16 ⟨P,x.o,x.e⟩).2.e):=E1;replace R1:Rel (bits s 16 ⟨P,x.o,x.e⟩).2 x.o q1 (bits s 16 ⟨P,x.o,x.e⟩).2.e:=R1;replace hx2:Ok s (bits s 16 ⟨P,x.o,x.e⟩).2:=hx2;replace E2:Ev (fun k=>c05_number.f k s x.o q1 (bits s 16 ⟨P,x.o,x.e⟩).2.e 16) ((bits s 16 (bits s 16 ⟨P,x.o,x.e⟩).2).1,x.o,q2,(bits s 16 (bits s 16 ⟨P,x.o,x.e⟩).2).2.e):=E2;replace R2:Rel (bits s 16 (bits s 16 ⟨P,x.o,x.e⟩).2).2 x.o q2 (bits s 16 (bits s 16 ⟨P,x.o,x.e⟩).2).2.e:=R2
 have hall:∀ R,Ev (fun k=>c05_stored.l0 k s mx x.o P 0) R → Ev (fun k=>c05_stored.f k s x.o x.p 0 mx) R:=fun R hR=>by
  refine Ev.congr (fun k=>rfl) (align_is (P - x.p).toNat x.p hp0 (by omega) (by omega) (by omega) ?_);rw [show x.p+((P - x.p).toNat:Int)=P by omega];exact hR
 have hfirst:∀ R,Ev (fun k=>(c05_number.f k s x.o P 0 16).bind fun a=>(c05_number.f k s a.2.1 a.2.2.1 a.2.2.2 16).bind fun b=>if b.2.2.2=0 then (if (wrap64 (a.1+b.1))=65535 then (c05_stored.l1 k s mx a.1 0 b.2.1 b.2.2.1 b.2.2.2) else (some (b.2.1,b.2.2.1,3))) else (some (b.2.1,b.2.2.1,b.2.2.2))) R → Ev (fun k=>c05_stored.f k s x.o x.p 0 mx) R:=fun R hR=>hall R (by
  refine Ev.step (fun k=>?_) hR;simp only [c05_stored.l0];rw [Int.tmod_eq_emod_of_nonneg (by omega),if_pos hP1.2.2.1])
 have hS : stored s mx x = if (bits s 16 (bits s 16 ⟨P, x.o, x.e⟩).2).2.e = 0 then
   (if Go.bits .xor .i64 (bits s 16 ⟨P,x.o,x.e⟩).1 (bits s 16 (bits s 16 ⟨P,x.o,x.e⟩).2).1=65535 then
    (if ((bits s 16 (bits s 16 ⟨P,x.o,x.e⟩).2).2.o.length:Int)+(bits s 16 ⟨P,x.o,x.e⟩).1≤mx then
     (if (bits s 16 ⟨P,x.o,x.e⟩).1≤s.size - (bits s 16 (bits s 16 ⟨P,x.o,x.e⟩).2).2.p / 8 then ⟨(bits s 16 (bits s 16 ⟨P,x.o,x.e⟩).2).2.p+8*(bits s 16 ⟨P,x.o,x.e⟩).1,(bits s 16 (bits s 16 ⟨P,x.o,x.e⟩).2).2.o ++ cut s ((bits s 16 (bits s 16 ⟨P,x.o,x.e⟩).2).2.p / 8).toNat (bits s 16 ⟨P,x.o,x.e⟩).1.toNat,(bits s 16 (bits s 16 ⟨P,x.o,x.e⟩).2).2.e⟩ else fail (bits s 16 (bits s 16 ⟨P,x.o,x.e⟩).2).2 2)
    else fail (bits s 16 (bits s 16 ⟨P,x.o,x.e⟩).2).2 7)
   else fail (bits s 16 (bits s 16 ⟨P,x.o,x.e⟩).2).2 3)
  else (bits s 16 (bits s 16 ⟨P,x.o,x.e⟩).2).2:=rfl
 rw [hS];by_cases c:(bits s 16 (bits s 16 ⟨P,x.o,x.e⟩).2).2.e=0;rotate_left
 ·rw [if_neg c];exact ⟨x.o,q2,hfirst _ (Ev.bind E1 (Ev.bind E2 (Ev.congr (fun k=>if_neg c) (Ev.now _)))),R2⟩
 obtain ⟨z1,z2,z3⟩:=bits_hit 16 hx2 (by decide) c;obtain ⟨y1,y2,y3⟩:=bits_hit 16 hx1 (by decide) z1;replace z3:(bits s 16 (bits s 16 ⟨P,x.o,x.e⟩).2)=(RefP.Bn s (bits s 16 ⟨P,x.o,x.e⟩).2.p 16,⟨(bits s 16 ⟨P,x.o,x.e⟩).2.p+16,(bits s 16 ⟨P,x.o,x.e⟩).2.o,0⟩):=z3;replace y3:(bits s 16 ⟨P,x.o,x.e⟩)=(RefP.Bn s P 16,⟨P+16,x.o,0⟩):=y3;have hq:=R2.p c;rw [z3] at E2 R2 hq ⊢;rw [y3] at E1 E2 z2 hq R2 ⊢;have y2':P+16≤8*(s.size:Int):=y2;have z2':P+16+16≤8*(s.size:Int):=z2;obtain rfl:q2=P+32:=hq.trans (by show P+16+16=_;omega);have ra:=RefP.Bn_rng s P 16;have rb:=RefP.Bn_rng s (P+16) 16;have hw:(2:Int) ^ 16=65536:=by decide
 rw [hw] at ra rb;have E1':Ev (fun k=>c05_number.f k s x.o P 0 16) (RefP.Bn s P 16,x.o,q1,0):=E1;have E2':Ev (fun k=>c05_number.f k s x.o q1 0 16) (RefP.Bn s (P+16) 16,x.o,P+32,0):=E2
 have hmid:∀ R,Ev (fun k=>if (wrap64 (RefP.Bn s P 16+RefP.Bn s (P+16) 16))=65535 then (c05_stored.l1 k s mx (RefP.Bn s P 16) 0 x.o (P+32) 0) else (some (x.o,P+32,3))) R → Ev (fun k=>c05_stored.f k s x.o x.p 0 mx) R:=fun R hR =>
  hfirst R (Ev.bind E1' (Ev.bind E2' (Ev.congr (fun k=>if_pos rfl) hR)))
 show ∃ o' q,_∧_;rw [if_pos (show (0:Int)=0 from rfl)];have hxs:=xor_sum (RefP.Bn s P 16) (RefP.Bn s (P+16) 16) ra.1 ra.2 rb.1 rb.2;have hbits:=bn_sum s P (P+16) 16;generalize hM:RefP.Bn s (P+16) 16=m at *;generalize hN:RefP.Bn s P 16=n' at *;obtain ⟨n,rfl⟩:=Int.eq_ofNat_of_zero_le ra.1;by_cases cx:(n:Int)+m=65535;rotate_left
 ·rw [if_neg (fun h0=>cx (hxs.1 h0))];exact ⟨x.o,P+32,hmid _ (Ev.congr (fun k=>by rw [wrap_in (by omega) (by omega),if_neg cx];rfl) (Ev.now _)),rfl,fun h0=>absurd h0 (by simp [fail]),fun h0=>absurd h0 (by simp [fail])⟩
 rw [if_pos (hxs.2 cx)];have hb:∀ i:Nat,i < 16 → bitN s (P+i)+bitN s (P+16+i)=1:=hbits (by rw [cx];decide)
 have hthen:∀ R,Ev (fun k=>c05_stored.l1 k s mx (n:Int) 16 x.o (P+32) 0) R → Ev (fun k=>c05_stored.f k s x.o x.p 0 mx) R:=fun R hR =>
  hmid R (Ev.congr (fun k=>by rw [wrap_in (by omega) (by omega),if_pos cx];rfl) (differ_is (p:=P) hs (by omega) (by omega) hb hR 16 0 (by omega)))
 have hend:∀ R,Ev (fun k=>if (x.o.length:Int)+n > mx then some (x.o,P+32,7) else if (P+32) / 8+n > (s.size:Int) then some (x.o,P+32,2) else c05_stored.l2 k s (n:Int) ((P+32) / 8) 0 x.o (P+32) 0) R → Ev (fun k=>c05_stored.f k s x.o x.p 0 mx) R:=fun R hR=>hthen R (by
  refine Ev.step (fun k=>?_) hR;simp only [c05_stored.l1];rw [if_neg (by decide),wrap_in (n:=(x.o.length:Int)+n) (by omega) (by omega),Int.tdiv_eq_ediv_of_nonneg (by omega),wrap_in (n:=(P+32) / 8) (by omega) (by omega),wrap_in (n:=(P+32) / 8+n) (by omega) (by omega)])
 by_cases co:(x.o.length:Int)+n≤mx;rotate_left
 ·rw [if_neg (show ¬ ((x.o.length:Nat):Int)+(n:Int)≤mx from co)];exact ⟨x.o,P+32,hend _ (Ev.congr (fun k=>by rw [if_pos (by omega)];rfl) (Ev.now _)),rfl,fun h0=>absurd h0 (by simp [fail]),fun h0=>absurd h0 (by simp [fail])⟩
 by_cases cz:(n:Int)≤s.size - (P+16+16) / 8;rotate_left
 ·rw [if_pos (show ((x.o.length:Nat):Int)+(n:Int)≤mx from co),if_neg (show ¬ (n:Int)≤s.size - (P+16+16) / 8 from cz)];exact ⟨x.o,P+32,hend _ (Ev.congr (fun k=>by rw [if_neg (by omega),if_pos (by omega)];rfl) (Ev.now _)),rfl,fun h0=>absurd h0 (by simp [fail]),fun h0=>absurd h0 (by simp [fail])⟩
 refine ⟨x.o ++ cut s ((P+32) / 8).toNat n,8*((P+32) / 8+n),?_,?_⟩
 ·refine hend _ (Ev.congr (fun k=>by rw [if_neg (by omega),if_neg (by omega)]) ?_);have h3:=copy_is (s:=s) (o:=x.o) (p:=P+32) (e:=0) ((P+32) / 8).toNat n hs (by omega) (by omega) n 0 (by omega);rw [show (((P+32) / 8).toNat:Int)=(P+32) / 8 by omega] at h3;have e0:cut s ((P+32) / 8).toNat 0=[]:=rfl;rw [e0,List.append_nil] at h3;rw [if_pos (show ((((RefP.Bn s P 16:Int),(⟨P+16+16,x.o,0⟩:St)).2.o.length:Nat):Int)+(n:Int)≤mx from co),if_pos (show (n:Int)≤s.size - (P+16+16) / 8 from cz)];exact h3
 ·rw [if_pos (show ((x.o.length:Nat):Int)+(n:Int)≤mx from co),if_pos (show (n:Int)≤s.size - (P+16+16) / 8 from cz)];refine ⟨rfl,fun _=>?_,fun _=>?_⟩
  ·show _=x.o ++ cut s ((P+16+16) / 8).toNat (n:Int).toNat;rw [show P+16+16=P+32 by omega,Int.toNat_natCast]
  ·show _=P+16+16+8*(n:Int);omega
end Go.Proofs.Ytpbhkdamkbopkaa.Inf
namespace Go.Proofs.Ytpbhkdamkbopkaa.Inf
open Go.RowKit Ext GInfr GHuff YtpbhkdamkbopkaaW.PrintWords YtpbhkdamkbopkaaW.PrintLast YtpbhkdamkbopkaaW.PrintMore
theorem Length_all:∀ m:Nat,m < 29 → c05_Length.f 40 (257+(m:Int))=some (lenB.getD m 0,lenM.getD m 0):=by decide +kernel
theorem Distance_all:∀ m:Nat,m < 30 → c05_Distance.f 40 (m:Int)=some (disB.getD m 0,disM.getD m 0):=by decide +kernel
theorem length_is (m:Nat) (h:m < 29):Ev (fun k=>c05_Length.f k (257+(m:Int))) (lenB.getD m 0,lenM.getD m 0):=Ev.of (c05_Length.mono _) (Length_all m h)
theorem distance_is (m:Nat) (h:m < 30):Ev (fun k=>c05_Distance.f k (m:Int)) (disB.getD m 0,disM.getD m 0):=Ev.of (c05_Distance.mono _) (Distance_all m h)
theorem run_is {s : ByteArray} {mx p e : Int} {la lb o : List Int} {R : List Int × Int × Int} (d n : Nat) (hd : 1 ≤ d) (hdo : d ≤ o.length) (ho : o.length ≤ 1000000) (hn : n ≤ 1000000)
  (h:Ev (fun k=>c05_codes.l0 k s mx la lb (again o d n) p e) R) (m:Nat):∀ i:Nat,i+m=n → Ev (fun k=>c05_codes.l1 k s mx la lb (n:Int) (d:Int) (i:Int) (again o d i) p e) R:=by
 induction m with
 |zero =>
  intro i hi;obtain rfl:i=n:=by omega
  refine Ev.step (fun k=>?_) h;simp only [c05_codes.l1];rw [if_neg (by omega)]
 |succ m ih =>
  intro i hi;have hl:=again_len o d i;refine Ev.step (fun k=>?_) (ih (i+1) (by omega))
  have hr:rd (again o d i) (((again o d i).length:Int) - d)=(again o d i).getD ((again o d i).length - d) 0:=by
   rw [show ((again o d i).length:Int) - d=(((again o d i).length - d:Nat):Int) by omega];rfl
  simp only [c05_codes.l1];rw [if_pos (by omega),wrap_in (n:=((again o d i).length:Int) - d) (by omega) (by omega),if_pos (by omega),if_pos (by omega),if_pos (by omega),wrap_in (n:=(i:Int)+1) (by omega) (by omega),hr];rfl
theorem far_is {s : ByteArray} {mx : Int} {la lb : List Int} {x : St} {o : List Int} {p e y : Int} (hs : s.size ≤ 1000000) (hm : mx ≤ 262144) (hx : Ok s x) (h : Rel x o p e) (he : x.e = 0) (ho : (x.o.length : Int) ≤ mx) (hb : errOf lb = 0) (h0 : 257 ≤ y) (h1 : y < 286) :
  ∃ o' q,Rel (far s mx lb x y) o' q (far s mx lb x y).e∧∀ R,((far s mx lb x y).e=0 → Ev (fun k=>c05_codes.l0 k s mx la lb o' q 0) R) → ((far s mx lb x y).e ≠ 0 → R=(o',q,(far s mx lb x y).e)) →
   Ev (fun k=>(c05_Length.f k y).bind fun b64=>(c05_number.f k s o p e b64.2).bind fun b66=>(c05_symbol.f k s b66.2.1 b66.2.2.1 b66.2.2.2 lb).bind fun b72=>if b72.2.2.2=0 then (c05_codes.j4 k s mx la lb (wrap64 (b64.1+b66.1)) b72.1 (decide (b72.1 > 29)) b72.2.1 b72.2.2.1 b72.2.2.2) else (c05_codes.j4 k s mx la lb (wrap64 (b64.1+b66.1)) b72.1 false b72.2.1 b72.2.2.1 b72.2.2.2)) R:=by
 unfold Inf.far;obtain ⟨r,hr⟩:∃ r:Nat,(y - 257).toNat=r:=⟨_,rfl⟩;have hqr:=len_rng r (by omega);obtain ⟨n,hn⟩:∃ n:Nat,lenM.getD r 0=(n:Int):=⟨(lenM.getD r 0).toNat,by omega⟩;have hL:=length_is r (by omega);rw [show 257+(r:Int)=y by omega,hn] at hL;simp only [hr,hn];obtain ⟨q1,E1,R1⟩:=number_is n hs hx h (by omega);have a1:=Aft.bits (mx:=mx) hx n (by omega) n rfl;have g1:=bits_get (n:=n) (k:=n) (m:=(Inf.bits s n x).1) (y:=(Inf.bits s n x).2) rfl hx (by omega) rfl;obtain ⟨q2,E2,R2⟩:=symbol_is lb hs a1.ok R1 (fun _=>hb);have a2:=Aft.next (mx:=mx) (by omega) a1.ok lb (fun _=>hb);have g2:=next_get (m:=(Inf.next lb s (Inf.bits s n x).2).1) (y:=(Inf.next lb s (Inf.bits s n x).2).2) (by omega) a1.ok (fun _=>hb) rfl;generalize Inf.bits s n x=m at *;generalize Inf.next lb s m.2=d at *;by_cases c:d.2.e=0∧d.1 ≥ 30
 ·rw [if_pos c];have e3:(fail d.2 3).e=3:=by unfold fail;rw [if_pos c.1]
  rw [if_neg (by rw [e3];decide),e3];refine ⟨o,q2,⟨e3.symm,fun h=>absurd (e3.symm.trans h) (by decide),fun h=>absurd (e3.symm.trans h) (by decide)⟩,fun R _ hR=>?_⟩;obtain rfl:=hR (by decide);refine Ev.bind hL (Ev.bind E1 (Ev.bind E2 ?_));refine Ev.congr (fun k=>if_pos c.1) (Ev.step (f:=fun k=>c05_codes.j5 k s mx la lb (wrap64 (lenB.getD r 0+m.1)) d.1 o q2 3) (fun k=>?_) (Ev.step (f:=fun _=>some (o,q2,3)) (fun k=>?_) (Ev.now _)))
  ·simp only [c05_codes.j4];rw [if_pos (decide_eq_true (by omega))]
  ·simp only [c05_codes.j5];rw [if_neg (by decide)]
 ·rw [if_neg c];by_cases ce:d.2.e=0;rotate_left
  ·rw [if_neg ce];refine ⟨o,q2,R2,fun R _ hR=>?_⟩;obtain rfl:=hR ce;refine Ev.bind hL (Ev.bind E1 (Ev.bind E2 ?_));refine Ev.congr (fun k=>if_neg ce) (Ev.step (f:=fun k=>c05_codes.j5 k s mx la lb (wrap64 (lenB.getD r 0+m.1)) d.1 o q2 d.2.e) (fun k=>?_) (Ev.step (f:=fun _=>some (o,q2,d.2.e)) (fun k=>?_) (Ev.now _)))
   ·simp only [c05_codes.j4];rw [if_neg (by decide)]
   ·simp only [c05_codes.j5];rw [if_neg ce]
  rw [if_pos ce];have hd0:=g2.2.1;have h30:d.1 < 30:=Int.not_le.1 (fun h=>c ⟨ce,h⟩);obtain ⟨v,hv⟩:∃ v:Nat,d.1=(v:Int):=⟨d.1.toNat,by omega⟩;have hdr:=dis_rng v (by omega);obtain ⟨n2,hn2⟩:∃ n2:Nat,disM.getD v 0=(n2:Int):=⟨(disM.getD v 0).toNat,by omega⟩;have hD:=distance_is v (by omega);obtain ⟨q3,E3,R3⟩:=number_is n2 hs a2.ok R2 (by omega);have g3:=bits_get (n:=n2) (k:=n2) (m:=(Inf.bits s n2 d.2).1) (y:=(Inf.bits s n2 d.2).2) rfl a2.ok (by omega) rfl;simp only [hv,Int.toNat_natCast,hn2];rw [hn2] at hD;generalize Inf.bits s n2 d.2=u at *
  have hbase : ∀ R, Ev (fun k => if u.2.e = 0 then (if (wrap64 (disB.getD v 0 + u.1)) > (o.length : Int) then (some (o, q3, 3)) else (if (wrap64 ((o.length : Int) + (wrap64 (lenB.getD r 0 + m.1)))) > mx then (some (o, q3, 7)) else (c05_codes.l1 k s mx la lb (wrap64 (lenB.getD r 0 + m.1)) (wrap64 (disB.getD v 0 + u.1)) 0 o q3 u.2.e))) else (some (o, q3, u.2.e))) R →
    Ev (fun k=>(c05_Length.f k y).bind fun b64=>(c05_number.f k s o p e b64.2).bind fun b66=>(c05_symbol.f k s b66.2.1 b66.2.2.1 b66.2.2.2 lb).bind fun b72=>if b72.2.2.2=0 then (c05_codes.j4 k s mx la lb (wrap64 (b64.1+b66.1)) b72.1 (decide (b72.1 > 29)) b72.2.1 b72.2.2.1 b72.2.2.2) else (c05_codes.j4 k s mx la lb (wrap64 (b64.1+b66.1)) b72.1 false b72.2.1 b72.2.2.1 b72.2.2.2)) R:=fun R hR=>by
   refine Ev.bind hL (Ev.bind E1 (Ev.bind E2 ?_));refine Ev.congr (fun k=>if_pos ce) (Ev.step (f:=fun k=>c05_codes.j5 k s mx la lb (wrap64 (lenB.getD r 0+m.1)) (v:Int) o q2 d.2.e) (fun k=>?_) (Ev.step (f:=fun k=>(c05_Distance.f k (v:Int)).bind fun a=>(c05_number.f k s o q2 d.2.e a.2).bind fun b=>if b.2.2.2=0 then (if (wrap64 (a.1+b.1)) > (b.2.1.length:Int) then (some (b.2.1,b.2.2.1,3)) else (if (wrap64 ((b.2.1.length:Int)+(wrap64 (lenB.getD r 0+m.1)))) > mx then (some (b.2.1,b.2.2.1,7)) else (c05_codes.l1 k s mx la lb (wrap64 (lenB.getD r 0+m.1)) (wrap64 (a.1+b.1)) 0 b.2.1 b.2.2.1 b.2.2.2))) else (some (b.2.1,b.2.2.1,b.2.2.2))) (fun k=>?_) (Ev.bind hD (Ev.bind E3 hR))))
   ·simp only [c05_codes.j4];rw [hv,if_neg (by simp;omega)]
   ·simp only [c05_codes.j5];rw [if_pos ce]
  have hm1:m.1 < 65536:=by have:=(RefP.pow_16 n (by omega)).2;have:=g1.2.2.1;omega
  have hu1:u.1 < 65536:=by have:=(RefP.pow_16 n2 (by omega)).2;have:=g3.2.2.1;omega
  have hm0:=g1.2.1;have hu0:=g3.2.1
  have ho1:(o.length:Int)=u.2.o.length ∨ u.2.e ≠ 0:=by
   by_cases cu:u.2.e=0
   ·exact .inl (by rw [R3.o cu])
   ·exact .inr cu
  have ho2:u.2.o=x.o:=by rw [g3.2.2.2.1,g2.2.2.2.1,g1.2.2.2.1]
  rw [wrap_in (n:=lenB.getD r 0+m.1) (by omega) (by omega),wrap_in (n:=disB.getD v 0+u.1) (by omega) (by omega)] at hbase;obtain ⟨N,hN⟩:∃ N:Nat,lenB.getD r 0+m.1=(N:Int):=⟨(lenB.getD r 0+m.1).toNat,by omega⟩;obtain ⟨D,hD1⟩:∃ D:Nat,disB.getD v 0+u.1=(D:Int):=⟨(disB.getD v 0+u.1).toNat,by omega⟩;rw [hN,hD1] at hbase ⊢;have hNb:N≤70000:=by omega
  have hDb:1≤D∧D≤100000:=by omega
  by_cases cu:u.2.e=0;rotate_left
  ·rw [if_neg cu];refine ⟨o,q3,R3,fun R _ hR=>hbase R ?_⟩;obtain rfl:=hR cu;exact Ev.congr (fun k=>if_neg cu) (Ev.now _)
  rw [if_pos cu];obtain rfl:=R3.o cu;obtain rfl:=R3.p cu;have hlen:(u.2.o.length:Int)≤mx:=by rw [ho2];exact ho
  unfold Inf.copy;by_cases c1:(D:Int)≤u.2.o.length;rotate_left
  ·rw [if_neg c1];(have e3:(fail u.2 3).e=3:=by unfold fail;rw [if_pos cu]);refine ⟨u.2.o,u.2.p,⟨rfl,fun h=>absurd (e3.symm.trans h) (by decide),fun h=>absurd (e3.symm.trans h) (by decide)⟩,fun R _ hR=>hbase R ?_⟩;obtain rfl:=hR (by rw [e3];decide);exact Ev.congr (fun k=>by rw [if_pos cu,if_pos (by omega),e3]) (Ev.now _)
  rw [if_pos c1];by_cases c2:(u.2.o.length:Int)+N≤mx
  ·rw [if_pos c2];refine ⟨again u.2.o D N,u.2.p,⟨rfl,fun _=>rfl,fun _=>rfl⟩,fun R hR _=>hbase R ?_⟩;refine Ev.congr (fun k=>by rw [if_pos cu,if_neg (by omega),wrap_in (n:=(u.2.o.length:Int)+N) (by omega) (by omega),if_neg (by omega),cu]) ?_;exact run_is D N hDb.1 (by omega) (by omega) (by omega) (hR cu) N 0 (by omega)
  ·rw [if_neg c2];(have e7:(fail u.2 7).e=7:=by unfold fail;rw [if_pos cu]);refine ⟨u.2.o,u.2.p,⟨rfl,fun h=>absurd (e7.symm.trans h) (by decide),fun h=>absurd (e7.symm.trans h) (by decide)⟩,fun R _ hR=>hbase R ?_⟩;obtain rfl:=hR (by rw [e7];decide);exact Ev.congr (fun k=>by rw [if_pos cu,if_neg (by omega),wrap_in (n:=(u.2.o.length:Int)+N) (by omega) (by omega),if_pos (by omega),e7]) (Ev.now _)
theorem codes_l0 {s : ByteArray} {mx : Int} {la lb : List Int} (hs : s.size ≤ 1000000) (hm : mx ≤ 262144) (ha : errOf la = 0) (hb : errOf lb = 0) : ∀ (k : Nat) (x : St) (o : List Int) (p e : Int), Ok s x → Rel x o p e → (x.o.length : Int) ≤ mx → (x.e = 0 → left s x ≤ k) →
  ∃ o' q,Ev (fun j=>c05_codes.l0 j s mx la lb o p e) (o',q,(codes s mx la lb k x).e)∧Rel (codes s mx la lb k x) o' q (codes s mx la lb k x).e:=by
 intro k
 induction k with
 |zero =>
  intro x o p e hx h ho hk;have he:x.e ≠ 0:=fun c=>by have:=hk c;unfold left at this;omega
  rw [codes_stop s mx la lb 0 x he];have h':=h.e;subst h';exact ⟨o,p,Ev.step (f:=fun _=>some (o,p,x.e)) (fun j=>by simp only [c05_codes.l0];rw [if_neg he]) (Ev.now _),h⟩
 |succ k ih =>
  intro x o p e hx h ho hk;by_cases he:x.e=0;rotate_left
  ·rw [codes_stop s mx la lb (k+1) x he];have h':=h.e;subst h';exact ⟨o,p,Ev.step (f:=fun _=>some (o,p,x.e)) (fun j=>by simp only [c05_codes.l0];rw [if_neg he]) (Ev.now _),h⟩
  obtain rfl:e=0:=h.e.trans he;obtain ⟨q1,E1,R1⟩:=symbol_is la hs hx h (fun _=>ha);have a1:=Aft.next (mx:=mx) (by omega) hx la (fun _=>ha);have g1:=next_get (m:=(Inf.next la s x).1) (y:=(Inf.next la s x).2) (by omega) hx (fun _=>ha) rfl
  have hone:codes s mx la lb (k+1) x=if (one s mx la lb x).1=true then (one s mx la lb x).2 else codes s mx la lb k (one s mx la lb x).2:=by
   show (if x.e=0 then _ else _)=_;rw [if_pos he]
  have hdef:one s mx la lb x=if (Inf.next la s x).2.e ≠ 0 ∨ (Inf.next la s x).1=256 then (true,(Inf.next la s x).2) else if (Inf.next la s x).1 < 256 then (if ((Inf.next la s x).2.o.length:Int)=mx then (true,fail (Inf.next la s x).2 7) else (false,⟨(Inf.next la s x).2.p,(Inf.next la s x).2.o ++ [(Inf.next la s x).1 % 256],(Inf.next la s x).2.e⟩)) else if (Inf.next la s x).1 ≥ 286 then (true,fail (Inf.next la s x).2 3) else (false,far s mx lb (Inf.next la s x).2 (Inf.next la s x).1):=rfl;rw [hone,hdef];generalize Inf.next la s x=A at *
  have hgo:∀ R,Ev (fun k=>if A.2.e=0 then (c05_codes.j3 k s mx la lb A.1 (A.1 == 256) o q1 A.2.e) else (c05_codes.j3 k s mx la lb A.1 true o q1 A.2.e)) R → Ev (fun j=>c05_codes.l0 j s mx la lb o p 0) R:=fun R hR =>
   Ev.step (f:=fun k=>(c05_symbol.f k s o p 0 la).bind fun b=>if b.2.2.2=0 then (c05_codes.j3 k s mx la lb b.1 (b.1 == 256) b.2.1 b.2.2.1 b.2.2.2) else (c05_codes.j3 k s mx la lb b.1 true b.2.1 b.2.2.1 b.2.2.2)) (fun k=>by simp only [c05_codes.l0];rw [if_pos trivial]) (Ev.bind E1 hR)
  have htrue:∀ v E,Ev (fun k=>c05_codes.j3 k s mx la lb v true o q1 E) (o,q1,E):=fun v E=>Ev.step (f:=fun _=>some (o,q1,E)) (fun k=>by simp only [c05_codes.j3];rw [if_pos trivial]) (Ev.now _);by_cases c1:A.2.e ≠ 0 ∨ A.1=256
  ·rw [if_pos c1,if_pos rfl];refine ⟨o,q1,hgo _ ?_,R1⟩;by_cases c:A.2.e=0
   ·have c2:A.1=256:=c1.resolve_left (fun h=>h c);exact Ev.congr (fun k=>by rw [if_pos c,c2];rfl) (htrue 256 A.2.e)
   ·exact Ev.congr (fun k=>if_neg c) (htrue A.1 A.2.e)
  have c:A.2.e=0:=Decidable.byContradiction (fun h=>c1 (.inl h));have c2:A.1 ≠ 256:=fun h=>c1 (.inr h);rw [if_neg c1];obtain rfl:=R1.o c;obtain rfl:=R1.p c;have hlen:(A.2.o.length:Int)≤mx:=a1.o ho;have hp1:=(g1.2.2.2.2.1 c).2.1
  have hgo2:∀ R,Ev (fun k=>if A.1 < 256 then (if (A.2.o.length:Int) ≥ mx then (some (A.2.o,A.2.p,7)) else (if A.2.o.length < 140737488355328 then (c05_codes.l0 k s mx la lb (A.2.o ++ [A.1 % 256]) A.2.p 0) else none)) else (if A.1 > 285 then (some (A.2.o,A.2.p,3)) else ((c05_Length.f k A.1).bind fun b64=>(c05_number.f k s A.2.o A.2.p A.2.e b64.2).bind fun b66=>(c05_symbol.f k s b66.2.1 b66.2.2.1 b66.2.2.2 lb).bind fun b72=>if b72.2.2.2=0 then (c05_codes.j4 k s mx la lb (wrap64 (b64.1+b66.1)) b72.1 (decide (b72.1 > 29)) b72.2.1 b72.2.2.1 b72.2.2.2) else (c05_codes.j4 k s mx la lb (wrap64 (b64.1+b66.1)) b72.1 false b72.2.1 b72.2.2.1 b72.2.2.2)))) R → Ev (fun j=>c05_codes.l0 j s mx la lb A.2.o p 0) R:=fun R hR =>
   hgo R (Ev.congr (fun k=>if_pos c) (Ev.step (fun k=>by
    simp only [c05_codes.j3];rw [if_neg (by simpa using c2),c]) hR))
  by_cases c3:A.1 < 256
  ·rw [if_pos c3];by_cases c4:(A.2.o.length:Int)=mx
   ·rw [if_pos c4,if_pos rfl];(have e7:(fail A.2 7).e=7:=by unfold fail;rw [if_pos c]);exact ⟨A.2.o,A.2.p,hgo2 _ (Ev.congr (fun k=>by rw [if_pos c3,if_pos (by omega),e7]) (Ev.now _)),rfl,fun h=>absurd (e7.symm.trans h) (by decide),fun h=>absurd (e7.symm.trans h) (by decide)⟩
   ·rw [if_neg c4,if_neg (by simp)];obtain ⟨o',q,F1,F2⟩:=ih ⟨A.2.p,A.2.o ++ [A.1 % 256],A.2.e⟩ (A.2.o ++ [A.1 % 256]) A.2.p 0 ⟨g1.1.p0,g1.1.p1,g1.1.e⟩ ⟨c.symm,fun _=>rfl,fun _=>rfl⟩ (by simp;omega) (fun _=>left_less (hk he) rfl hp1 hx.p1);exact ⟨o',q,hgo2 _ (Ev.congr (fun k=>by rw [if_pos c3,if_neg (by omega),if_pos (by omega)]) F1),F2⟩
  ·rw [if_neg c3];by_cases c5:A.1 ≥ 286
   ·rw [if_pos c5,if_pos rfl];(have e3:(fail A.2 3).e=3:=by unfold fail;rw [if_pos c]);exact ⟨A.2.o,A.2.p,hgo2 _ (Ev.congr (fun k=>by rw [if_neg c3,if_pos (by omega),e3]) (Ev.now _)),rfl,fun h=>absurd (e3.symm.trans h) (by decide),fun h=>absurd (e3.symm.trans h) (by decide)⟩
   rw [if_neg c5,if_neg (by simp)];(have hy0:257≤A.1:=by omega);(have hy1:A.1 < 286:=by omega);obtain ⟨o1,q,F1,F2⟩:=far_is (la:=la) hs hm g1.1 R1 c hlen hb hy0 hy1;have a2:=Aft.far (mx:=mx) (by omega) g1.1 lb hb A.1 hy0 hy1;obtain ⟨o',q',G1,G2⟩:=ih (far s mx lb A.2 A.1) o1 q (far s mx lb A.2 A.1).e a2.ok F1 (a2.o hlen) (fun _=>left_less (hk he) rfl (Int.le_trans hp1 a2.p) hx.p1);by_cases cf:(far s mx lb A.2 A.1).e=0
   ·rw [cf] at G1;exact ⟨o',q',hgo2 _ (Ev.congr (fun k=>by rw [if_neg c3,if_neg (by omega)]) (F2 _ (fun _=>G1) (fun h0=>absurd cf h0))),G2⟩
   ·rw [codes_stop s mx la lb k _ cf];exact ⟨o1,q,hgo2 _ (Ev.congr (fun k=>by rw [if_neg c3,if_neg (by omega)]) (F2 _ (fun h0=>absurd h0 cf) (fun _=>rfl))),F1⟩
theorem codes_is {s : ByteArray} {mx : Int} {la lb o : List Int} {x : St} {p e : Int} (hs : s.size ≤ 1000000) (hm : mx ≤ 262144) (hx : Ok s x) (h : Rel x o p e) (ho : (x.o.length : Int) ≤ mx) :
  ∃ o' q,Ev (fun k=>c05_codes.f k s o p e mx la lb) (o',q,(both s mx la lb x).e)∧Rel (both s mx la lb x) o' q (both s mx la lb x).e:=by
 have hstop:∀ (y:St) (E:Int) (R:Rel y o p E),y.e ≠ 0 → Ev (fun k=>c05_codes.l0 k s mx la lb o p E) (o,p,E):=fun y E R hy=>Ev.step (f:=fun _=>some (o,p,E)) (fun j=>by simp only [c05_codes.l0];rw [if_neg (by rw [R.e];exact hy)]) (Ev.now _);have hj1:∀ E R,Ev (fun k=>c05_codes.l0 k s mx la lb o p E) R → Ev (fun k=>c05_codes.j1 k s mx la lb o p E) R:=fun E R hR=>Ev.step (fun k=>by simp only [c05_codes.j1]) hR;have eB:=RefA.referr_is lb;have eA:=RefA.referr_is la;have t1:=Aft.table (mx:=mx) hx la;have t2:=Aft.table (mx:=mx) t1.ok lb;unfold both;by_cases he:x.e=0;rotate_left
 ·have tA:table la x=x:=by unfold table fail;rw [if_neg he]
  have tB:table lb x=x:=by unfold table fail;rw [if_neg he]
  rw [tA,tB,codes_stop s mx la lb _ _ he];have h':=h.e;subst h';refine ⟨o,p,?_,h⟩;exact Ev.congr (fun k=>by unfold c05_codes.f;rw [if_neg he]) (Ev.step (f:=fun k=>c05_codes.j1 k s mx la lb o p x.e) (fun k=>by simp only [c05_codes.j0];rw [if_neg he]) (hj1 _ _ (hstop x _ h he)))
 obtain rfl:e=0:=h.e.trans he;have hf:∀ R,Ev (fun k=>c05_codes.j0 k s mx la lb o p (errOf la)) R → Ev (fun k=>c05_codes.f k s o p 0 mx la lb) R:=fun R hR=>Ev.congr (fun k=>by unfold c05_codes.f;rw [if_pos rfl]) (Ev.bind eA hR);have tA:table la x=⟨x.p,x.o,errOf la⟩:=by unfold table fail;rw [if_pos he]
 by_cases ca:errOf la=0;rotate_left
 ·have hne:(table la x).e ≠ 0:=by rw [tA];exact ca
  have tB:table lb (table la x)=table la x:=by unfold table;unfold fail;rw [if_neg (by rw [if_pos he];exact ca)]
  rw [tB,codes_stop s mx la lb _ _ hne];have hR:Rel (table la x) o p (table la x).e:=⟨rfl,fun h0=>absurd h0 hne,fun h0=>absurd h0 hne⟩;refine ⟨o,p,?_,hR⟩;rw [tA];exact hf _ (Ev.step (f:=fun k=>c05_codes.j1 k s mx la lb o p (errOf la)) (fun k=>by simp only [c05_codes.j0];rw [if_neg ca]) (hj1 _ _ (hstop (table la x) _ (by rw [tA] at hR ⊢;exact hR) hne)))
 have tA':table la x=x:=by rw [tA,ca,← he]
 rw [tA'] at t2 ⊢;have tB:table lb x=⟨x.p,x.o,errOf lb⟩:=by unfold table fail;rw [if_pos he]
 have hf2:∀ R,Ev (fun k=>c05_codes.l0 k s mx la lb o p (errOf lb)) R → Ev (fun k=>c05_codes.f k s o p 0 mx la lb) R:=fun R hR=>hf R (by
  rw [ca];exact Ev.step (f:=fun k=>(c04_Error.f k lb).bind fun t=>c05_codes.j1 k s mx la lb o p t) (fun k=>by simp only [c05_codes.j0];rw [if_pos trivial]) (Ev.bind eB (hj1 _ _ hR)))
 by_cases cb:errOf lb=0
 ·have tB':table lb x=x:=by rw [tB,cb,← he]
  rw [tB'];obtain ⟨o',q,F1,F2⟩:=codes_l0 hs hm ca cb (left s x) x o p 0 hx h ho (fun _=>Nat.le_refl _);exact ⟨o',q,hf2 _ (by rw [cb];exact F1),F2⟩
 ·have hR:Rel (table lb x) o p (table lb x).e:=⟨rfl,fun h0=>absurd h0 (by rw [tB];exact cb),fun h0=>absurd h0 (by rw [tB];exact cb)⟩;have hne:(table lb x).e ≠ 0:=by rw [tB];exact cb
  rw [codes_stop s mx la lb _ _ hne];have:=hf2 _ (hstop (table lb x) _ (by rw [tB] at hR ⊢;exact hR) hne);exact ⟨o,p,by rw [tB];exact this,hR⟩
end Go.Proofs.Ytpbhkdamkbopkaa.Inf
namespace Go.Proofs.Ytpbhkdamkbopkaa.Inf
open Go.RowKit Ext GInfr GHuff YtpbhkdamkbopkaaW.PrintWords YtpbhkdamkbopkaaW.PrintLast YtpbhkdamkbopkaaW.PrintMore
theorem plain_is:Ev (fun k=>c05_Plain.f k) (plainA,plainB):=Ev.of c05_Plain.mono (k:=700) (by decide +kernel)
theorem order_rd:∀ i:Nat,i < 19 → rd [16,17,18,0,8,7,9,6,10,5,11,4,12,3,13,2,14,1,15] (i:Int)=((order.getD i 0:Nat):Int)∧order.getD i 0 < 19:=by decide
theorem owns_is {s : ByteArray} {a b c : Int} (hs : s.size ≤ 1000000) (c0 : 0 ≤ c) (c1 : c ≤ 15) (o : List Int) (d : Nat) : ∀ (i : Nat) (own : List Int) (x : St) (p e : Int), i + d = (c + 4).toNat → own.length = 19 → Ok s x → Rel x o p e →
  ∃ p',Rel (owns s ((order.take (c+4).toNat).drop i) own x).2 o p' (owns s ((order.take (c+4).toNat).drop i) own x).2.e∧∀ R,
   Ev (fun k=>if (owns s ((order.take (c+4).toNat).drop i) own x).2.e=0 then ((c04_Error.f k (owns s ((order.take (c+4).toNat).drop i) own x).1).bind fun t=>c05_lengths.j3 k s a b (owns s ((order.take (c+4).toNat).drop i) own x).1 o p' t) else c05_lengths.j3 k s a b (owns s ((order.take (c+4).toNat).drop i) own x).1 o p' (owns s ((order.take (c+4).toNat).drop i) own x).2.e) R →
   Ev (fun k=>c05_lengths.l0 k s a b c own [16,17,18,0,8,7,9,6,10,5,11,4,12,3,13,2,14,1,15] (i:Int) o p e) R:=by
 induction d with
 |zero =>
  intro i own x p e hi hl hx h;have h':=h.e;subst h';rw [List.drop_of_length_le (by rw [List.length_take];omega)];refine ⟨p,h,fun R hE=>Ev.step (fun k=>?_) hE⟩;simp only [c05_lengths.l0,owns];rw [wrap_in (n:=c+4) (by omega) (by omega),if_neg (by omega)];rfl
 |succ d ih =>
  intro i own x p e hi hl hx h;obtain ⟨q1,E1,R1⟩:=number_is 3 hs hx h (by decide);obtain ⟨r1,r2⟩:=order_rd i (by omega);have g1:=bits_get (n:=3) (k:=3) (m:=(Inf.bits s 3 x).1) (y:=(Inf.bits s 3 x).2) rfl hx (by decide) rfl
  have hdrop:(order.take (c+4).toNat).drop i=order.getD i 0 :: (order.take (c+4).toNat).drop (i+1):=by
   (have hlen:i < (order.take (c+4).toNat).length:=by rw [List.length_take];show i < min _ 19;omega);rw [List.drop_eq_getElem_cons hlen,List.getElem_take]
   congr 1
   rw [List.getD_eq_getElem?_getD,List.getElem?_eq_getElem (show i < order.length from by show i < 19;omega)];rfl
  obtain ⟨p',F1,F2⟩:=ih (i+1) (own.set (order.getD i 0) (Inf.bits s 3 x).1) (Inf.bits s 3 x).2 q1 (Inf.bits s 3 x).2.e (by omega) (by rw [List.length_set];exact hl) g1.1 R1;rw [hdrop];refine ⟨p',F1,fun R hE=>?_⟩;refine Ev.step (f:=fun k=>(c05_number.f k s o p e 3).bind fun t=>c05_lengths.l0 k s a b c (own.set (order.getD i 0) t.1) [16,17,18,0,8,7,9,6,10,5,11,4,12,3,13,2,14,1,15] ((i+1:Nat):Int) t.2.1 t.2.2.1 t.2.2.2) (fun k=>?_) (Ev.bind E1 (F2 R hE));simp only [c05_lengths.l0];rw [wrap_in (n:=c+4) (by omega) (by omega),if_pos (by omega),if_pos (by omega),if_pos (by show (i:Int) < 19;omega),r1,Int.toNat_natCast,wrap_in (n:=(i:Int)+1) (by omega) (by omega)]
  congr 1
  funext t
  rw [if_pos (by omega),if_pos (by omega)];rfl
end Go.Proofs.Ytpbhkdamkbopkaa.Inf
namespace Go.Proofs.Ytpbhkdamkbopkaa.Inf
open Go.RowKit Ext GInfr GHuff YtpbhkdamkbopkaaW.PrintWords YtpbhkdamkbopkaaW.PrintLast YtpbhkdamkbopkaaW.PrintMore
def tail5 (k:Nat) (x0:ByteArray) (x7:Int) (x10 x13:List Int) (x14:Int) (bt325:Int × List Int × Int × Int):Option (List Int × List Int × List Int × Int × Int):=(if bt325.2.2.2=0 then (if bt325.1 < 16 then (if x13.length < 17592186044416 then (c05_lengths.l1 k x0 x7 x10 (x13 ++ [bt325.1]) x14 bt325.2.1 bt325.2.2.1 bt325.2.2.2) else (none)) else (if bt325.1=16 then (if (x13.length:Int)=0 then (some (([]:List Int),([]:List Int),bt325.2.1,bt325.2.2.1,3)) else (if 0≤(wrap64 ((x13.length:Int) - 1)) then (if (wrap64 ((x13.length:Int) - 1)) < (x13.length:Int) then ((c05_number.f k x0 bt325.2.1 bt325.2.2.1 bt325.2.2.2 2).bind fun bt335=>(c05_lengths.j6 k x0 x7 x10 x13 x14 (rd x13 (wrap64 ((x13.length:Int) - 1))) (wrap64 (bt335.1+3)) bt335.2.1 bt335.2.2.1 bt335.2.2.2)) else (none)) else (none))) else (if bt325.1=17 then ((c05_number.f k x0 bt325.2.1 bt325.2.2.1 bt325.2.2.2 3).bind fun bt341=>(c05_lengths.j6 k x0 x7 x10 x13 x14 0 (wrap64 (bt341.1+3)) bt341.2.1 bt341.2.2.1 bt341.2.2.2)) else (if bt325.1=18 then ((c05_number.f k x0 bt325.2.1 bt325.2.2.1 bt325.2.2.2 7).bind fun bt347=>(c05_lengths.j6 k x0 x7 x10 x13 x14 0 (wrap64 (bt347.1+11)) bt347.2.1 bt347.2.2.1 bt347.2.2.2)) else (c05_lengths.j6 k x0 x7 x10 x13 x14 0 0 bt325.2.1 bt325.2.2.1 bt325.2.2.2))))) else (c05_lengths.j8 k x7 x13 x14 bt325.2.1 bt325.2.2.1 bt325.2.2.2))
theorem rep_is {s : ByteArray} {a all p e v : Int} {own o l : List Int} {R : List Int × List Int × List Int × Int × Int} (n : Nat) (hl : l.length + n ≤ 1000000)
  (h:Ev (fun k=>c05_lengths.l1 k s a own (l ++ List.replicate n v) all o p e) R) (m:Nat):∀ i:Nat,i+m=n → Ev (fun k=>c05_lengths.l2 k s a own (l ++ List.replicate i v) all v (n:Int) (i:Int) o p e) R:=by
 induction m with
 |zero =>
  intro i hi;obtain rfl:i=n:=by omega
  refine Ev.step (fun k=>?_) h;simp only [c05_lengths.l2];rw [if_neg (by omega)]
 |succ m ih =>
  intro i hi;refine Ev.step (fun k=>?_) (ih (i+1) (by omega));simp only [c05_lengths.l2];rw [if_pos (by omega),if_pos (by rw [List.length_append,List.length_replicate];omega),wrap_in (n:=(i:Int)+1) (by omega) (by omega),List.replicate_succ',← List.append_assoc];rfl
theorem many_j6 {s : ByteArray} {a all p e v : Int} {own o l : List Int} {R : List Int × List Int × List Int × Int × Int} (n : Nat) (hl : l.length + n ≤ 1000000)
  (h:Ev (fun k=>c05_lengths.l1 k s a own (l ++ List.replicate n v) all o p e) R):Ev (fun k=>c05_lengths.j6 k s a own l all v (n:Int) o p e) R:=by
 have h0:=rep_is n hl h n 0 (by omega);rw [List.replicate_zero,List.append_nil] at h0;exact Ev.step (fun k=>by simp only [c05_lengths.j6];rfl) h0
theorem stop_j8 {a all p e:Int} {o l:List Int} (he:e ≠ 0):Ev (fun k=>c05_lengths.j8 k a l all o p e) (([]:List Int),([]:List Int),o,p,e) :=
 Ev.step (f:=fun k=>c05_lengths.j9 k a l false o p e) (fun k=>by simp only [c05_lengths.j8];rw [if_neg he])
  (Ev.step (f:=fun _=>some (([]:List Int),([]:List Int),o,p,e)) (fun k=>by simp only [c05_lengths.j9];rw [if_neg (by decide),if_neg he]) (Ev.now _))
theorem out_l1 {s : ByteArray} {a all p e : Int} {own o l : List Int} {R : List Int × List Int × List Int × Int × Int} (hc : e ≠ 0 ∨ ¬ (l.length : Int) < all) (h : Ev (fun k => c05_lengths.j8 k a l all o p e) R) :
  Ev (fun k=>c05_lengths.l1 k s a own l all o p e) R:=by
 refine Ev.step (f:=fun k=>c05_lengths.j5 k s a own l all false o p e) (fun k=>?_) (Ev.step (fun k=>?_) h)
 ·simp only [c05_lengths.l1];by_cases he:e=0
  ·rw [if_pos he,decide_eq_false (hc.resolve_left (fun h=>h he))]
  ·rw [if_neg he]
 ·simp only [c05_lengths.j5];rw [if_neg (by decide)]
theorem in_l1 {s : ByteArray} {a all p : Int} {own o l : List Int} {R : List Int × List Int × List Int × Int × Int} {b : Int × List Int × Int × Int} (hc : (l.length : Int) < all) (E : Ev (fun k => c05_symbol.f k s o p 0 own) b) (h : Ev (fun k => tail5 k s a own l all b) R) :
  Ev (fun k=>c05_lengths.l1 k s a own l all o p 0) R:=by
 refine Ev.step (f:=fun k=>c05_lengths.j5 k s a own l all true o p 0) (fun k=>?_) (Ev.step (f:=fun k=>(c05_symbol.f k s o p 0 own).bind fun b=>tail5 k s a own l all b) (fun k=>?_) (Ev.bind E h))
 ·simp only [c05_lengths.l1];rw [if_pos trivial,decide_eq_true hc]
 ·simp only [c05_lengths.j5,tail5];rw [if_pos trivial]
theorem many_is {s : ByteArray} {a all : Int} {own : List Int} (hs : s.size ≤ 1000000) (hall : all ≤ 1000) (hown : own.length = 19) : ∀ (k : Nat) (l : List Int) (x : St) (o : List Int) (p e : Int), Ok s x → Rel x o p e → (x.e = 0 → errOf own = 0) → (x.e = 0 → left s x ≤ k) →
  ∃ o' q,Rel (many s own all k l x).2 o' q (many s own all k l x).2.e∧∀ R,((many s own all k l x).2.e=0 → Ev (fun j=>c05_lengths.j8 j a (many s own all k l x).1 all o' q 0) R) → ((many s own all k l x).2.e ≠ 0 → R=(([]:List Int),([]:List Int),o',q,(many s own all k l x).2.e)) →
   Ev (fun j=>c05_lengths.l1 j s a own l all o p e) R:=by
 intro k
 induction k with
 |zero =>
  intro l x o p e hx h ho hk;have he:x.e ≠ 0:=fun c=>by have:=hk c;unfold left at this;omega
  rw [many_stop 0 (.inr he)];have h':=h.e;subst h';exact ⟨o,p,h,fun R _ hR=>by rw [hR he];exact out_l1 (.inl he) (stop_j8 he)⟩
 |succ k ih =>
  intro l x o p e hx h ho hk;by_cases he:x.e=0;rotate_left
  ·rw [many_stop (k+1) (.inr he)];have h':=h.e;subst h';exact ⟨o,p,h,fun R _ hR=>by rw [hR he];exact out_l1 (.inl he) (stop_j8 he)⟩
  obtain rfl:e=0:=h.e.trans he;by_cases hlen:(l.length:Int) < all;rotate_left
  ·rw [many_stop (k+1) (.inl hlen)];refine ⟨o,p,by rw [he];exact h,fun R hR _=>out_l1 (.inr hlen) (hR he)⟩
  obtain ⟨q1,E1,R1⟩:=symbol_is own hs hx h ho;have g1:=next_get (m:=(Inf.next own s x).1) (y:=(Inf.next own s x).2) (by omega) hx ho rfl
  have hm:many s own all (k+1) l x=many s own all k (lengthen s l (Inf.next own s x).1 (Inf.next own s x).2).1 (lengthen s l (Inf.next own s x).1 (Inf.next own s x).2).2:=by
   show (if _ then _ else _)=_;rw [if_pos hlen,if_pos he]
  rw [hm];generalize Inf.next own s x=A at *;by_cases c:A.2.e=0;rotate_left
  ·rw [lengthen_same c,many_stop k (.inr c)];refine ⟨o,q1,R1,fun R _ hR=>in_l1 hlen E1 ?_⟩;obtain rfl:=hR c;exact Ev.congr (fun k=>by unfold tail5;rw [if_neg c]) (stop_j8 c)
  obtain rfl:=R1.o c;obtain rfl:=R1.p c;have hp1:=(g1.2.2.2.2.1 c).2.1;have hy0:=g1.2.1;have hy19:A.1 < 19:=by rcases g1.2.2.1 with h1 | h1 <;> omega
  have ho':(z:St) → z.e=0 → errOf own=0:=fun _ _=>ho he;have lleft:∀ z:St,A.2.p≤z.p → left s z≤k:=fun z hz=>left_less (hk he) rfl (Int.le_trans hp1 hz) hx.p1;rw [c] at E1;have hb:∀ R,Ev (fun k=>tail5 k s a own l all (A.1,A.2.o,A.2.p,0)) R → Ev (fun j=>c05_lengths.l1 j s a own l all A.2.o p 0) R:=fun R hR=>in_l1 hlen E1 hR
  have hrun : ∀ (v base : Int) (n : Nat), n ≤ 7 → 0 ≤ base → base ≤ 100 → ∃ q2, Ev (fun k => c05_number.f k s A.2.o A.2.p 0 (n : Int)) ((Inf.bits s n A.2).1, A.2.o, q2, (Inf.bits s n A.2).2.e) ∧
    ∃ o' q,Rel (many s own all k (l ++ List.replicate (base+(Inf.bits s n A.2).1).toNat v) (Inf.bits s n A.2).2).2 o' q (many s own all k (l ++ List.replicate (base+(Inf.bits s n A.2).1).toNat v) (Inf.bits s n A.2).2).2.e ∧
    ∀ R,((many s own all k (l ++ List.replicate (base+(Inf.bits s n A.2).1).toNat v) (Inf.bits s n A.2).2).2.e=0 → Ev (fun j=>c05_lengths.j8 j a (many s own all k (l ++ List.replicate (base+(Inf.bits s n A.2).1).toNat v) (Inf.bits s n A.2).2).1 all o' q 0) R) →
     ((many s own all k (l ++ List.replicate (base+(Inf.bits s n A.2).1).toNat v) (Inf.bits s n A.2).2).2.e ≠ 0 → R=(([]:List Int),([]:List Int),o',q,(many s own all k (l ++ List.replicate (base+(Inf.bits s n A.2).1).toNat v) (Inf.bits s n A.2).2).2.e)) →
     Ev (fun k=>c05_lengths.j6 k s a own l all v (wrap64 ((Inf.bits s n A.2).1+base)) A.2.o q2 (Inf.bits s n A.2).2.e) R:=by
   intro v base n hn hb0 hb1;obtain ⟨q2,E2,R2⟩:=number_is n hs g1.1 R1 (by omega);rw [c] at E2;have g2:=bits_get (n:=n) (k:=n) (m:=(Inf.bits s n A.2).1) (y:=(Inf.bits s n A.2).2) rfl g1.1 (by omega) rfl;have a2:=Aft.bits (mx:=0) g1.1 n (by omega) n rfl;generalize Inf.bits s n A.2=B at *
   have hB:B.1 < 200:=by
    have:=(Nat.pow_le_pow_right (n:=2) (by decide) hn:(2:Nat) ^ n≤2 ^ 7);have h3:=g2.2.2.1;(have h4:((2:Int) ^ n)=((2 ^ n:Nat):Int):=by rw [Int.natCast_pow];rfl);omega
   have hB0:=g2.2.1;obtain ⟨m,hm⟩:∃ m:Nat,base+B.1=(m:Int):=⟨(base+B.1).toNat,by omega⟩;obtain ⟨o',q,F1,F2⟩:=ih (l ++ List.replicate m v) B.2 A.2.o q2 B.2.e g2.1 R2 (ho' B.2) (fun _=>lleft B.2 a2.p);rw [hm,Int.toNat_natCast];refine ⟨q2,E2,o',q,F1,fun R h1 h2=>?_⟩;rw [wrap_in (n:=B.1+base) (by omega) (by omega),Int.add_comm,hm];exact many_j6 m (by omega) (F2 R h1 h2)
  by_cases c16:A.1=16
  ·by_cases cl:l.length=0
   ·have hle:lengthen s l A.1 A.2=(l,fail A.2 3):=by unfold lengthen;rw [if_pos c,if_pos c16,if_pos cl]
    (have e3:(fail A.2 3).e=3:=by unfold fail;rw [if_pos c]);rw [hle,many_stop k (.inr (by rw [e3];decide))];refine ⟨A.2.o,A.2.p,⟨rfl,fun h0=>absurd (e3.symm.trans h0) (by decide),fun h0=>absurd (e3.symm.trans h0) (by decide)⟩,fun R _ hR=>hb R ?_⟩;obtain rfl:=hR (by rw [e3];decide);exact Ev.congr (fun k=>by unfold tail5;rw [if_pos rfl,if_neg (by show ¬ A.1 < 16;omega),if_pos (show A.1=16 from c16),if_pos (by omega),e3]) (Ev.now _)
   ·have hle:lengthen s l A.1 A.2=(l ++ List.replicate (3+(Inf.bits s 2 A.2).1).toNat (l.getD (l.length - 1) 0),(Inf.bits s 2 A.2).2):=by unfold lengthen;rw [if_pos c,if_pos c16,if_neg cl]
    rw [hle];obtain ⟨q2,E2,o',q,F1,F2⟩:=hrun (l.getD (l.length - 1) 0) 3 2 (by decide) (by decide) (by decide);refine ⟨o',q,F1,fun R h1 h2=>hb R ?_⟩;(have hrd:rd l ((l.length:Int) - 1)=l.getD (l.length - 1) 0:=by rw [show (l.length:Int) - 1=((l.length - 1:Nat):Int) by omega];rfl);exact Ev.congr (fun k=>by unfold tail5;rw [if_pos rfl,if_neg (by show ¬ A.1 < 16;omega),if_pos (show A.1=16 from c16),if_neg (by omega),wrap_in (n:=(l.length:Int) - 1) (by omega) (by omega),if_pos (by omega),if_pos (by omega),hrd];rfl) (Ev.bind (f:=fun k b=>c05_lengths.j6 k s a own l all (l.getD (l.length - 1) 0) (wrap64 (b.1+3)) b.2.1 b.2.2.1 b.2.2.2) E2 (F2 R h1 h2))
  ·by_cases c17:A.1=17
   ·have hle:lengthen s l A.1 A.2=(l ++ List.replicate (3+(Inf.bits s 3 A.2).1).toNat 0,(Inf.bits s 3 A.2).2):=by unfold lengthen;rw [if_pos c,if_neg c16,if_pos c17]
    rw [hle];obtain ⟨q2,E2,o',q,F1,F2⟩:=hrun 0 3 3 (by decide) (by decide) (by decide);refine ⟨o',q,F1,fun R h1 h2=>hb R ?_⟩;exact Ev.congr (fun k=>by unfold tail5;rw [if_pos rfl,if_neg (by show ¬ A.1 < 16;omega),if_neg (show ¬ A.1=16 from c16),if_pos (show A.1=17 from c17)];rfl) (Ev.bind (f:=fun k b=>c05_lengths.j6 k s a own l all 0 (wrap64 (b.1+3)) b.2.1 b.2.2.1 b.2.2.2) E2 (F2 R h1 h2))
   ·by_cases c18:A.1=18
    ·have hle:lengthen s l A.1 A.2=(l ++ List.replicate (11+(Inf.bits s 7 A.2).1).toNat 0,(Inf.bits s 7 A.2).2):=by unfold lengthen;rw [if_pos c,if_neg c16,if_neg c17,if_pos c18]
     rw [hle];obtain ⟨q2,E2,o',q,F1,F2⟩:=hrun 0 11 7 (by decide) (by decide) (by decide);refine ⟨o',q,F1,fun R h1 h2=>hb R ?_⟩;exact Ev.congr (fun k=>by unfold tail5;rw [if_pos rfl,if_neg (by show ¬ A.1 < 16;omega),if_neg (show ¬ A.1=16 from c16),if_neg (show ¬ A.1=17 from c17),if_pos (show A.1=18 from c18)];rfl) (Ev.bind (f:=fun k b=>c05_lengths.j6 k s a own l all 0 (wrap64 (b.1+11)) b.2.1 b.2.2.1 b.2.2.2) E2 (F2 R h1 h2))
    ·have hle:lengthen s l A.1 A.2=(l ++ [A.1],A.2):=by unfold lengthen;rw [if_pos c,if_neg c16,if_neg c17,if_neg c18]
     rw [hle];rw [c] at R1;obtain ⟨o',q,F1,F2⟩:=ih (l ++ [A.1]) A.2 A.2.o A.2.p 0 g1.1 R1 (ho' A.2) (fun _=>lleft A.2 (Int.le_refl _));refine ⟨o',q,F1,fun R h1 h2=>hb R ?_⟩;exact Ev.congr (fun k=>by unfold tail5;rw [if_pos rfl,if_pos (by show A.1 < 16;omega),if_pos (by omega)]) (F2 R h1 h2)
end Go.Proofs.Ytpbhkdamkbopkaa.Inf
namespace Go.Proofs.Ytpbhkdamkbopkaa.Inf
open Go.RowKit Ext GInfr GHuff YtpbhkdamkbopkaaW.PrintWords YtpbhkdamkbopkaaW.PrintLast YtpbhkdamkbopkaaW.PrintMore
theorem many_full {s:ByteArray} (hs:s.size≤140737488351232) (own:List Int) (all:Int):∀ (k:Nat) (l:List Int) (x:St),Ok s x → (x.e=0 → errOf own=0) → (x.e=0 → left s x≤k) → (many s own all k l x).2.e=0 → all≤((many s own all k l x).1.length:Int):=by
 intro k
 induction k with
 |zero =>
  intro l x hx he hk h;have h0:x.e=0:=h;have:=hk h0;unfold left at this;omega
 |succ k ih =>
  intro l x hx he hk h;by_cases hl:(l.length:Int) < all;rotate_left
  ·rw [many_stop (k+1) (.inl hl)];exact Int.not_lt.1 hl
  by_cases hc:x.e=0;rotate_left
  ·rw [many_stop (k+1) (.inr hc)] at h;exact absurd h hc
  have hm:many s own all (k+1) l x=many s own all k (lengthen s l (Inf.next own s x).1 (Inf.next own s x).2).1 (lengthen s l (Inf.next own s x).1 (Inf.next own s x).2).2:=by
   show (if _ then _ else _)=_;rw [if_pos hl,if_pos hc]
  rw [hm] at h ⊢;have g1:=next_get (m:=(Inf.next own s x).1) (y:=(Inf.next own s x).2) hs hx he rfl;generalize Inf.next own s x=A at *;exact ih _ _ (lengthen_spec g1.1).1 (fun _=>he hc) (fun h0=>left_less (hk hc) rfl (Int.le_trans (g1.2.2.2.2.1 (lengthen_e h0)).2.1 (lengthen_spec g1.1).2.1) hx.p1) h
theorem fail_three {x:St} (h:x.e=0):(fail x 3).e=3:=by unfold fail;rw [if_pos h]
theorem rel_three {x:St} (h:x.e=0) (o:List Int) (p:Int):Rel (fail x 3) o p 3 :=
 ⟨(fail_three h).symm,fun h0=>absurd ((fail_three h).symm.trans h0) (by decide),fun h0=>absurd ((fail_three h).symm.trans h0) (by decide)⟩
theorem number5_is {s : ByteArray} {x : St} {o : List Int} {p e : Int} (hs : s.size ≤ 1000000) (hx : Ok s x) (h : Rel x o p e) :
  ∃ q,Ev (fun k=>c05_number.f k s o p e 5) ((bits s 5 x).1,o,q,(bits s 5 x).2.e)∧Rel (bits s 5 x).2 o q (bits s 5 x).2.e:=number_is 5 hs hx h (by decide)
theorem number4_is {s : ByteArray} {x : St} {o : List Int} {p e : Int} (hs : s.size ≤ 1000000) (hx : Ok s x) (h : Rel x o p e) :
  ∃ q,Ev (fun k=>c05_number.f k s o p e 4) ((bits s 4 x).1,o,q,(bits s 4 x).2.e)∧Rel (bits s 4 x).2 o q (bits s 4 x).2.e:=number_is 4 hs hx h (by decide)
theorem j0_is {s:ByteArray} {a b c p e:Int} {o:List Int} {R:List Int × List Int × List Int × Int × Int} (t:Bool) (h:Ev (fun k=>c05_lengths.j1 k s a b c o p (if t=true then 3 else e)) R):Ev (fun k=>c05_lengths.j0 k s a b c t o p e) R :=
 Ev.step (fun k=>by cases t <;> simp [c05_lengths.j0]) h
theorem head_is {s : ByteArray} {x : St} {o : List Int} {p e : Int} (hs : s.size ≤ 1000000) (hx : Ok s x) (h : Rel x o p e) :
  ∃ q,let a:=bits s 5 x;let b:=bits s 5 a.2;let c:=bits s 4 b.2;let x1:=if c.2.e=0∧(a.1+257 > 286 ∨ b.1+1 > 30) then fail c.2 3 else c.2
   (0≤a.1∧a.1 < 32)∧(0≤b.1∧b.1 < 32)∧(0≤c.1∧c.1≤15)∧Ok s x1∧Rel x1 o q x1.e∧∀ R,Ev (fun k=>c05_lengths.j1 k s a.1 b.1 c.1 o q x1.e) R → Ev (fun k=>c05_lengths.f k s o p e) R:=by
 obtain ⟨q1,E1,R1⟩:=number5_is hs hx h;have g1:=bits_get (n:=5) (k:=5) (m:=(Inf.bits s 5 x).1) (y:=(Inf.bits s 5 x).2) rfl hx (by decide) rfl;generalize Inf.bits s 5 x=a at *;obtain ⟨q2,E2,R2⟩:=number5_is hs g1.1 R1;have g2:=bits_get (n:=5) (k:=5) (m:=(Inf.bits s 5 a.2).1) (y:=(Inf.bits s 5 a.2).2) rfl g1.1 (by decide) rfl;generalize hb:Inf.bits s 5 a.2=b at *;obtain ⟨q3,E3,R3⟩:=number4_is hs g2.1 R2;have g3:=bits_get (n:=4) (k:=4) (m:=(Inf.bits s 4 b.2).1) (y:=(Inf.bits s 4 b.2).2) rfl g2.1 (by decide) rfl;generalize hc:Inf.bits s 4 b.2=c at *;have l1:a.1 < 32:=g1.2.2.1;have l2:b.1 < 32:=g2.2.2.1;have l3:c.1 < 16:=g3.2.2.1;refine ⟨q3,⟨g1.2.1,l1⟩,?_⟩;simp only [hb,hc];refine ⟨⟨g2.2.1,l2⟩,⟨g3.2.1,by omega⟩,?_⟩
 have hf:∀ R,Ev (fun k=>if c.2.e=0 then (if a.1 > 29 then (c05_lengths.j0 k s a.1 b.1 c.1 true o q3 c.2.e) else (c05_lengths.j0 k s a.1 b.1 c.1 (decide (b.1 > 29)) o q3 c.2.e)) else (c05_lengths.j0 k s a.1 b.1 c.1 false o q3 c.2.e)) R → Ev (fun k=>c05_lengths.f k s o p e) R:=fun R hR=>by
  unfold c05_lengths.f;exact Ev.bind E1 (Ev.bind E2 (Ev.bind E3 hR))
 by_cases cc:c.2.e=0∧(a.1+257 > 286 ∨ b.1+1 > 30);rotate_left
 ·rw [if_neg cc];refine ⟨g3.1,R3,fun R hR=>hf R ?_⟩;refine Ev.congr (f:=fun k=>c05_lengths.j0 k s a.1 b.1 c.1 false o q3 c.2.e) (fun k=>?_) (j0_is false hR);by_cases ce:c.2.e=0
  ·have hn:¬ (a.1+257 > 286 ∨ b.1+1 > 30):=fun h=>cc ⟨ce,h⟩;rw [if_pos ce,if_neg (by omega),decide_eq_false (by omega)]
  ·rw [if_neg ce]
 rw [if_pos cc];refine ⟨fail_ok g3.1 (by decide),by rw [fail_three cc.1];exact rel_three cc.1 o q3,fun R hR=>hf R ?_⟩;rw [fail_three cc.1] at hR;refine Ev.congr (f:=fun k=>c05_lengths.j0 k s a.1 b.1 c.1 true o q3 c.2.e) (fun k=>?_) (j0_is true hR);rw [if_pos cc.1];by_cases c29:a.1 > 29
 ·rw [if_pos c29]
 ·rw [if_neg c29,decide_eq_true (by omega)]
theorem lengths_is {s : ByteArray} {x : St} {o : List Int} {p e : Int} (hs : s.size ≤ 1000000) (hx : Ok s x) (h : Rel x o p e) :
  ∃ row num o' q,Ev (fun k=>c05_lengths.f k s o p e) (row,num,o',q,(lengths s x).2.2.e)∧Rel (lengths s x).2.2 o' q (lengths s x).2.2.e∧row.take (num.headD 0).toNat=(lengths s x).1∧row.drop (num.headD 0).toNat=(lengths s x).2.1:=by
 obtain ⟨q1,hq⟩:=head_is hs hx h;unfold Inf.lengths;simp only at hq ⊢;generalize Inf.bits s 5 x=a at *;generalize Inf.bits s 5 a.2=b at *;generalize Inf.bits s 4 b.2=c at *;generalize (if c.2.e=0∧(a.1+257 > 286 ∨ b.1+1 > 30) then fail c.2 3 else c.2)=x1 at *;obtain ⟨⟨a0,a1⟩,⟨b0,b1⟩,⟨c0,c1⟩,ok1,R1,J1⟩:=hq;obtain ⟨p',F1,F2⟩:=owns_is (a:=a.1) (b:=b.1) hs c0 c1 o (c.1+4).toNat 0 (List.replicate 19 0) x1 q1 x1.e (by omega) (by simp) ok1 R1;rw [List.drop_zero] at F1 F2;have hwl:=owns_len s (order.take (c.1+4).toNat) (List.replicate 19 0) x1;have hwo:=(owns_ok s (order.take (c.1+4).toNat) (List.replicate 19 0) x1 ok1).1;rw [List.length_replicate] at hwl;generalize Inf.owns s (order.take (c.1+4).toNat) (List.replicate 19 0) x1=w at *
 have J2:∀ R,Ev (fun k=>c05_lengths.j3 k s a.1 b.1 w.1 o p' (table w.1 w.2).e) R → Ev (fun k=>c05_lengths.f k s o p e) R:=fun R hR=>by
  refine J1 R (Ev.step (f:=fun k=>c05_lengths.l0 k s a.1 b.1 c.1 (List.replicate 19 0) [16,17,18,0,8,7,9,6,10,5,11,4,12,3,13,2,14,1,15] ((0:Nat):Int) o q1 x1.e) (fun k=>?_) (F2 R ?_))
  ·simp only [c05_lengths.j1];rw [if_pos (by decide)];rfl
  ·by_cases cw:w.2.e=0
   ·have ht:(table w.1 w.2).e=errOf w.1:=by unfold table fail;rw [if_pos cw]
    rw [ht] at hR;exact Ev.congr (fun k=>if_pos cw) (Ev.bind (f:=fun k t=>c05_lengths.j3 k s a.1 b.1 w.1 o p' t) (RefA.referr_is w.1) hR)
   ·have ht:(table w.1 w.2).e=w.2.e:=by unfold table fail;rw [if_neg cw]
    rw [ht] at hR;exact Ev.congr (fun k=>if_neg cw) hR
 have ok2:Ok s (table w.1 w.2):=table_ok hwo w.1;have R2:Rel (table w.1 w.2) o p' (table w.1 w.2).e:=⟨rfl,fun h0=>by unfold table;rw [fail_o];exact F1.o (table_e h0).1,fun h0=>by unfold table;rw [fail_p];exact F1.p (table_e h0).1⟩;have e2:(table w.1 w.2).e=0 → errOf w.1=0:=fun h0=>(table_e h0).2;generalize table w.1 w.2=x2 at *;have full:=many_full (s:=s) (by omega) w.1 (a.1+257+(b.1+1)) (left s x2) [] x2 ok2 e2 (fun _=>Nat.le_refl _);obtain ⟨o',q,G1,G2⟩:=many_is (a:=a.1) (all:=a.1+257+(b.1+1)) hs (by omega) hwl (left s x2) [] x2 o p' x2.e ok2 R2 e2 (fun _=>Nat.le_refl _);generalize many s w.1 (a.1+257+(b.1+1)) (left s x2) [] x2=z at *
 have J3:∀ R,Ev (fun k=>c05_lengths.l1 k s a.1 w.1 [] (a.1+257+(b.1+1)) o p' x2.e) R → Ev (fun k=>c05_lengths.f k s o p e) R:=fun R hR=>J2 R (Ev.step (fun k=>by
  simp only [c05_lengths.j3];rw [wrap_in (n:=a.1+b.1) (by omega) (by omega),wrap_in (n:=a.1+b.1+258) (by omega) (by omega),show a.1+b.1+258=a.1+257+(b.1+1) by omega]) hR)
 by_cases cz:z.2.e=0;rotate_left
 ·rw [if_neg cz];exact ⟨[],[],o',q,J3 _ (G2 _ (fun h0=>absurd h0 cz) (fun _=>rfl)),G1,rfl,rfl⟩
 rw [if_pos cz];have hfull:=full cz;have hrd:rd z.1 256=z.1.getD 256 0:=rfl;by_cases cf:(z.1.length:Int) > a.1+257+(b.1+1) ∨ z.1.getD 256 0=0
 ·rw [if_pos cf];refine ⟨[],[],o',q,J3 _ (G2 _ (fun _=>?_) (fun h0=>absurd cz h0)),by rw [fail_three cz];exact rel_three cz o' q,rfl,rfl⟩;rw [fail_three cz];refine Ev.step (f:=fun k=>c05_lengths.j9 k a.1 z.1 true o' q 0) (fun k=>?_) (Ev.step (f:=fun _=>some (([]:List Int),([]:List Int),o',q,3)) (fun k=>?_) (Ev.now _))
  ·simp only [c05_lengths.j8];rw [if_pos trivial];by_cases cl:(z.1.length:Int)=a.1+257+(b.1+1)
   ·have h0:z.1.getD 256 0=0:=cf.resolve_left (by omega);rw [if_pos cl,if_pos (by omega),hrd,h0];rfl
   ·rw [if_neg cl]
  ·simp only [c05_lengths.j9];rw [if_pos trivial,if_neg (by decide)]
 rw [if_neg cf];have hlen:(z.1.length:Int)=a.1+257+(b.1+1):=Int.le_antisymm (Int.not_lt.1 (fun h=>cf (.inl h))) hfull;have hne:z.1.getD 256 0 ≠ 0:=fun h=>cf (.inr h);refine ⟨z.1,[a.1+257],o',q,J3 _ (G2 _ (fun _=>?_) (fun h0=>absurd cz h0)),G1,rfl,rfl⟩;refine Ev.step (f:=fun k=>c05_lengths.j9 k a.1 z.1 false o' q 0) (fun k=>?_) (Ev.step (f:=fun _=>some (z.1,[a.1+257],o',q,z.2.e)) (fun k=>?_) (Ev.now _))
 ·simp only [c05_lengths.j8];rw [if_pos trivial,if_pos hlen,if_pos (by omega),hrd,beq_eq_false_iff_ne.mpr hne]
 ·simp only [c05_lengths.j9];rw [if_neg (by decide),if_pos trivial,wrap_in (n:=a.1+257) (by omega) (by omega),if_pos (by omega),if_pos (by omega),cz]
theorem lencodes_is {s : ByteArray} {x : St} {o : List Int} {p e mx : Int} (hs : s.size ≤ 1000000) (hm : mx ≤ 262144) (hx : Ok s x) (h : Rel x o p e) (ho : (x.o.length : Int) ≤ mx) :
  ∃ o' q,Ev (fun k=>c05_lencodes.f k s o p e mx) (o',q,(both s mx (lengths s x).1 (lengths s x).2.1 (lengths s x).2.2).e)∧Rel (both s mx (lengths s x).1 (lengths s x).2.1 (lengths s x).2.2) o' q (both s mx (lengths s x).1 (lengths s x).2.1 (lengths s x).2.2).e:=by
 obtain ⟨row,num,o1,q1,E,R1,h1,h2⟩:=lengths_is hs hx h;have a1:=Aft.lengths (mx:=mx) (by omega) hx;obtain ⟨o',q,E2,R2⟩:=codes_is (la:=(lengths s x).1) (lb:=(lengths s x).2.1) hs hm a1.ok R1 (a1.o ho);refine ⟨o',q,?_,R2⟩;rw [← h1,← h2] at E2;unfold c05_lencodes.f;rw [← h1,← h2];exact Ev.bind (f:=fun k q=>c05_codes.f k s q.2.2.1 q.2.2.2.1 q.2.2.2.2 mx (q.1.take (q.2.1.headD 0).toNat) (q.1.drop (q.2.1.headD 0).toNat)) E E2
def fin (y:St):ByteArray × Int × Int:=if y.e=0 then (strOfNums y.o,(y.p+7) / 8,0) else (⟨#[]⟩,0,y.e)
theorem stop_raw {s:ByteArray} {mx last p e:Int} {o:List Int} {y:St} (hs:s.size≤1000000) (hy:Ok s y) (h:Rel y o p e) (hl:last ≠ 0 ∨ y.e ≠ 0):Ev (fun k=>c05_Raw.l0 k s mx last o p e) (fin y):=by
 refine Ev.step (f:=fun k=>c05_Raw.j2 k s mx false o p e) (fun k=>?_) (Ev.step (f:=fun _=>some (fin y)) (fun k=>?_) (Ev.now _))
 ·simp only [c05_Raw.l0];by_cases c:last=0
  ·rw [if_pos c,beq_eq_false_iff_ne.mpr (by rw [h.e];exact hl.resolve_left (fun h=>h c))]
  ·rw [if_neg c]
 ·simp only [c05_Raw.j2];rw [if_neg (by decide)];unfold fin;by_cases c:y.e=0
  ·have hp:=hy.p0;have hp1:=hy.p1;obtain rfl:=h.o c;obtain rfl:=h.p c;rw [if_pos (h.e.trans c),if_pos c,wrap_in (n:=y.p+7) (by omega) (by omega),Int.tdiv_eq_ediv_of_nonneg (by omega),wrap_in (n:=(y.p+7) / 8) (by omega) (by omega)]
  ·rw [if_neg (fun h0=>c (h.e.symm.trans h0)),if_neg c,h.e]
theorem kind_is {s : ByteArray} {mx last p : Int} {o : List Int} {b : Int × St} (hs : s.size ≤ 1000000) (hm0 : 0 ≤ mx) (hm : mx ≤ 262144) (hb : Ok s b.2) (h : Rel b.2 o p b.2.e) (he : b.2.e = 0) (ho : (b.2.o.length : Int) ≤ mx) (h0 : 0 ≤ b.1) (h4 : b.1 < 4) :
  ∃ y,y=(if b.1=0 then (if b.2.e=0 then stored s mx b.2 else b.2) else if b.1=1 then both s mx plainA plainB b.2 else if b.1=2 then both s mx (lengths s b.2).1 (lengths s b.2).2.1 (lengths s b.2).2.2 else fail b.2 3) ∧
  ∃ o' q,Rel y o' q y.e∧∀ R,Ev (fun k=>c05_Raw.l0 k s mx last o' q y.e) R →
   Ev (fun k=>if b.1=0 then ((c05_stored.f k s o p b.2.e mx).bind fun C=>c05_Raw.j3 k s mx last b.1 C.1 C.2.1 C.2.2) else c05_Raw.j3 k s mx last b.1 o p b.2.e) R:=by
 have hj4:∀ (o':List Int) (q E:Int) R,b.1 ≠ 2 → b.1 ≠ 3 → Ev (fun k=>c05_Raw.l0 k s mx last o' q E) R → Ev (fun k=>c05_Raw.j4 k s mx last b.1 o' q E) R:=fun o' q E R n2 n3 hR =>
  Ev.step (fun k=>by simp only [c05_Raw.j4];rw [if_neg n2,if_neg n3]) hR
 have hj3:∀ (o':List Int) (q E:Int) R,b.1 ≠ 1 → Ev (fun k=>c05_Raw.j4 k s mx last b.1 o' q E) R → Ev (fun k=>c05_Raw.j3 k s mx last b.1 o' q E) R:=fun o' q E R n1 hR =>
  Ev.step (fun k=>by simp only [c05_Raw.j3];rw [if_neg n1]) hR
 by_cases c0:b.1=0
 ·refine ⟨stored s mx b.2,by rw [if_pos c0,if_pos he],?_⟩;obtain ⟨o',q,E,R1⟩:=stored_is hs hb h he hm0 hm (by omega);refine ⟨o',q,R1,fun R hR=>Ev.congr (fun k=>if_pos c0) (Ev.bind (f:=fun k C=>c05_Raw.j3 k s mx last b.1 C.1 C.2.1 C.2.2) E ?_)⟩;exact hj3 _ _ _ _ (by omega) (hj4 _ _ _ _ (by omega) (by omega) hR)
 by_cases c1:b.1=1
 ·refine ⟨both s mx plainA plainB b.2,by rw [if_neg c0,if_pos c1],?_⟩;obtain ⟨o',q,E,R1⟩:=codes_is (la:=plainA) (lb:=plainB) hs hm hb h ho;refine ⟨o',q,R1,fun R hR=>Ev.congr (fun k=>if_neg c0) (Ev.step (f:=fun k=>(c05_Plain.f k).bind fun D=>(c05_codes.f k s o p b.2.e mx D.1 D.2).bind fun C=>c05_Raw.j4 k s mx last b.1 C.1 C.2.1 C.2.2) (fun k=>?_) (Ev.bind plain_is (Ev.bind (f:=fun k C=>c05_Raw.j4 k s mx last b.1 C.1 C.2.1 C.2.2) E ?_)))⟩
  ·simp only [c05_Raw.j3];rw [if_pos c1]
  ·exact hj4 _ _ _ _ (by omega) (by omega) hR
 by_cases c2:b.1=2;rotate_left
 ·have c3:b.1=3:=by omega
  refine ⟨fail b.2 3,by rw [if_neg c0,if_neg c1,if_neg c2],?_⟩;rw [fail_three he];refine ⟨o,p,rel_three he o p,fun R hR=>Ev.congr (fun k=>if_neg c0) (hj3 _ _ _ _ c1 (Ev.step (fun k=>?_) hR))⟩;simp only [c05_Raw.j4];rw [if_neg c2,if_pos c3]
 refine ⟨both s mx (lengths s b.2).1 (lengths s b.2).2.1 (lengths s b.2).2.2,by rw [if_neg c0,if_neg c1,if_pos c2],?_⟩;obtain ⟨o',q,E,R1⟩:=lencodes_is hs hm hb h ho;refine ⟨o',q,R1,fun R hR=>Ev.congr (fun k=>if_neg c0) (hj3 _ _ _ _ c1 (Ev.step (f:=fun k=>(c05_lencodes.f k s o p b.2.e mx).bind fun C=>c05_Raw.l0 k s mx last C.1 C.2.1 C.2.2) (fun k=>?_) (Ev.bind (f:=fun k C=>c05_Raw.l0 k s mx last C.1 C.2.1 C.2.2) E hR)))⟩;simp only [c05_Raw.j4];rw [if_pos c2]
 congr 1
 funext C
 rw [if_neg (by omega)]
theorem blocks_is {s:ByteArray} {mx:Int} (hs:s.size≤1000000) (hm0:0≤mx) (hm:mx≤262144):∀ (k:Nat) (x:St) (o:List Int) (p:Int),Ok s x → Rel x o p 0 → (x.o.length:Int)≤mx → left s x≤k → Ev (fun j=>c05_Raw.l0 j s mx 0 o p 0) (fin (blocks s mx k x)):=by
 intro k
 induction k with
 |zero=>intro x o p hx h ho hk;unfold left at hk;omega
 |succ k ih =>
  intro x o p hx h ho hk;have ab:=Aft.block (mx:=mx) (s:=s) (by omega) hx;obtain ⟨q1,E1,R1⟩:∃ q,Ev (fun k=>c05_number.f k s o p 0 1) ((Inf.bits s 1 x).1,o,q,(Inf.bits s 1 x).2.e)∧Rel (Inf.bits s 1 x).2 o q (Inf.bits s 1 x).2.e:=number_is 1 hs hx h (by decide);have g1:=bits_get (n:=1) (k:=1) (m:=(Inf.bits s 1 x).1) (y:=(Inf.bits s 1 x).2) rfl hx (by decide) rfl;obtain ⟨q2,E2,R2⟩:∃ q,Ev (fun k=>c05_number.f k s o q1 (Inf.bits s 1 x).2.e 2) ((Inf.bits s 2 (Inf.bits s 1 x).2).1,o,q,(Inf.bits s 2 (Inf.bits s 1 x).2).2.e)∧Rel (Inf.bits s 2 (Inf.bits s 1 x).2).2 o q (Inf.bits s 2 (Inf.bits s 1 x).2).2.e:=number_is 2 hs g1.1 R1 (by decide);have g2:=bits_get (n:=2) (k:=2) (m:=(Inf.bits s 2 (Inf.bits s 1 x).2).1) (y:=(Inf.bits s 2 (Inf.bits s 1 x).2).2) rfl g1.1 (by decide) rfl;have gz:(Inf.bits s 2 (Inf.bits s 1 x).2).2.e ≠ 0 → (Inf.bits s 2 (Inf.bits s 1 x).2).1=0:=fun h=>tak_zero h;have hbl:blocks s mx (k+1) x=if (block s mx x).1=true then (block s mx x).2 else if (block s mx x).2.e=0 then blocks s mx k (block s mx x).2 else (block s mx x).2:=rfl;have hdef:block s mx x=(decide ((Inf.bits s 1 x).1=1),if (Inf.bits s 2 (Inf.bits s 1 x).2).1=0 then (if (Inf.bits s 2 (Inf.bits s 1 x).2).2.e=0 then stored s mx (Inf.bits s 2 (Inf.bits s 1 x).2).2 else (Inf.bits s 2 (Inf.bits s 1 x).2).2) else if (Inf.bits s 2 (Inf.bits s 1 x).2).1=1 then both s mx plainA plainB (Inf.bits s 2 (Inf.bits s 1 x).2).2 else if (Inf.bits s 2 (Inf.bits s 1 x).2).1=2 then both s mx (lengths s (Inf.bits s 2 (Inf.bits s 1 x).2).2).1 (lengths s (Inf.bits s 2 (Inf.bits s 1 x).2).2).2.1 (lengths s (Inf.bits s 2 (Inf.bits s 1 x).2).2).2.2 else fail (Inf.bits s 2 (Inf.bits s 1 x).2).2 3):=rfl
  rw [hbl];rw [hdef] at ab ⊢;generalize Inf.bits s 1 x=a at *;generalize Inf.bits s 2 a.2=b at *
  have hgo:∀ R,Ev (fun k=>if b.2.e=0 then (if b.1=0 then ((c05_stored.f k s o q2 b.2.e mx).bind fun C=>c05_Raw.j3 k s mx a.1 b.1 C.1 C.2.1 C.2.2) else c05_Raw.j3 k s mx a.1 b.1 o q2 b.2.e) else some ((⟨#[]⟩:ByteArray),0,b.2.e)) R → Ev (fun j=>c05_Raw.l0 j s mx 0 o p 0) R:=fun R hR =>
   Ev.step (f:=fun k=>c05_Raw.j2 k s mx true o p 0) (fun k=>by simp only [c05_Raw.l0];rw [if_pos trivial];rfl)
    (Ev.step (f:=fun k=>(c05_number.f k s o p 0 1).bind fun A=>(c05_number.f k s A.2.1 A.2.2.1 A.2.2.2 2).bind fun B=>if B.2.2.2=0 then (if B.1=0 then ((c05_stored.f k s B.2.1 B.2.2.1 B.2.2.2 mx).bind fun C=>c05_Raw.j3 k s mx A.1 B.1 C.1 C.2.1 C.2.2) else c05_Raw.j3 k s mx A.1 B.1 B.2.1 B.2.2.1 B.2.2.2) else some ((⟨#[]⟩:ByteArray),0,B.2.2.2)) (fun k=>by simp only [c05_Raw.j2];rw [if_pos trivial]) (Ev.bind E1 (Ev.bind E2 hR)))
  have a2:a.1 < 2:=g1.2.2.1;have b4:b.1 < 4:=g2.2.2.1;by_cases cb:b.2.e=0;rotate_left
  ·have c0:=gz cb;rw [if_pos c0,if_neg cb]
   have hz:(if decide (a.1=1)=true then b.2 else if b.2.e=0 then blocks s mx k b.2 else b.2)=b.2:=by
    rw [if_neg cb];split <;> rfl
   refine (show ∀ z,z=b.2 → Ev (fun j=>c05_Raw.l0 j s mx 0 o p 0) (fin z) from fun z hz=>?_) _ hz;rw [hz];refine hgo _ (Ev.congr (fun k=>?_) (Ev.now _));rw [if_neg cb];unfold fin;rw [if_neg cb]
  have ho2:b.2.o=x.o:=g2.2.2.2.1.trans g1.2.2.2.1;obtain ⟨y,hy,o',q,R3,J⟩:=kind_is (last:=a.1) (p:=q2) (o:=o) hs hm0 hm g2.1 R2 cb (by rw [ho2];exact ho) g2.2.1 b4;rw [← hy] at ab ⊢;have hJ:∀ R,Ev (fun k=>c05_Raw.l0 k s mx a.1 o' q y.e) R → Ev (fun j=>c05_Raw.l0 j s mx 0 o p 0) R:=fun R hR=>hgo R (Ev.congr (fun k=>if_pos cb) (J R hR));by_cases ca:a.1=1
  ·rw [if_pos (decide_eq_true ca)];exact hJ _ (stop_raw hs ab.1.ok R3 (.inl (by omega)))
  rw [if_neg (by simpa using ca)];have ca0:a.1=0:=by have:=g1.2.1;omega
  rw [ca0] at hJ;by_cases cy:y.e=0
  ·rw [if_pos cy];rw [cy] at hJ R3;exact hJ _ (ih y o' q ab.1.ok R3 (ab.1.o ho) (left_less hk rfl (ab.2 cy) hx.p1))
  ·rw [if_neg cy];exact hJ _ (stop_raw hs ab.1.ok R3 (.inr cy))
theorem refraw_is (s:ByteArray) (mx:Int) (hs:s.size≤1000000):Ev (fun k=>c05_Raw.f k s mx) (raw s mx):=by
 unfold raw;by_cases c:mx < 0 ∨ mx > 262144
 ·rw [if_pos c];refine Ev.congr (f:=fun k=>c05_Raw.j0 k s mx true) (fun k=>?_) (Ev.step (f:=fun _=>some ((⟨#[]⟩:ByteArray),0,1)) (fun k=>?_) (Ev.now _))
  ·unfold c05_Raw.f;by_cases c1:mx < 0
   ·rw [if_pos c1]
   ·rw [if_neg c1,decide_eq_true (c.resolve_left c1)]
  ·simp only [c05_Raw.j0];rw [if_pos trivial]
 rw [if_neg c];have hm0:0≤mx:=Int.not_lt.1 (fun h=>c (.inl h));have hm:mx≤262144:=Int.not_lt.1 (fun h=>c (.inr h));refine Ev.congr (f:=fun k=>c05_Raw.j0 k s mx false) (fun k=>?_) (Ev.step (f:=fun k=>c05_Raw.l0 k s mx 0 [] 0 0) (fun k=>?_) ?_)
 ·unfold c05_Raw.f;rw [if_neg (by omega),decide_eq_false (by omega)]
 ·simp only [c05_Raw.j0];rw [if_neg (by decide)]
 ·exact blocks_is hs hm0 hm (8*s.size+2) ⟨0,[],0⟩ [] 0 ⟨by decide,by show (0:Int)≤8*s.size;omega,.inl rfl⟩ ⟨rfl,fun _=>rfl,fun _=>rfl⟩ hm0 (by unfold left;show (8*(s.size:Int)+1 - 0).toNat+1≤_;omega)
end Go.Proofs.Ytpbhkdamkbopkaa.Inf
