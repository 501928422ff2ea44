/- Parts of the proof, glued by a program of this session (wip/tools/claimfit.py). -/
import Derived.Test.YtpbhkdamkbopkaaMIOH
set_option linter.unusedSimpArgs false
set_option linter.unusedVariables false
namespace Go.Proofs.Ytpbhkdamkbopkaa.RefA
open Go.RowKit Go.Proofs.Ytpbhkdamkbopkaa.Ext Go.Proofs.Ytpbhkdamkbopkaa.GHuff Go.Proofs.YtpbhkdamkbopkaaW.PrintWords Go.Proofs.YtpbhkdamkbopkaaW.PrintLast Go.Proofs.YtpbhkdamkbopkaaW.PrintMore
/-- A longer code than n bits begins so. -/
def Begins (l:List Int) (n:Nat) (v:Int) (i:Nat):Prop:=(n:Int) < l.getD i 0∧codeAt l i / 2 ^ ((l.getD i 0).toNat - n)=v
/-- Where the codes are full,bits that begin with no code of up to n bits begin a longer one. -/
theorem full_begins (l:List Int) (hf:Gn l 15=32768) (n:Nat) (hn:n≤15) (v:Int) (h0:Gn l n≤v) (h1:v < 2 ^ n):∃ i:Nat,i < l.length∧Begins l n v i:=by
 -- the least length at which the codes reach beyond v
 have key:∀ m,n≤m → m≤15 → (∃ i:Nat,i < l.length∧Begins l n v i) ∨ Gn l m≤v*2 ^ (m - n):=by
  intro m
  induction m with
  |zero=>intro a b;obtain rfl:n=0:=(by omega);right;simpa using h0
  |succ m ih =>
   intro a b
   by_cases e:n=m+1
   ·subst e;right;simpa using h0
   ·rcases ih (by omega) (by omega) with h | h
    ·exact .inl h
    ·by_cases hlt:v*2 ^ (m+1 - n) < Gn l (m+1)
     ·left
      have e2:v*2 ^ (m+1 - n)=2*(v*2 ^ (m - n)):=by
       rw [show m+1 - n=(m - n)+1 by omega,Int.pow_succ,← Int.mul_assoc,Int.mul_comm _ 2]
      have hge:firstC l (m+1)≤v*2 ^ (m+1 - n):=by rw [firstC_succ,e2];omega
      obtain ⟨i,_,hi,hli,hc⟩:=symbol_is l (m+1) (by omega) (by omega) _ hge hlt
      refine ⟨i,hi,?_,?_⟩
      ·rw [hli];omega
      ·rw [hli,Int.toNat_natCast,hc,Int.mul_ediv_cancel _ (Int.ne_of_gt (Int.pow_pos (by decide)))]
     ·right;omega
 rcases key 15 hn (Nat.le_refl _) with h | h
 ·exact h
 ·exfalso
  rw [hf] at h
  have h3:(2:Int) ^ n*2 ^ (15 - n)=32768:=by rw [← Int.pow_add,show n+(15 - n)=15 by omega];decide
  have h4:(0:Int) < 2 ^ (15 - n):=Int.pow_pos (by decide)
  have h5:v*2 ^ (15 - n) < 2 ^ n*2 ^ (15 - n):=Int.mul_lt_mul_of_pos_right h1 h4
  omega
theorem begins_more (l:List Int) (hok:okL l=true) (n:Nat) (v:Int) (i:Nat) (hi:i < l.length) (h:Begins l n v i):Sn l n ≠ Sn l 15:=by
 obtain ⟨m,em,hm⟩:=ok_at l hok i hi
 have h1:=h.1
 rw [em] at h1
 have h2:=symbol_at l i m (by omega) (by omega) hi em
 have h3:0 < cz l m:=by have:=h2.1;have:=h2.2.1;unfold Gn at *;omega
 obtain ⟨q,rfl⟩:∃ q,m=q+1:=⟨m - 1,by omega⟩
 have h4:=Sn_succ l q (by omega)
 have h5:=Sn_mono l n q (by omega) (by omega)
 have h6:=Sn_mono l (q+1) 15 hm (Nat.le_refl _)
 omega
/-- By lengths that may be: is there a longer code that begins so,if no code of up to n bits does? -/
theorem begins_iff (l:List Int) (hok:okL l=true) (hb:badSum l=false) (n:Nat) (hn:n≤15) (v:Int) (h0:Gn l n≤v) (hv0:0≤v) (h1:v < 2 ^ n):(∃ i:Nat,i < l.length∧Begins l n v i) ↔ Sn l n ≠ Sn l 15:=by
 constructor
 ·rintro ⟨i,hi,h⟩
  exact begins_more l hok n v i hi h
 ·intro hs
  rcases good_sum l hb with hf | ⟨h2,_⟩ | ⟨h2,h3,_⟩
  ·exact full_begins l hf n hn v h0 h1
  ·exfalso
   have h4:=Sn_mono l n 15 hn (Nat.le_refl _)
   have h5:0≤Sn l n:=Int.natCast_nonneg _
   omega
  ·by_cases hn0:n=0
   ·subst hn0
    have hv:v=0:=by simp at h1;omega
    have hs1:=Gn_succ l 0
    rw [Gn_zero,h3] at hs1
    have hf1:firstC l 1=0:=by rw [firstC_succ,Gn_zero];rfl
    obtain ⟨i,_,hi,hli,hc⟩:=symbol_is l 1 (by decide) (by decide) 0 (by rw [hf1];decide) (by rw [hs1];decide)
    refine ⟨i,hi,?_,?_⟩
    ·rw [hli];decide
    ·rw [hc,hv];simp
   ·exfalso
    have h4:=Sn_mono l 1 n (by omega) hn
    have h5:Sn l 1=Sn l 0+cz l 1:=Sn_succ l 0 (by decide)
    have h6:Sn l 0=0:=rfl
    have h7:=Sn_mono l n 15 hn (Nat.le_refl _)
    omega
theorem codesOf_rng (l:List Int) (hl:l.length≤320) (hok:okL l=true) (i:Nat) (hi:i < l.length):0≤codeAt l i∧codeAt l i≤41943360:=by
 obtain ⟨m,em,hm⟩:=ok_at l hok i hi
 have h1:=firstC_le l hl m (by omega)
 have h2:=idxN_length l m i
 unfold codeAt
 rw [rank_n l i m em,em,Int.toNat_natCast]
 omega
/-- The reference's way from a symbol's own length: its code is halved down to n bits. -/
theorem refnext_l2 (l : List Int) (hl : l.length ≤ 320) (s : ByteArray) (pos : Int) (cs : List Int) (v : Int) (n : Nat) (b : Bool) (i : Nat) (hi : i < l.length) (m : Nat) (hm : l.getD i 0 = m) (hm15 : m ≤ 15) (r : Int × Int × Int) (d : Nat) : ∀ (j : Nat) (c : Int), j + d = m → 0 ≤ c → c ≤ 41943360 →
  (if c / 2 ^ d=v then (if m=n then r=((i:Int),wrap64 (pos+n),0) else Ev (fun k=>celluloidref04_Next.l1 k l s pos cs v n true ((i+1:Nat):Int)) r) else Ev (fun k=>celluloidref04_Next.l1 k l s pos cs v n b ((i+1:Nat):Int)) r) →
  Ev (fun k=>celluloidref04_Next.l2 k l s pos cs v n b i c j) r:=by
 have hri:rd l i=m:=by rw [rd_nat];exact hm
 have hi1:(i:Int) < l.length:=by omega
 have e1:Aside0 (wrap64 ((i:Int)+1)=((i+1:Nat):Int)):=⟨by rw [wrap_in (by omega) (by omega)];rfl⟩
 induction d with
 |zero =>
  intro j c hj hc0 hc1 h
  obtain rfl:j=m:=by omega
  rw [Int.pow_zero,Int.ediv_one] at h
  by_cases hcv:c=v
  ·rw [if_pos hcv] at h
   by_cases hmn:j=n
   ·rw [if_pos hmn] at h
    refine Ev.step (f:=fun _=>some r) (fun k=>?_) (Ev.now _)
    simp only [celluloidref04_Next.l2]
    rw [if_pos (Int.natCast_nonneg _),if_pos hi1,hri,if_neg (Int.lt_irrefl _),if_pos hcv,if_pos (by exact_mod_cast hmn),h]
   ·rw [if_neg hmn] at h
    refine Ev.step (fun k=>?_) h
    simp only [celluloidref04_Next.l2]
    rw [if_pos (Int.natCast_nonneg _),if_pos hi1,hri,if_neg (Int.lt_irrefl _),if_pos hcv,if_neg (by exact_mod_cast hmn),e1.out]
  ·rw [if_neg hcv] at h
   refine Ev.step (fun k=>?_) h
   simp only [celluloidref04_Next.l2]
   rw [if_pos (Int.natCast_nonneg _),if_pos hi1,hri,if_neg (Int.lt_irrefl _),if_neg hcv,e1.out]
 |succ d ih =>
  intro j c hj hc0 hc1 h
  have e:c / 2 ^ (d+1)=c / 2 / 2 ^ d:=by rw [Int.pow_succ,Int.mul_comm,Int.ediv_ediv_of_nonneg (by decide)]
  rw [e] at h
  have hd:=ih (j+1) (c / 2) (by omega) (by omega) (by omega) h
  have hjm:(j:Int) < m:=by omega
  have e2:Aside0 (wrap64 (c / 2)=c / 2):=⟨wrap_in (by omega) (by omega)⟩
  have e3:Aside0 (wrap64 ((j:Int)+1)=((j+1:Nat):Int)):=⟨by rw [wrap_in (by omega) (by omega)];rfl⟩
  refine Ev.step (fun k=>?_) hd
  simp only [celluloidref04_Next.l2]
  rw [if_pos (Int.natCast_nonneg _),if_pos hi1,hri,if_pos hjm,Int.tdiv_eq_ediv_of_nonneg hc0,e2.out,e3.out]
/-- Does symbol i stand as the document says: its code is v,of n bits? -/
def Hits (l:List Int) (n:Nat) (v:Int) (i:Nat):Prop:=0 < n∧l.getD i 0=n∧codeAt l i=v
/-- One pass over all symbols: the symbol is there. -/
theorem refnext_hit (l : List Int) (hl : l.length ≤ 320) (hok : okL l = true) (s : ByteArray) (pos : Int) (v : Int) (n : Nat) (hn : n ≤ 15) (i0 : Nat) (hi0 : i0 < l.length) (hh : Hits l n v i0) (d : Nat) : ∀ (i : Nat) (b : Bool), i + d = i0 →
  Ev (fun k=>celluloidref04_Next.l1 k l s pos (codesOf l) v n b i) ((i0:Int),wrap64 (pos+n),0):=by
 induction d with
 |zero =>
  intro i b hi
  obtain rfl:i=i0:=by omega
  have hil:(i:Int) < l.length:=by omega
  have hri:rd l i=n:=by rw [rd_nat];exact hh.2.1
  have hcr:=codesOf_rng l hl hok i hi0
  have hcd:rd (codesOf l) i=codeAt l i:=by
   rw [rd_nat,List.getD_eq_getElem?_getD,codesOf_get l i hi0,if_neg (by rw [hh.2.1];have:=hh.1;omega)];rfl
  have h2:=refnext_l2 l hl s pos (codesOf l) v n b i hi0 n hh.2.1 hn ((i:Int),wrap64 (pos+n),0) 0 n (codeAt l i) (by omega) hcr.1 hcr.2 (by
   rw [Int.pow_zero,Int.ediv_one,if_pos hh.2.2,if_pos rfl])
  obtain ⟨K,h2⟩:=h2
  dsimp only at h2
  have hn0:((n:Int) == 0)=false:=beq_eq_false_iff_ne.2 (by have:=hh.1;omega)
  have hcl:(i:Int) < (codesOf l).length:=by rw [codesOf_length];omega
  refine ⟨K+2,fun k hk=>?_⟩
  obtain ⟨k,rfl⟩:∃ q,k=q+2:=⟨k - 2,by omega⟩
  simp only [celluloidref04_Next.l1]
  rw [if_pos hil,if_pos (Int.natCast_nonneg _),hri,if_neg (Int.lt_irrefl _),hn0]
  simp only [celluloidref04_Next.j2]
  rw [if_neg (by simp),if_pos (Int.natCast_nonneg _),if_pos hcl,hcd]
  exact h2 k (by omega)
 |succ d ih =>
  intro i b hi
  have hil:(i:Int) < l.length:=by omega
  obtain ⟨m,em,hm⟩:=ok_at l hok i (by omega)
  have hri:rd l i=m:=by rw [rd_nat];exact em
  have e1:Aside0 (wrap64 ((i:Int)+1)=((i+1:Nat):Int)):=⟨by rw [wrap_in (by omega) (by omega)];rfl⟩
  have hcl:(i:Int) < (codesOf l).length:=by rw [codesOf_length];omega
  have key:Ev (fun k=>celluloidref04_Next.j2 k l s pos (codesOf l) v n b i (decide (m < n ∨ m=0))) ((i0:Int),wrap64 (pos+n),0):=by
   by_cases hc:m < n ∨ m=0
   ·rw [decide_eq_true hc]
    refine Ev.step (fun k=>?_) (ih (i+1) b (by omega))
    simp only [celluloidref04_Next.j2]
    rw [if_pos trivial,e1.out]
   ·rw [decide_eq_false hc]
    have hcr:=codesOf_rng l hl hok i (by omega)
    have hcd:rd (codesOf l) i=codeAt l i:=by
     rw [rd_nat,List.getD_eq_getElem?_getD,codesOf_get l i (by omega),if_neg (by rw [em];omega)];rfl
    have hne:¬ (m=n∧codeAt l i=v):=by
     rintro ⟨rfl,hcv⟩
     have:=code_inj l i i0 m (by omega) (by omega) (by omega) hi0 em hh.2.1 (by rw [hcv,hh.2.2])
     omega
    have h2:=refnext_l2 l hl s pos (codesOf l) v n b i (by omega) m em hm ((i0:Int),wrap64 (pos+n),0) (m - n) n (codeAt l i) (by omega) hcr.1 hcr.2 (by
     by_cases hcv:codeAt l i / 2 ^ (m - n)=v
     ·rw [if_pos hcv]
      by_cases hmn:m=n
      ·exfalso;subst hmn;rw [Nat.sub_self,Int.pow_zero,Int.ediv_one] at hcv;exact hne ⟨rfl,hcv⟩
      ·rw [if_neg hmn];exact ih (i+1) true (by omega)
     ·rw [if_neg hcv];exact ih (i+1) b (by omega))
    refine Ev.step (fun k=>?_) h2
    simp only [celluloidref04_Next.j2]
    rw [if_neg (by simp),if_pos (Int.natCast_nonneg _),if_pos hcl,hcd]
  refine Ev.step (fun k=>?_) key
  simp only [celluloidref04_Next.l1]
  rw [if_pos hil,if_pos (Int.natCast_nonneg _),hri]
  by_cases h1:(m:Int) < n
  ·rw [if_pos h1,decide_eq_true (.inl (by omega))]
  ·rw [if_neg h1]
   congr 1
   rw [Bool.eq_iff_iff,beq_iff_eq,decide_eq_true_eq]
   omega
/-- One pass over all symbols: none stands there;does a longer one begin so? -/
theorem refnext_miss (l : List Int) (hl : l.length ≤ 320) (hok : okL l = true) (s : ByteArray) (pos : Int) (v : Int) (n : Nat) (hn : n ≤ 15) (hm : ∀ i : Nat, i < l.length → ¬ Hits l n v i) (r0 r1 : Int × Int × Int)
  (E1:(∃ q:Nat,q < l.length∧Begins l n v q) → Ev (fun k=>celluloidref04_Next.l1 k l s pos (codesOf l) v n true l.length) r1) (E0:Ev (fun k=>celluloidref04_Next.l1 k l s pos (codesOf l) v n false l.length) r0) (d:Nat):∀ (i:Nat) (b:Bool),i+d=l.length → (b=true → ∃ q:Nat,q < l.length∧Begins l n v q) → ∀ r:Int × Int × Int,
  (b=true ∨ (∃ q:Nat,i≤q∧q < l.length∧Begins l n v q) → r=r1) → (¬ (b=true ∨ ∃ q:Nat,i≤q∧q < l.length∧Begins l n v q) → r=r0) →
  Ev (fun k=>celluloidref04_Next.l1 k l s pos (codesOf l) v n b i) r:=by
 induction d with
 |zero =>
  intro i b hi hbt r h1 h0
  obtain rfl:i=l.length:=by omega
  cases b with
  |true=>rw [h1 (.inl rfl)];exact E1 (hbt rfl)
  |false=>rw [h0 (by rintro (h | ⟨q,h,h',_⟩);exact absurd h (by decide);omega)];exact E0
 |succ d ih =>
  intro i b hi hbt r hr1 hr0
  have hil:(i:Int) < l.length:=by omega
  obtain ⟨m,em,hm15⟩:=ok_at l hok i (by omega)
  have hri:rd l i=m:=by rw [rd_nat];exact em
  have e1:Aside0 (wrap64 ((i:Int)+1)=((i+1:Nat):Int)):=⟨by rw [wrap_in (by omega) (by omega)];rfl⟩
  have hcl:(i:Int) < (codesOf l).length:=by rw [codesOf_length];omega
  -- where symbol i says nothing
  have skip:¬ Begins l n v i → Ev (fun k=>celluloidref04_Next.l1 k l s pos (codesOf l) v n b ((i+1:Nat):Int)) r:=fun hb=>by
   refine ih (i+1) b (by omega) hbt r (fun h=>hr1 ?_) (fun h=>hr0 ?_)
   ·rcases h with h | ⟨q,h,h',h''⟩
    ·exact .inl h
    ·exact .inr ⟨q,by omega,h',h''⟩
   ·rintro (h' | ⟨q,h',h'',h3⟩)
    ·exact h (.inl h')
    ·by_cases hq:q=i
     ·subst hq;exact hb h3
     ·exact h (.inr ⟨q,by omega,h'',h3⟩)
  have key:Ev (fun k=>celluloidref04_Next.j2 k l s pos (codesOf l) v n b i (decide (m < n ∨ m=0))) r:=by
   by_cases hc:m < n ∨ m=0
   ·rw [decide_eq_true hc]
    refine Ev.step (fun k=>?_) (skip (by unfold Begins;rw [em];omega))
    simp only [celluloidref04_Next.j2]
    rw [if_pos trivial,e1.out]
   ·rw [decide_eq_false hc]
    have hcr:=codesOf_rng l hl hok i (by omega)
    have hcd:rd (codesOf l) i=codeAt l i:=by
     rw [rd_nat,List.getD_eq_getElem?_getD,codesOf_get l i (by omega),if_neg (by rw [em];omega)];rfl
    have h2:=refnext_l2 l hl s pos (codesOf l) v n b i (by omega) m em hm15 r (m - n) n (codeAt l i) (by omega) hcr.1 hcr.2 (by
     by_cases hcv:codeAt l i / 2 ^ (m - n)=v
     ·rw [if_pos hcv]
      by_cases hmn:m=n
      ·exfalso;subst hmn;rw [Nat.sub_self,Int.pow_zero,Int.ediv_one] at hcv;exact hm i (by omega) ⟨by omega,em,hcv⟩
      ·rw [if_neg hmn]
       have hbg:Begins l n v i:=⟨by rw [em];omega,by rw [em,Int.toNat_natCast];exact hcv⟩
       exact ih (i+1) true (by omega) (fun _=>⟨i,by omega,hbg⟩) r (fun _=>hr1 (.inr ⟨i,Nat.le_refl _,by omega,hbg⟩)) (fun h=>absurd (.inl rfl) h)
     ·rw [if_neg hcv]
      refine skip ?_
      rintro ⟨h1,h2⟩
      rw [em,Int.toNat_natCast] at h2
      exact hcv h2)
    refine Ev.step (fun k=>?_) h2
    simp only [celluloidref04_Next.j2]
    rw [if_neg (by simp),if_pos (Int.natCast_nonneg _),if_pos hcl,hcd]
  refine Ev.step (fun k=>?_) key
  simp only [celluloidref04_Next.l1]
  rw [if_pos hil,if_pos (Int.natCast_nonneg _),hri]
  by_cases h1:(m:Int) < n
  ·rw [if_pos h1,decide_eq_true (.inl (by omega))]
  ·rw [if_neg h1]
   congr 1
   rw [Bool.eq_iff_iff,beq_iff_eq,decide_eq_true_eq]
   omega
/-- What is answered once n bits are read. -/
def stageOf (l:List Int) (s:ByteArray) (pos:Int) (n:Nat):Option (Int × Int × Int) :=
 if Vn s pos n < Gn l n then some ((idxN l n l.length).getD (Vn s pos n - firstC l n).toNat 0,pos+n,0)
 else if Sn l n=(syms l).length then some (0,0,4)
 else nxt (cnts l) (syms l) s (15 - n) (pos+n) (Vn s pos n) (Gn l n) (Sn l n)
theorem stage_step (l : List Int) (hl : l.length ≤ 320) (s : ByteArray) (hs : s.size ≤ 140737488351232) (pos : Int) (h0 : 0 ≤ pos) (hp : pos ≤ 4611686018427387904) (n : Nat) (hn : n ≤ 14) (hV : Gn l n ≤ Vn s pos n) (hS : Sn l n ≠ (syms l).length) :
  stageOf l s pos n=if pos+n < 8*s.size then stageOf l s pos (n+1) else some (0,0,2):=by
 unfold stageOf
 rw [if_neg (Int.not_lt.2 hV),if_neg hS,show 15 - n=(15 - (n+1))+1 by omega,nxt_step l hl s hs pos h0 hp n (15 - (n+1)) (by omega) hV]
theorem refnext_stage (l : List Int) (hl : l.length ≤ 320) (hok : okL l = true) (hb : badSum l = false) (s : ByteArray) (hs : s.size ≤ 140737488351232) (pos : Int) (h0 : 0 ≤ pos) (hp : pos ≤ 4611686018427387904) (d : Nat) : ∀ n : Nat, n + d = 15 → firstC l n ≤ Vn s pos n →
  ∃ r,stageOf l s pos n=some r∧Ev (fun k=>celluloidref04_Next.l0 k l s pos (codesOf l) (Vn s pos n) n) r:=by
 induction d with
 |zero =>
  intro n hn hV
  obtain rfl:n=15:=by omega
  have hVr:=Vn_rng s pos 15
  have hlast:Sn l 15=(syms l).length:=rfl
  by_cases hlt:Vn s pos 15 < Gn l 15
  ·obtain ⟨i,e,hi,hli,hc⟩:=symbol_is l 15 (by decide) (by decide) _ hV hlt
   have hw:wrap64 (pos+(15:Nat))=pos+(15:Nat):=wrap_in (by omega) (by omega)
   refine ⟨((i:Int),pos+(15:Nat),0),?_,?_⟩
   ·unfold stageOf;rw [if_pos hlt,e]
   ·have:=refnext_hit l hl hok s pos (Vn s pos 15) 15 (by decide) i hi ⟨by decide,hli,hc⟩ i 0 false (by omega)
    rw [hw] at this
    refine Ev.step (fun k=>?_) this
    simp only [celluloidref04_Next.l0]
    rw [if_pos (by decide)]
    rfl
  ·refine ⟨(0,0,4),?_,?_⟩
   ·unfold stageOf;rw [if_neg hlt,if_pos hlast]
   ·have hno : ∀ i : Nat, i < l.length → ¬ Hits l 15 (Vn s pos 15) i := fun i hi hh => by
     have:=(symbol_at l i 15 (by decide) (by decide) hi hh.2.1).2.1
     rw [hh.2.2] at this
     exact hlt this
    have hnb:¬ ∃ i:Nat,i < l.length∧Begins l 15 (Vn s pos 15) i:=by
     rintro ⟨i,hi,hbg⟩
     exact begins_more l hok 15 _ i hi hbg rfl
    have E0:Ev (fun k=>celluloidref04_Next.l1 k l s pos (codesOf l) (Vn s pos 15) (15:Nat) false l.length) (0,0,4):=by
     refine Ev.step (f:=fun _=>some (0,0,4)) (fun k=>?_) (Ev.now _)
     simp only [celluloidref04_Next.l1]
     rw [if_neg (Int.lt_irrefl _),if_neg (by simp)]
    have:=refnext_miss l hl hok s pos (Vn s pos 15) 15 (by decide) hno (0,0,4) (0,0,4) (fun h=>absurd h hnb) E0 l.length 0 false (by omega) (fun h=>absurd h (by decide)) (0,0,4) (fun _=>rfl) (fun _=>rfl)
    refine Ev.step (fun k=>?_) this
    simp only [celluloidref04_Next.l0]
    rw [if_pos (by decide)]
    rfl
 |succ d ih =>
  intro n hn hV
  have hVr:=Vn_rng s pos n
  have hVr1:=Vn_rng s pos (n+1)
  by_cases hlt:Vn s pos n < Gn l n
  ·have hn0 : 0 < n := by
    rcases Nat.eq_zero_or_pos n with rfl | h
    ·rw [Gn_zero] at hlt;omega
    ·exact h
   obtain ⟨i,e,hi,hli,hc⟩:=symbol_is l n hn0 (by omega) _ hV hlt
   have hw:wrap64 (pos+n)=pos+n:=wrap_in (by omega) (by omega)
   refine ⟨((i:Int),pos+n,0),?_,?_⟩
   ·unfold stageOf;rw [if_pos hlt,e]
   ·have:=refnext_hit l hl hok s pos (Vn s pos n) n (by omega) i hi ⟨hn0,hli,hc⟩ i 0 false (by omega)
    rw [hw] at this
    refine Ev.step (fun k=>?_) this
    simp only [celluloidref04_Next.l0]
    rw [if_pos (by omega)]
    rfl
  ·have hge:Gn l n≤Vn s pos n:=Int.not_lt.1 hlt
   have hno:∀ i:Nat,i < l.length → ¬ Hits l n (Vn s pos n) i:=fun i hi hh=>by
    have:=(symbol_at l i n hh.1 (by omega) hi hh.2.1).2.1
    rw [hh.2.2] at this
    exact hlt this
   have hiff:=begins_iff l hok hb n (by omega) (Vn s pos n) hge hVr.1 hVr.2
   have E0:Ev (fun k=>celluloidref04_Next.l1 k l s pos (codesOf l) (Vn s pos n) n false l.length) (0,0,4):=by
    refine Ev.step (f:=fun _=>some (0,0,4)) (fun k=>?_) (Ev.now _)
    simp only [celluloidref04_Next.l1]
    rw [if_neg (Int.lt_irrefl _),if_neg (by simp)]
   have hstart:∀ r,Ev (fun k=>celluloidref04_Next.l1 k l s pos (codesOf l) (Vn s pos n) n false ((0:Nat):Int)) r → Ev (fun k=>celluloidref04_Next.l0 k l s pos (codesOf l) (Vn s pos n) n) r:=fun r h=>by
    refine Ev.step (fun k=>?_) h
    simp only [celluloidref04_Next.l0]
    rw [if_pos (by omega)]
    rfl
   by_cases hS:Sn l n=(syms l).length
   ·refine ⟨(0,0,4),by unfold stageOf;rw [if_neg hlt,if_pos hS],hstart _ ?_⟩
    have hnb:¬ ∃ i:Nat,i < l.length∧Begins l n (Vn s pos n) i:=fun h=>hiff.1 h hS
    exact refnext_miss l hl hok s pos (Vn s pos n) n (by omega) hno (0,0,4) (0,0,4) (fun h=>absurd h hnb) E0 l.length 0 false (by omega) (fun h=>absurd h (by decide)) (0,0,4) (fun _=>rfl) (fun _=>rfl)
   ·have hbg:=hiff.2 hS
    have hst:=stage_step l hl s hs pos h0 hp n (by omega) hge hS
    have hw:Aside0 (wrap64 (pos+n)=pos+n):=⟨wrap_in (by omega) (by omega)⟩
    have hn1:Aside0 (wrap64 ((n:Int)+1)=((n+1:Nat):Int)):=⟨by rw [wrap_in (by omega) (by omega)];rfl⟩
    have hbe:∃ q:Nat,0≤q∧q < l.length∧Begins l n (Vn s pos n) q:=by obtain ⟨i,hi,h⟩:=hbg;exact ⟨i,Nat.zero_le _,hi,h⟩
    obtain ⟨KB,hbit⟩:=refbit_is s hs (pos+n) (by omega) (by omega)
    dsimp only at hbit
    by_cases hbt:pos+n < 8*s.size
    ·rw [if_pos hbt] at hst
     have hfg:firstC l (n+1)≤Vn s pos (n+1):=by
      have hbr:=bitN_rng s (pos+n)
      have e1:Vn s pos (n+1)=2*Vn s pos n+bitN s (pos+n):=rfl
      rw [firstC_succ,e1]
      omega
     obtain ⟨r,hr,hE⟩:=ih (n+1) (by omega) hfg
     refine ⟨r,by rw [hst];exact hr,hstart _ ?_⟩
     obtain ⟨KN,hE⟩:=hE
     dsimp only at hE
     have hbr:=bitN_rng s (pos+n)
     have hp2:(2:Int) ^ n≤32768:=by
      have h1:2 ^ n≤2 ^ 15:=Nat.pow_le_pow_right (by decide) (by omega)
      have e:((2 ^ n:Nat):Int)=(2:Int) ^ n:=by rw [Int.natCast_pow];rfl
      rw [← e];omega
     have e2:Aside0 (wrap64 (2*Vn s pos n)=2*Vn s pos n):=⟨wrap_in (by omega) (by omega)⟩
     have e3:Aside0 (wrap64 (2*Vn s pos n+bitN s (pos+n))=Vn s pos (n+1)):=⟨by rw [wrap_in (by omega) (by omega)];rfl⟩
     have hb0:¬ bitN s (pos+n) < 0:=by omega
     have E1:Ev (fun k=>celluloidref04_Next.l1 k l s pos (codesOf l) (Vn s pos n) n true l.length) r:=by
      refine ⟨KB+KN+1,fun k hk=>?_⟩
      obtain ⟨k,rfl⟩:∃ q,k=q+1:=⟨k - 1,by omega⟩
      simp only [celluloidref04_Next.l1]
      rw [if_neg (Int.lt_irrefl _),if_pos trivial,hw.out,hbit k (by omega),if_pos (show 0≤pos+(n:Int)∧pos+(n:Int) < 8*s.size from ⟨by omega,hbt⟩)]
      simp only [Option.bind_some]
      rw [if_neg hb0,e2.out,e3.out,hn1.out]
      exact hE k (by omega)
     exact refnext_miss l hl hok s pos (Vn s pos n) n (by omega) hno (0,0,4) r (fun _=>E1) E0 l.length 0 false (by omega) (fun h=>absurd h (by decide)) r (fun _=>rfl) (fun h=>absurd (.inr hbe) h)
    ·rw [if_neg hbt] at hst
     refine ⟨(0,0,2),hst,hstart _ ?_⟩
     have E1:Ev (fun k=>celluloidref04_Next.l1 k l s pos (codesOf l) (Vn s pos n) n true l.length) (0,0,2):=by
      refine ⟨KB+1,fun k hk=>?_⟩
      obtain ⟨k,rfl⟩:∃ q,k=q+1:=⟨k - 1,by omega⟩
      simp only [celluloidref04_Next.l1]
      rw [if_neg (Int.lt_irrefl _),if_pos trivial,hw.out,hbit k (by omega),if_neg (show ¬ (0≤pos+(n:Int)∧pos+(n:Int) < 8*s.size) from fun h=>hbt h.2)]
      simp only [Option.bind_some]
      rw [if_pos (by decide)]
     exact refnext_miss l hl hok s pos (Vn s pos n) n (by omega) hno (0,0,4) (0,0,2) (fun _=>E1) E0 l.length 0 false (by omega) (fun h=>absurd h (by decide)) (0,0,2) (fun _=>rfl) (fun h=>absurd (.inr hbe) h)
theorem nextOf_good (l:List Int) (he:errOf l=0) (s:ByteArray) (pos:Int) (h0:0≤pos):nextOf (newCs l) (newSs l) s pos=if (syms l).length=0 then some (0,0,4) else nxt (cnts l) (syms l) s 15 pos 0 0 0:=by
 obtain ⟨hl,_,_⟩:=errOf_ok l he
 unfold nextOf newCs newSs
 rw [if_pos he,if_pos he,if_neg (by omega)]
 by_cases ht:(syms l).length=0
 ·rw [if_pos ht,if_pos ht]
 ·rw [if_neg ht,if_neg ht,if_pos]
  refine ⟨cnts_length l,?_,fun x hx=>?_⟩
  ·have:=symsN_length l 15
   have h2:15*l.length≤15*320:=Nat.mul_le_mul_left _ hl
   unfold syms
   omega
  ·obtain ⟨i,hi,rfl⟩:=List.getElem_of_mem hx
   have:=cnts_rng l i
   rw [List.getD_eq_getElem?_getD,List.getElem?_eq_getElem hi,Option.getD_some] at this
   omega
theorem next_is (l : List Int) (he : errOf l = 0) (s : ByteArray) (hs : s.size ≤ 140737488351232) (pos : Int) (hp : pos ≤ 9223372036854775807) :
  ∃ r,nextOf (newCs l) (newSs l) s pos=some r∧Ev (fun k=>celluloidref04_Next.f k l s pos) r:=by
 obtain ⟨hl,hok,hb⟩:=errOf_ok l he
 by_cases hneg:pos < 0
 ·refine ⟨(0,0,1),by unfold nextOf;rw [if_pos hneg],?_⟩
  exact Ev.congr (f:=fun _=>some (0,0,1)) (fun k=>by unfold celluloidref04_Next.f;rw [if_pos hneg]) (Ev.now _)
 have h0:0≤pos:=by omega
 have hcodes:=refcodes_is l hl hok
 have hto:∀ r,Ev (fun k=>celluloidref04_Next.l0 k l s pos (codesOf l) 0 0) r → Ev (fun k=>celluloidref04_Next.f k l s pos) r:=fun r h =>
  Ev.congr (fun k=>by unfold celluloidref04_Next.f;rw [if_neg hneg]) (Ev.bind hcodes h)
 rw [nextOf_good l he s pos h0]
 by_cases hin:pos < 8*s.size
 ·obtain ⟨r,hr,hE⟩:=refnext_stage l hl hok hb s hs pos h0 (by omega) 15 0 rfl (by show firstC l 0≤0;exact Int.le_refl 0)
  refine ⟨r,?_,hto r hE⟩
  rw [← hr]
  have e0:Sn l 0=0:=rfl
  have eV:¬ Vn s pos 0 < Gn l 0:=by rw [Gn_zero];exact Int.lt_irrefl 0
  have e1:pos+((0:Nat):Int)=pos:=by omega
  unfold stageOf
  rw [if_neg eV,e0,e1,Gn_zero]
  by_cases ht:(syms l).length=0
  ·rw [if_pos ht,if_pos (by omega)]
  ·rw [if_neg ht,if_neg (by omega)]
   rfl
 ·have hno:∀ i:Nat,i < l.length → ¬ Hits l 0 0 i:=fun i hi hh=>absurd hh.1 (Nat.lt_irrefl 0)
  have hiff:=begins_iff l hok hb 0 (by decide) 0 (by rw [Gn_zero];exact Int.le_refl 0) (Int.le_refl 0) (by decide)
  have E0:Ev (fun k=>celluloidref04_Next.l1 k l s pos (codesOf l) 0 ((0:Nat):Int) false l.length) (0,0,4):=by
   refine Ev.step (f:=fun _=>some (0,0,4)) (fun k=>?_) (Ev.now _)
   simp only [celluloidref04_Next.l1]
   rw [if_neg (Int.lt_irrefl _),if_neg (by simp)]
  have hstart:∀ r,Ev (fun k=>celluloidref04_Next.l1 k l s pos (codesOf l) 0 ((0:Nat):Int) false ((0:Nat):Int)) r → Ev (fun k=>celluloidref04_Next.l0 k l s pos (codesOf l) 0 0) r:=fun r h=>by
   refine Ev.step (fun k=>?_) h
   simp only [celluloidref04_Next.l0]
   rw [if_pos (by decide)]
   rfl
  have e0:Sn l 0=0:=rfl
  by_cases ht:(syms l).length=0
  ·rw [if_pos ht]
   refine ⟨(0,0,4),rfl,hto _ (hstart _ ?_)⟩
   have hnb:¬ ∃ i:Nat,i < l.length∧Begins l 0 0 i:=fun h=>hiff.1 h (by rw [e0,← syms_Sn];omega)
   exact refnext_miss l hl hok s pos 0 0 (by decide) hno (0,0,4) (0,0,4) (fun h=>absurd h hnb) E0 l.length 0 false (by omega) (fun h=>absurd h (by decide)) (0,0,4) (fun _=>rfl) (fun _=>rfl)
  ·rw [if_neg ht]
   have hbg:=hiff.2 (by rw [e0,← syms_Sn];omega)
   have hbe:∃ q:Nat,0≤q∧q < l.length∧Begins l 0 0 q:=by obtain ⟨i,hi,h⟩:=hbg;exact ⟨i,Nat.zero_le _,hi,h⟩
   obtain ⟨KB,hbit⟩:=refbit_is s hs pos hp (by omega)
   dsimp only at hbit
   have hw:Aside0 (wrap64 (pos+((0:Nat):Int))=pos):=⟨by rw [wrap_in (by omega) (by omega)];omega⟩
   refine ⟨(0,0,2),?_,hto _ (hstart _ ?_)⟩
   ·simp only [nxt]
    rw [bit_is s hs pos h0 hp,if_neg hin]
    rfl
   ·have E1 : Ev (fun k => celluloidref04_Next.l1 k l s pos (codesOf l) 0 ((0 : Nat) : Int) true l.length) (0, 0, 2) := by
     refine ⟨KB+1,fun k hk=>?_⟩
     obtain ⟨k,rfl⟩:∃ q,k=q+1:=⟨k - 1,by omega⟩
     simp only [celluloidref04_Next.l1]
     rw [if_neg (Int.lt_irrefl _),if_pos trivial,hw.out,hbit k (by omega),if_neg (show ¬ (0≤pos∧pos < 8*s.size) from fun h=>hin h.2)]
     simp only [Option.bind_some]
     rw [if_pos (by decide)]
    exact refnext_miss l hl hok s pos 0 0 (by decide) hno (0,0,4) (0,0,2) (fun _=>E1) E0 l.length 0 false (by omega) (fun h=>absurd h (by decide)) (0,0,2) (fun _=>rfl) (fun h=>absurd (.inr hbe) h)
end Go.Proofs.Ytpbhkdamkbopkaa.RefA
namespace Go.Proofs.Ytpbhkdamkbopkaa.Inf
set_option linter.unusedSimpArgs false
set_option linter.unusedVariables false
open Go.RowKit Go.Proofs.Ytpbhkdamkbopkaa.Ext Go.Proofs.Ytpbhkdamkbopkaa.GInfr Go.Proofs.Ytpbhkdamkbopkaa.HuM Go.Proofs.YtpbhkdamkbopkaaW.PrintWords Go.Proofs.YtpbhkdamkbopkaaW.PrintLast Go.Proofs.YtpbhkdamkbopkaaW.PrintMore
theorem bn_eq (s:ByteArray) (pos:Int):∀ n:Nat,RefA.Bn s pos n=RefP.Bn s pos n
 |0=>rfl
 |n+1=>by show RefA.Bn s pos n+_=RefP.Bn s pos n+_;rw [bn_eq s pos n]
theorem bitsOf_eq (s:ByteArray) (pos n:Int):RefA.bitsOf s pos n=RefP.bitsOf s pos n:=by unfold RefA.bitsOf RefP.bitsOf;rw [bn_eq]
/-- The reference's state tells the same as a reader. -/
structure Rel (x:St) (o:List Int) (p e:Int):Prop where
 e:e=x.e
 o:x.e=0 → o=x.o
 p:x.e=0 → p=x.p
theorem tak_is {s : ByteArray} {x : St} {o : List Int} {p e lo hi : Int} {r : Int × Int × Int} {g : Nat → Option (Int × Int × Int)} (h : Rel x o p e) (hr : x.e = 0 → Good s x.p lo hi r ∧ Ev g r) :
  ∃ q,Ev (fun k=>if e=0 then ((g k).bind fun b=>some (b.1,o,b.2.1,b.2.2)) else some (0,o,p,e)) ((tak x r).1,o,q,(tak x r).2.e)∧Rel (tak x r).2 o q (tak x r).2.e:=by
 by_cases c:x.e=0
 ·obtain ⟨hg,hE⟩:=hr c
  refine ⟨r.2.1,?_,?_⟩
  ·refine Ev.congr (fun k=>by rw [if_pos (h.e.trans c)]) ?_
   refine Ev.congr (fun k=>rfl) (Ev.bind (f:=fun _ b=>some (b.1,o,b.2.1,b.2.2)) hE ?_)
   unfold tak
   rw [if_pos c]
   rcases hg with hg | rfl | rfl
   ·rw [if_pos hg.1];exact Ev.congr (fun k=>by rw [hg.1,c]) (Ev.now _)
   ·rw [if_neg (by decide)];exact Ev.now _
   ·rw [if_neg (by decide)];exact Ev.now _
  ·unfold tak
   rw [if_pos c]
   rcases hg with hg | rfl | rfl
   ·rw [if_pos hg.1];exact ⟨rfl,fun _=>h.o c,fun _=>rfl⟩
   ·rw [if_neg (by decide)];exact ⟨rfl,fun h0=>by simp at h0,fun h0=>by simp at h0⟩
   ·rw [if_neg (by decide)];exact ⟨rfl,fun h0=>by simp at h0,fun h0=>by simp at h0⟩
 ·refine ⟨p,?_,?_⟩
  ·unfold tak;rw [if_neg c]
   exact Ev.congr (fun k=>by rw [if_neg (fun h0=>c (h.e.symm.trans h0)),h.e]) (Ev.now _)
  ·unfold tak;rw [if_neg c]
   exact ⟨rfl,h.o,h.p⟩
theorem number_is {s : ByteArray} {x : St} {o : List Int} {p e : Int} (n : Nat) (hs : s.size ≤ 1000000) (hx : Ok s x) (h : Rel x o p e) (hn : n ≤ 16) :
  ∃ q,Ev (fun k=>celluloidref05_number.f k s o p e (n:Int)) ((bits s n x).1,o,q,(bits s n x).2.e)∧Rel (bits s n x).2 o q (bits s n x).2.e:=by
 have g:=bits_some s x.p n hx.p0 hn
 obtain ⟨q,h1,h2⟩:=tak_is (g:=fun k=>celluloidref04_Bits.f k s p (n:Int)) h (fun c=>⟨g,by rw [h.p c];have:=RefA.refbits_is s (by omega) x.p n (by have:=hx.p1;omega);rw [bitsOf_eq] at this;exact this⟩)
 exact ⟨q,Ev.congr (fun k=>rfl) h1,h2⟩
theorem symbol_is {s : ByteArray} {x : St} {o : List Int} {p e : Int} (l : List Int) (hs : s.size ≤ 1000000) (hx : Ok s x) (h : Rel x o p e) (he : x.e = 0 → errOf l = 0) :
  ∃ q,Ev (fun k=>celluloidref05_symbol.f k s o p e l) ((next l s x).1,o,q,(next l s x).2.e)∧Rel (next l s x).2 o q (next l s x).2.e:=by
 obtain ⟨q,h1,h2⟩:=tak_is (r:=nextL l s x.p) (lo:=1) (hi:=l.length) (g:=fun k=>celluloidref04_Next.f k l s p) h (fun c=>by
  obtain ⟨r,hr,hE⟩:=RefA.next_is l (he c) s (by omega) x.p (by have:=hx.p1;omega)
  have hn:=(next_some l (he c) s (by omega) x.p hx.p0 (by have:=hx.p1;omega)).2
  refine ⟨hn,?_⟩
  have e1:nextL l s x.p=r:=by unfold nextL;rw [hr];rfl
  rw [e1,h.p c];exact hE)
 exact ⟨q,Ev.congr (fun k=>rfl) h1,h2⟩
end Go.Proofs.Ytpbhkdamkbopkaa.Inf
namespace Go.Proofs.Ytpbhkdamkbopkaa.Inf
set_option linter.unusedSimpArgs false
set_option linter.unusedVariables false
open Go.RowKit Go.Proofs.Ytpbhkdamkbopkaa.Ext Go.Proofs.Ytpbhkdamkbopkaa.GInfr Go.Proofs.Ytpbhkdamkbopkaa.HuM Go.Proofs.YtpbhkdamkbopkaaW.PrintWords Go.Proofs.YtpbhkdamkbopkaaW.PrintLast Go.Proofs.YtpbhkdamkbopkaaW.PrintMore
theorem align_is {s:ByteArray} {mx e:Int} {o:List Int} {R:List Int × Int × Int} (d:Nat):∀ p:Int,0≤p → p≤1000000000 → (p+d) % 8=0 → d < 8 → Ev (fun k=>celluloidref05_stored.l0 k s mx o (p+d) e) R → Ev (fun k=>celluloidref05_stored.l0 k s mx o p e) R:=by
 induction d with
 |zero=>intro p h0 h1 h2 h3 h;simpa using h
 |succ d ih =>
  intro p h0 h1 h2 h3 h
  refine Ev.step (fun k=>?_) (ih (p+1) (by omega) (by omega) (by omega) (by omega) (by rw [show p+1+(d:Int)=p+((d+1:Nat):Int) by omega];exact h))
  simp only [celluloidref05_stored.l0]
  rw [Int.tmod_eq_emod_of_nonneg h0,if_neg (by omega),wrap_in (n:=p+1) (by omega) (by omega)]
/-- Two numbers of 16 bits that are 65535 together: no bit of one is the other's. -/
theorem bn_sum (s:ByteArray) (p q:Int):∀ m:Nat,RefP.Bn s p m+RefP.Bn s q m=2 ^ m - 1 → ∀ i:Nat,i < m → bitN s (p+i)+bitN s (q+i)=1
 |0,_,i,hi=>absurd hi (by omega)
 |m+1,h,i,hi=>by
  have a:=RefP.Bn_rng s p m;have b:=RefP.Bn_rng s q m
  have ha:=bitN_rng s (p+m);have hb:=bitN_rng s (q+m)
  have h':RefP.Bn s p m+2 ^ m*bitN s (p+m)+(RefP.Bn s q m+2 ^ m*bitN s (q+m))=2 ^ (m+1) - 1:=h
  have e:(2:Int) ^ (m+1)=2*2 ^ m:=by rw [Int.pow_succ,Int.mul_comm]
  have hp:(0:Int) < 2 ^ m:=Int.pow_pos (by decide)
  rw [e] at h'
  obtain ⟨M,hM⟩:∃ M:Int,M=2 ^ m:=⟨_,rfl⟩
  rw [← hM] at h' hp
  have hs:bitN s (p+m)+bitN s (q+m)=1:=by
   rcases (by omega:bitN s (p+m)=0 ∨ bitN s (p+m)=1) with x | x <;> rcases (by omega:bitN s (q+m)=0 ∨ bitN s (q+m)=1) with y | y <;> rw [x,y] at h' ⊢ <;> omega
  have hm:RefP.Bn s p m+RefP.Bn s q m=M - 1:=by
   rcases (by omega:bitN s (p+m)=0 ∨ bitN s (p+m)=1) with x | x <;> rcases (by omega:bitN s (q+m)=0 ∨ bitN s (q+m)=1) with y | y <;> rw [x,y] at h' hs <;> omega
  by_cases c:i=m
  ·rw [c];exact hs
  ·exact bn_sum s p q m (by rw [← hM];exact hm) i (by omega)
theorem xor_n16 (a:Nat) (h:a≤65535):a ^^^ (65535 - a)=65535:=by
 have e1:(BitVec.ofNat 16 a).toNat=a:=by rw [BitVec.toNat_ofNat];omega
 have e2:(~~~ (BitVec.ofNat 16 a)).toNat=65535 - a:=by rw [BitVec.toNat_not,e1]
 have e3:((BitVec.ofNat 16 a) ^^^ ~~~ (BitVec.ofNat 16 a)).toNat=65535:=by
  have:(BitVec.ofNat 16 a) ^^^ ~~~ (BitVec.ofNat 16 a)=BitVec.allOnes 16:=by
   ext i hi
   rw [BitVec.getElem_xor,BitVec.getElem_not,BitVec.getElem_allOnes]
   cases (BitVec.ofNat 16 a)[i] <;> rfl
  rw [this];rfl
 rw [BitVec.toNat_xor,e1,e2] at e3
 exact e3
theorem xor_sum (a b:Int) (ha0:0≤a) (ha:a < 65536) (hb0:0≤b) (hb:b < 65536):Go.bits .xor .i64 a b=65535 ↔ a+b=65535:=by
 obtain ⟨n,rfl⟩:=Int.eq_ofNat_of_zero_le ha0
 obtain ⟨m,rfl⟩:=Int.eq_ofNat_of_zero_le hb0
 have hx:Go.bits .xor .i64 (n:Int) (m:Int)=((n ^^^ m:Nat):Int):=by
  have hl:n ^^^ m < 65536:=Nat.xor_lt_two_pow (n:=16) (show n < 65536 by omega) (show m < 65536 by omega)
  generalize hq:n ^^^ m=q at hl
  show IntKind.i64.wrap ((BitVec.ofInt 64 (n:Int) ^^^ BitVec.ofInt 64 (m:Int)).toNat:Int)=_
  rw [BitVec.toNat_xor,ofInt_u64 n (by omega),ofInt_u64 m (by omega),hq,IntKind.wrap_i64]
  omega
 rw [hx]
 have h1:=xor_n16 n (by omega)
 constructor
 ·intro h
  have h2:n ^^^ m=n ^^^ (65535 - n):=by rw [h1];omega
  have h3:m=65535 - n:=by
   have e:n ^^^ (n ^^^ m)=n ^^^ (n ^^^ (65535 - n)):=by rw [h2]
   rw [← Nat.xor_assoc,← Nat.xor_assoc,Nat.xor_self,Nat.zero_xor,Nat.zero_xor] at e
   exact e
  omega
 ·intro h
  have:m=65535 - n:=by omega
  rw [this,h1];rfl
theorem cut_succ (s:ByteArray) (a i:Nat):cut s a (i+1)=cut s a i ++ [bt s ((a+i:Nat):Int)]:=by
 unfold cut;rw [List.range_succ,List.map_append];rfl
theorem copy_is {s : ByteArray} {o : List Int} {p e : Int} (a n : Nat) (hs : s.size ≤ 1000000) (h : a + n ≤ s.size) (ho : o.length ≤ 1000000) (d : Nat) : ∀ i : Nat, i + d = n →
  Ev (fun k=>celluloidref05_stored.l2 k s (n:Int) (a:Int) (i:Int) (o ++ cut s a i) p e) (o ++ cut s a n,8*((a:Int)+n),e):=by
 induction d with
 |zero =>
  intro i hi
  obtain rfl:i=n:=by omega
  refine Ev.step (f:=fun _=>some (o ++ cut s a i,8*((a:Int)+i),e)) (fun k=>?_) (Ev.now _)
  simp only [celluloidref05_stored.l2]
  rw [if_neg (by omega),wrap_in (n:=(a:Int)+i) (by omega) (by omega),wrap_in (by omega) (by omega)]
 |succ d ih =>
  intro i hi
  refine Ev.step (fun k=>?_) (ih (i+1) (by omega))
  have hc:(cut s a i).length=i:=by unfold cut;simp
  have hl:(o ++ cut s a i).length < 140737488355328:=by rw [List.length_append];omega
  simp only [celluloidref05_stored.l2]
  rw [if_pos (by omega),wrap_in (n:=(a:Int)+i) (by omega) (by omega),if_pos (by omega),if_pos (by omega),if_pos hl,wrap_in (n:=(i:Int)+1) (by omega) (by omega),cut_succ,← List.append_assoc]
  rfl
theorem differ_is {s : ByteArray} {mx n e p : Int} {o : List Int} {R : List Int × Int × Int} (hs : s.size ≤ 1000000) (h0 : 0 ≤ p) (hp : p + 32 ≤ 8 * s.size) (hb : ∀ i : Nat, i < 16 → bitN s (p + i) + bitN s (p + 16 + i) = 1)
  (h:Ev (fun k=>celluloidref05_stored.l1 k s mx n 16 o (p+32) e) R) (d:Nat):∀ i:Nat,i+d=16 → Ev (fun k=>celluloidref05_stored.l1 k s mx n (i:Int) o (p+32) e) R:=by
 induction d with
 |zero =>
  intro i hi
  obtain rfl:i=16:=by omega
  exact h
 |succ d ih =>
  intro i hi
  refine Ev.step (f:=fun k=>(celluloidref04_Bit.f k s (p+i)).bind fun t=>(celluloidref04_Bit.f k s (p+16+i)).bind fun u=>if t=u then some (o,p+32,3) else celluloidref05_stored.l1 k s mx n ((i+1:Nat):Int) o (p+32) e) (fun k=>?_) ?_
  ·simp only [celluloidref05_stored.l1]
   rw [if_pos (by omega),wrap_in (n:=p+32 - 32) (by omega) (by omega),wrap_in (n:=p+32 - 16) (by omega) (by omega),wrap_in (n:=p+32 - 32+i) (by omega) (by omega),wrap_in (n:=p+32 - 16+i) (by omega) (by omega),wrap_in (n:=(i:Int)+1) (by omega) (by omega),
    show p+32 - 32+(i:Int)=p+i by omega,show p+32 - 16+(i:Int)=p+16+i by omega]
   rfl
  ·have e1:=RefA.refbit_is s (by omega) (p+i) (by omega) (by omega)
   have e2:=RefA.refbit_is s (by omega) (p+16+i) (by omega) (by omega)
   rw [if_pos ⟨by omega,by omega⟩] at e1 e2
   refine Ev.bind e1 (Ev.bind e2 ?_)
   have:=hb i (by omega)
   exact Ev.congr (fun k=>by rw [if_neg (by have:=bitN_rng s (p+i);omega)]) (ih (i+1) (by omega))
theorem bits_hit {s:ByteArray} {x:St} (n:Nat) (hx:Ok s x) (hn:n≤16) (he:(bits s n x).2.e=0):x.e=0∧x.p+n≤8*s.size∧bits s n x=(RefP.Bn s x.p n,⟨x.p+n,x.o,0⟩):=by
 have h0:=hx.p0
 have e:RefP.bitsOf s x.p n=if x.p+n≤8*s.size then (RefP.Bn s x.p n,x.p+n,0) else (0,0,2):=by unfold RefP.bitsOf;rw [if_neg (by omega),Int.toNat_natCast]
 have b:bits s n x=tak x (RefP.bitsOf s x.p n):=rfl
 rw [b] at he ⊢
 rw [e] at he ⊢
 unfold tak at he ⊢
 by_cases c:x.e=0
 ·rw [if_pos c] at he ⊢
  by_cases c2:x.p+n≤8*s.size
  ·rw [if_pos c2] at he ⊢;exact ⟨c,c2,by rw [if_pos rfl,c]⟩
  ·rw [if_neg c2] at he;exact absurd he (by simp)
 ·rw [if_neg c] at he;exact absurd he c
theorem stored_is {s : ByteArray} {x : St} {o : List Int} {p e mx : Int} (hs : s.size ≤ 1000000) (hx : Ok s x) (h : Rel x o p e) (he : x.e = 0) (hm0 : 0 ≤ mx) (hm : mx ≤ 262144) (ho : x.o.length ≤ 262144) :
  ∃ o' q,Ev (fun k=>celluloidref05_stored.f k s o p e mx) (o',q,(stored s mx x).e)∧Rel (stored s mx x) o' q (stored s mx x).e:=by
 have hp0:=hx.p0;have hp1:=hx.p1
 obtain rfl:=h.o he;obtain rfl:=h.p he;obtain rfl:e=0:=h.e.trans he
 let P:Int:=(x.p+7) / 8*8
 have hP:P=(x.p+7) / 8*8:=rfl
 have hP1:x.p≤P∧P < x.p+8∧P % 8=0∧P≤8*s.size:=by omega
 have hx1:Ok s ⟨P,x.o,x.e⟩:=⟨by show 0≤P;omega,hP1.2.2.2,hx.e⟩
 have hr1:Rel ⟨P,x.o,x.e⟩ x.o P 0:=⟨he.symm,fun _=>rfl,fun _=>rfl⟩
 obtain ⟨q1,E1,R1⟩:=number_is 16 hs hx1 hr1 (by decide)
 have hx2:Ok s (bits s 16 ⟨P,x.o,x.e⟩).2:=tak_ok (Int.natCast_nonneg 16) hx1 (bits_some s P 16 hx1.p0 (by decide))
 obtain ⟨q2,E2,R2⟩:=number_is 16 hs hx2 R1 (by decide)
 replace E1:Ev (fun k=>celluloidref05_number.f k s x.o P 0 16) ((bits s 16 ⟨P,x.o,x.e⟩).1,x.o,q1,(bits s 16 ⟨P,x.o,x.e⟩).2.e):=E1
 replace R1:Rel (bits s 16 ⟨P,x.o,x.e⟩).2 x.o q1 (bits s 16 ⟨P,x.o,x.e⟩).2.e:=R1
 replace hx2:Ok s (bits s 16 ⟨P,x.o,x.e⟩).2:=hx2
 replace E2:Ev (fun k=>celluloidref05_number.f k s x.o q1 (bits s 16 ⟨P,x.o,x.e⟩).2.e 16) ((bits s 16 (bits s 16 ⟨P,x.o,x.e⟩).2).1,x.o,q2,(bits s 16 (bits s 16 ⟨P,x.o,x.e⟩).2).2.e):=E2
 replace R2:Rel (bits s 16 (bits s 16 ⟨P,x.o,x.e⟩).2).2 x.o q2 (bits s 16 (bits s 16 ⟨P,x.o,x.e⟩).2).2.e:=R2
 have hall:∀ R,Ev (fun k=>celluloidref05_stored.l0 k s mx x.o P 0) R → Ev (fun k=>celluloidref05_stored.f k s x.o x.p 0 mx) R:=fun R hR=>by
  refine Ev.congr (fun k=>rfl) (align_is (P - x.p).toNat x.p hp0 (by omega) (by omega) (by omega) ?_)
  rw [show x.p+((P - x.p).toNat:Int)=P by omega];exact hR
 have hfirst:∀ R,Ev (fun k=>(celluloidref05_number.f k s x.o P 0 16).bind fun a=>(celluloidref05_number.f k s a.2.1 a.2.2.1 a.2.2.2 16).bind fun b=>if b.2.2.2=0 then (if (wrap64 (a.1+b.1))=65535 then (celluloidref05_stored.l1 k s mx a.1 0 b.2.1 b.2.2.1 b.2.2.2) else (some (b.2.1,b.2.2.1,3))) else (some (b.2.1,b.2.2.1,b.2.2.2))) R → Ev (fun k=>celluloidref05_stored.f k s x.o x.p 0 mx) R:=fun R hR=>hall R (by
  refine Ev.step (fun k=>?_) hR
  simp only [celluloidref05_stored.l0]
  rw [Int.tmod_eq_emod_of_nonneg (by omega),if_pos hP1.2.2.1])
 have hS : stored s mx x = if (bits s 16 (bits s 16 ⟨P, x.o, x.e⟩).2).2.e = 0 then
   (if Go.bits .xor .i64 (bits s 16 ⟨P,x.o,x.e⟩).1 (bits s 16 (bits s 16 ⟨P,x.o,x.e⟩).2).1=65535 then
    (if ((bits s 16 (bits s 16 ⟨P,x.o,x.e⟩).2).2.o.length:Int)+(bits s 16 ⟨P,x.o,x.e⟩).1≤mx then
     (if (bits s 16 ⟨P,x.o,x.e⟩).1≤s.size - (bits s 16 (bits s 16 ⟨P,x.o,x.e⟩).2).2.p / 8 then ⟨(bits s 16 (bits s 16 ⟨P,x.o,x.e⟩).2).2.p+8*(bits s 16 ⟨P,x.o,x.e⟩).1,(bits s 16 (bits s 16 ⟨P,x.o,x.e⟩).2).2.o ++ cut s ((bits s 16 (bits s 16 ⟨P,x.o,x.e⟩).2).2.p / 8).toNat (bits s 16 ⟨P,x.o,x.e⟩).1.toNat,(bits s 16 (bits s 16 ⟨P,x.o,x.e⟩).2).2.e⟩ else fail (bits s 16 (bits s 16 ⟨P,x.o,x.e⟩).2).2 2)
    else fail (bits s 16 (bits s 16 ⟨P,x.o,x.e⟩).2).2 7)
   else fail (bits s 16 (bits s 16 ⟨P,x.o,x.e⟩).2).2 3)
  else (bits s 16 (bits s 16 ⟨P,x.o,x.e⟩).2).2:=rfl
 rw [hS]
 by_cases c:(bits s 16 (bits s 16 ⟨P,x.o,x.e⟩).2).2.e=0
 ·obtain ⟨z1,z2,z3⟩:=bits_hit 16 hx2 (by decide) c
  obtain ⟨y1,y2,y3⟩:=bits_hit 16 hx1 (by decide) z1
  replace z3:(bits s 16 (bits s 16 ⟨P,x.o,x.e⟩).2)=(RefP.Bn s (bits s 16 ⟨P,x.o,x.e⟩).2.p 16,⟨(bits s 16 ⟨P,x.o,x.e⟩).2.p+16,(bits s 16 ⟨P,x.o,x.e⟩).2.o,0⟩):=z3
  replace y3:(bits s 16 ⟨P,x.o,x.e⟩)=(RefP.Bn s P 16,⟨P+16,x.o,0⟩):=y3
  have hq:=R2.p c
  rw [z3] at E2 R2 hq ⊢
  rw [y3] at E1 E2 z2 hq R2 ⊢
  have y2':P+16≤8*(s.size:Int):=y2
  have z2':P+16+16≤8*(s.size:Int):=z2
  obtain rfl:q2=P+32:=hq.trans (by show P+16+16=_;omega)
  have ra:=RefP.Bn_rng s P 16;have rb:=RefP.Bn_rng s (P+16) 16
  have hw:(2:Int) ^ 16=65536:=by decide
  rw [hw] at ra rb
  have E1':Ev (fun k=>celluloidref05_number.f k s x.o P 0 16) (RefP.Bn s P 16,x.o,q1,0):=E1
  have E2':Ev (fun k=>celluloidref05_number.f k s x.o q1 0 16) (RefP.Bn s (P+16) 16,x.o,P+32,0):=E2
  have hmid:∀ R,Ev (fun k=>if (wrap64 (RefP.Bn s P 16+RefP.Bn s (P+16) 16))=65535 then (celluloidref05_stored.l1 k s mx (RefP.Bn s P 16) 0 x.o (P+32) 0) else (some (x.o,P+32,3))) R → Ev (fun k=>celluloidref05_stored.f k s x.o x.p 0 mx) R:=fun R hR =>
   hfirst R (Ev.bind E1' (Ev.bind E2' (Ev.congr (fun k=>if_pos rfl) hR)))
  show ∃ o' q,_∧_
  rw [if_pos (show (0:Int)=0 from rfl)]
  have hxs:=xor_sum (RefP.Bn s P 16) (RefP.Bn s (P+16) 16) ra.1 ra.2 rb.1 rb.2
  have hbits:=bn_sum s P (P+16) 16
  generalize hM:RefP.Bn s (P+16) 16=m at *
  generalize hN:RefP.Bn s P 16=n' at *
  obtain ⟨n,rfl⟩:=Int.eq_ofNat_of_zero_le ra.1
  by_cases cx:(n:Int)+m=65535
  ·rw [if_pos (hxs.2 cx)]
   have hb:∀ i:Nat,i < 16 → bitN s (P+i)+bitN s (P+16+i)=1:=hbits (by rw [cx];decide)
   have hthen:∀ R,Ev (fun k=>celluloidref05_stored.l1 k s mx (n:Int) 16 x.o (P+32) 0) R → Ev (fun k=>celluloidref05_stored.f k s x.o x.p 0 mx) R:=fun R hR =>
    hmid R (Ev.congr (fun k=>by rw [wrap_in (by omega) (by omega),if_pos cx];rfl) (differ_is (p:=P) hs (by omega) (by omega) hb hR 16 0 (by omega)))
   have hend:∀ R,Ev (fun k=>if (x.o.length:Int)+n > mx then some (x.o,P+32,7) else if (P+32) / 8+n > (s.size:Int) then some (x.o,P+32,2) else celluloidref05_stored.l2 k s (n:Int) ((P+32) / 8) 0 x.o (P+32) 0) R → Ev (fun k=>celluloidref05_stored.f k s x.o x.p 0 mx) R:=fun R hR=>hthen R (by
    refine Ev.step (fun k=>?_) hR
    simp only [celluloidref05_stored.l1]
    rw [if_neg (by decide),wrap_in (n:=(x.o.length:Int)+n) (by omega) (by omega),Int.tdiv_eq_ediv_of_nonneg (by omega),wrap_in (n:=(P+32) / 8) (by omega) (by omega),wrap_in (n:=(P+32) / 8+n) (by omega) (by omega)])
   by_cases co:(x.o.length:Int)+n≤mx
   ·by_cases cz:(n:Int)≤s.size - (P+16+16) / 8
    ·refine ⟨x.o ++ cut s ((P+32) / 8).toNat n,8*((P+32) / 8+n),?_,?_⟩
     ·refine hend _ (Ev.congr (fun k=>by rw [if_neg (by omega),if_neg (by omega)]) ?_)
      have h3:=copy_is (s:=s) (o:=x.o) (p:=P+32) (e:=0) ((P+32) / 8).toNat n hs (by omega) (by omega) n 0 (by omega)
      rw [show (((P+32) / 8).toNat:Int)=(P+32) / 8 by omega] at h3
      have e0:cut s ((P+32) / 8).toNat 0=[]:=rfl
      rw [e0,List.append_nil] at h3
      rw [if_pos (show ((((RefP.Bn s P 16:Int),(⟨P+16+16,x.o,0⟩:St)).2.o.length:Nat):Int)+(n:Int)≤mx from co),if_pos (show (n:Int)≤s.size - (P+16+16) / 8 from cz)]
      exact h3
     ·rw [if_pos (show ((x.o.length:Nat):Int)+(n:Int)≤mx from co),if_pos (show (n:Int)≤s.size - (P+16+16) / 8 from cz)]
      refine ⟨rfl,fun _=>?_,fun _=>?_⟩
      ·show _=x.o ++ cut s ((P+16+16) / 8).toNat (n:Int).toNat
       rw [show P+16+16=P+32 by omega,Int.toNat_natCast]
      ·show _=P+16+16+8*(n:Int);omega
    ·rw [if_pos (show ((x.o.length:Nat):Int)+(n:Int)≤mx from co),if_neg (show ¬ (n:Int)≤s.size - (P+16+16) / 8 from cz)]
     exact ⟨x.o,P+32,hend _ (Ev.congr (fun k=>by rw [if_neg (by omega),if_pos (by omega)];rfl) (Ev.now _)),rfl,fun h0=>absurd h0 (by simp [fail]),fun h0=>absurd h0 (by simp [fail])⟩
   ·rw [if_neg (show ¬ ((x.o.length:Nat):Int)+(n:Int)≤mx from co)]
    exact ⟨x.o,P+32,hend _ (Ev.congr (fun k=>by rw [if_pos (by omega)];rfl) (Ev.now _)),rfl,fun h0=>absurd h0 (by simp [fail]),fun h0=>absurd h0 (by simp [fail])⟩
  ·rw [if_neg (fun h0=>cx (hxs.1 h0))]
   exact ⟨x.o,P+32,hmid _ (Ev.congr (fun k=>by rw [wrap_in (by omega) (by omega),if_neg cx];rfl) (Ev.now _)),rfl,fun h0=>absurd h0 (by simp [fail]),fun h0=>absurd h0 (by simp [fail])⟩
 ·rw [if_neg c]
  exact ⟨x.o,q2,hfirst _ (Ev.bind E1 (Ev.bind E2 (Ev.congr (fun k=>if_neg c) (Ev.now _)))),R2⟩
end Go.Proofs.Ytpbhkdamkbopkaa.Inf
namespace Go.Proofs.Ytpbhkdamkbopkaa.Inf
set_option linter.unusedSimpArgs false
set_option linter.unusedVariables false
open Go.RowKit Go.Proofs.Ytpbhkdamkbopkaa.Ext Go.Proofs.Ytpbhkdamkbopkaa.GInfr Go.Proofs.Ytpbhkdamkbopkaa.HuM Go.Proofs.YtpbhkdamkbopkaaW.PrintWords Go.Proofs.YtpbhkdamkbopkaaW.PrintLast Go.Proofs.YtpbhkdamkbopkaaW.PrintMore
theorem Length_all:∀ m:Nat,m < 29 → celluloidref05_Length.f 40 (257+(m:Int))=some (lenB.getD m 0,lenM.getD m 0):=by decide +kernel
theorem Distance_all:∀ m:Nat,m < 30 → celluloidref05_Distance.f 40 (m:Int)=some (disB.getD m 0,disM.getD m 0):=by decide +kernel
theorem length_is (m:Nat) (h:m < 29):Ev (fun k=>celluloidref05_Length.f k (257+(m:Int))) (lenB.getD m 0,lenM.getD m 0):=Ev.of (celluloidref05_Length.mono _) (Length_all m h)
theorem distance_is (m:Nat) (h:m < 30):Ev (fun k=>celluloidref05_Distance.f k (m:Int)) (disB.getD m 0,disM.getD m 0):=Ev.of (celluloidref05_Distance.mono _) (Distance_all m h)
theorem run_is {s : ByteArray} {mx p e : Int} {la lb o : List Int} {R : List Int × Int × Int} (d n : Nat) (hd : 1 ≤ d) (hdo : d ≤ o.length) (ho : o.length ≤ 1000000) (hn : n ≤ 1000000)
  (h:Ev (fun k=>celluloidref05_codes.l0 k s mx la lb (again o d n) p e) R) (m:Nat):∀ i:Nat,i+m=n → Ev (fun k=>celluloidref05_codes.l1 k s mx la lb (n:Int) (d:Int) (i:Int) (again o d i) p e) R:=by
 induction m with
 |zero =>
  intro i hi
  obtain rfl:i=n:=by omega
  refine Ev.step (fun k=>?_) h
  simp only [celluloidref05_codes.l1]
  rw [if_neg (by omega)]
 |succ m ih =>
  intro i hi
  have hl:=again_len o d i
  refine Ev.step (fun k=>?_) (ih (i+1) (by omega))
  have hr:rd (again o d i) (((again o d i).length:Int) - d)=(again o d i).getD ((again o d i).length - d) 0:=by
   rw [show ((again o d i).length:Int) - d=(((again o d i).length - d:Nat):Int) by omega];rfl
  simp only [celluloidref05_codes.l1]
  rw [if_pos (by omega),wrap_in (n:=((again o d i).length:Int) - d) (by omega) (by omega),if_pos (by omega),if_pos (by omega),if_pos (by omega),wrap_in (n:=(i:Int)+1) (by omega) (by omega),hr]
  rfl
theorem far_is {s : ByteArray} {mx : Int} {la lb : List Int} {x : St} {o : List Int} {p e y : Int} (hs : s.size ≤ 1000000) (hm : mx ≤ 262144) (hx : Ok s x) (h : Rel x o p e) (he : x.e = 0) (ho : (x.o.length : Int) ≤ mx) (hb : errOf lb = 0) (h0 : 257 ≤ y) (h1 : y < 286) :
  ∃ o' q,Rel (far s mx lb x y) o' q (far s mx lb x y).e∧∀ R,((far s mx lb x y).e=0 → Ev (fun k=>celluloidref05_codes.l0 k s mx la lb o' q 0) R) → ((far s mx lb x y).e ≠ 0 → R=(o',q,(far s mx lb x y).e)) →
   Ev (fun k=>(celluloidref05_Length.f k y).bind fun b64=>(celluloidref05_number.f k s o p e b64.2).bind fun b66=>(celluloidref05_symbol.f k s b66.2.1 b66.2.2.1 b66.2.2.2 lb).bind fun b72=>if b72.2.2.2=0 then (celluloidref05_codes.j4 k s mx la lb (wrap64 (b64.1+b66.1)) b72.1 (decide (b72.1 > 29)) b72.2.1 b72.2.2.1 b72.2.2.2) else (celluloidref05_codes.j4 k s mx la lb (wrap64 (b64.1+b66.1)) b72.1 false b72.2.1 b72.2.2.1 b72.2.2.2)) R:=by
 unfold Inf.far
 obtain ⟨r,hr⟩:∃ r:Nat,(y - 257).toNat=r:=⟨_,rfl⟩
 have hqr:=len_rng r (by omega)
 obtain ⟨n,hn⟩:∃ n:Nat,lenM.getD r 0=(n:Int):=⟨(lenM.getD r 0).toNat,by omega⟩
 have hL:=length_is r (by omega)
 rw [show 257+(r:Int)=y by omega,hn] at hL
 simp only [hr,hn]
 obtain ⟨q1,E1,R1⟩:=number_is n hs hx h (by omega)
 have a1:=Aft.bits (mx:=mx) hx n (by omega) n rfl
 have g1:=bits_get (n:=n) (k:=n) (m:=(Inf.bits s n x).1) (y:=(Inf.bits s n x).2) rfl hx (by omega) rfl
 obtain ⟨q2,E2,R2⟩:=symbol_is lb hs a1.ok R1 (fun _=>hb)
 have a2:=Aft.next (mx:=mx) (by omega) a1.ok lb (fun _=>hb)
 have g2:=next_get (m:=(Inf.next lb s (Inf.bits s n x).2).1) (y:=(Inf.next lb s (Inf.bits s n x).2).2) (by omega) a1.ok (fun _=>hb) rfl
 generalize Inf.bits s n x=m at *
 generalize Inf.next lb s m.2=d at *
 by_cases c:d.2.e=0∧d.1 ≥ 30
 ·rw [if_pos c]
  have e3:(fail d.2 3).e=3:=by unfold fail;rw [if_pos c.1]
  rw [if_neg (by rw [e3];decide),e3]
  refine ⟨o,q2,⟨e3.symm,fun h=>absurd (e3.symm.trans h) (by decide),fun h=>absurd (e3.symm.trans h) (by decide)⟩,fun R _ hR=>?_⟩
  obtain rfl:=hR (by decide)
  refine Ev.bind hL (Ev.bind E1 (Ev.bind E2 ?_))
  refine Ev.congr (fun k=>if_pos c.1) (Ev.step (f:=fun k=>celluloidref05_codes.j5 k s mx la lb (wrap64 (lenB.getD r 0+m.1)) d.1 o q2 3) (fun k=>?_) (Ev.step (f:=fun _=>some (o,q2,3)) (fun k=>?_) (Ev.now _)))
  ·simp only [celluloidref05_codes.j4];rw [if_pos (decide_eq_true (by omega))]
  ·simp only [celluloidref05_codes.j5];rw [if_neg (by decide)]
 ·rw [if_neg c]
  by_cases ce:d.2.e=0
  ·rw [if_pos ce]
   have hd0:=g2.2.1
   have h30:d.1 < 30:=Int.not_le.1 (fun h=>c ⟨ce,h⟩)
   obtain ⟨v,hv⟩:∃ v:Nat,d.1=(v:Int):=⟨d.1.toNat,by omega⟩
   have hdr:=dis_rng v (by omega)
   obtain ⟨n2,hn2⟩:∃ n2:Nat,disM.getD v 0=(n2:Int):=⟨(disM.getD v 0).toNat,by omega⟩
   have hD:=distance_is v (by omega)
   obtain ⟨q3,E3,R3⟩:=number_is n2 hs a2.ok R2 (by omega)
   have g3:=bits_get (n:=n2) (k:=n2) (m:=(Inf.bits s n2 d.2).1) (y:=(Inf.bits s n2 d.2).2) rfl a2.ok (by omega) rfl
   simp only [hv,Int.toNat_natCast,hn2]
   rw [hn2] at hD
   generalize Inf.bits s n2 d.2=u at *
   have hbase : ∀ R, Ev (fun k => if u.2.e = 0 then (if (wrap64 (disB.getD v 0 + u.1)) > (o.length : Int) then (some (o, q3, 3)) else (if (wrap64 ((o.length : Int) + (wrap64 (lenB.getD r 0 + m.1)))) > mx then (some (o, q3, 7)) else (celluloidref05_codes.l1 k s mx la lb (wrap64 (lenB.getD r 0 + m.1)) (wrap64 (disB.getD v 0 + u.1)) 0 o q3 u.2.e))) else (some (o, q3, u.2.e))) R →
     Ev (fun k=>(celluloidref05_Length.f k y).bind fun b64=>(celluloidref05_number.f k s o p e b64.2).bind fun b66=>(celluloidref05_symbol.f k s b66.2.1 b66.2.2.1 b66.2.2.2 lb).bind fun b72=>if b72.2.2.2=0 then (celluloidref05_codes.j4 k s mx la lb (wrap64 (b64.1+b66.1)) b72.1 (decide (b72.1 > 29)) b72.2.1 b72.2.2.1 b72.2.2.2) else (celluloidref05_codes.j4 k s mx la lb (wrap64 (b64.1+b66.1)) b72.1 false b72.2.1 b72.2.2.1 b72.2.2.2)) R:=fun R hR=>by
    refine Ev.bind hL (Ev.bind E1 (Ev.bind E2 ?_))
    refine Ev.congr (fun k=>if_pos ce) (Ev.step (f:=fun k=>celluloidref05_codes.j5 k s mx la lb (wrap64 (lenB.getD r 0+m.1)) (v:Int) o q2 d.2.e) (fun k=>?_) (Ev.step (f:=fun k=>(celluloidref05_Distance.f k (v:Int)).bind fun a=>(celluloidref05_number.f k s o q2 d.2.e a.2).bind fun b=>if b.2.2.2=0 then (if (wrap64 (a.1+b.1)) > (b.2.1.length:Int) then (some (b.2.1,b.2.2.1,3)) else (if (wrap64 ((b.2.1.length:Int)+(wrap64 (lenB.getD r 0+m.1)))) > mx then (some (b.2.1,b.2.2.1,7)) else (celluloidref05_codes.l1 k s mx la lb (wrap64 (lenB.getD r 0+m.1)) (wrap64 (a.1+b.1)) 0 b.2.1 b.2.2.1 b.2.2.2))) else (some (b.2.1,b.2.2.1,b.2.2.2))) (fun k=>?_) (Ev.bind hD (Ev.bind E3 hR))))
    ·simp only [celluloidref05_codes.j4];rw [hv,if_neg (by simp;omega)]
    ·simp only [celluloidref05_codes.j5];rw [if_pos ce]
   have hm1:m.1 < 65536:=by have:=(RefP.pow_16 n (by omega)).2;have:=g1.2.2.1;omega
   have hu1:u.1 < 65536:=by have:=(RefP.pow_16 n2 (by omega)).2;have:=g3.2.2.1;omega
   have hm0:=g1.2.1
   have hu0:=g3.2.1
   have ho1:(o.length:Int)=u.2.o.length ∨ u.2.e ≠ 0:=by
    by_cases cu:u.2.e=0
    ·exact .inl (by rw [R3.o cu])
    ·exact .inr cu
   have ho2:u.2.o=x.o:=by rw [g3.2.2.2.1,g2.2.2.2.1,g1.2.2.2.1]
   rw [wrap_in (n:=lenB.getD r 0+m.1) (by omega) (by omega),wrap_in (n:=disB.getD v 0+u.1) (by omega) (by omega)] at hbase
   obtain ⟨N,hN⟩:∃ N:Nat,lenB.getD r 0+m.1=(N:Int):=⟨(lenB.getD r 0+m.1).toNat,by omega⟩
   obtain ⟨D,hD1⟩:∃ D:Nat,disB.getD v 0+u.1=(D:Int):=⟨(disB.getD v 0+u.1).toNat,by omega⟩
   rw [hN,hD1] at hbase ⊢
   have hNb:N≤70000:=by omega
   have hDb:1≤D∧D≤100000:=by omega
   by_cases cu:u.2.e=0
   ·rw [if_pos cu]
    obtain rfl:=R3.o cu
    obtain rfl:=R3.p cu
    have hlen:(u.2.o.length:Int)≤mx:=by rw [ho2];exact ho
    unfold Inf.copy
    by_cases c1:(D:Int)≤u.2.o.length
    ·rw [if_pos c1]
     by_cases c2:(u.2.o.length:Int)+N≤mx
     ·rw [if_pos c2]
      refine ⟨again u.2.o D N,u.2.p,⟨rfl,fun _=>rfl,fun _=>rfl⟩,fun R hR _=>hbase R ?_⟩
      refine Ev.congr (fun k=>by rw [if_pos cu,if_neg (by omega),wrap_in (n:=(u.2.o.length:Int)+N) (by omega) (by omega),if_neg (by omega),cu]) ?_
      exact run_is D N hDb.1 (by omega) (by omega) (by omega) (hR cu) N 0 (by omega)
     ·rw [if_neg c2]
      have e7:(fail u.2 7).e=7:=by unfold fail;rw [if_pos cu]
      refine ⟨u.2.o,u.2.p,⟨rfl,fun h=>absurd (e7.symm.trans h) (by decide),fun h=>absurd (e7.symm.trans h) (by decide)⟩,fun R _ hR=>hbase R ?_⟩
      obtain rfl:=hR (by rw [e7];decide)
      exact Ev.congr (fun k=>by rw [if_pos cu,if_neg (by omega),wrap_in (n:=(u.2.o.length:Int)+N) (by omega) (by omega),if_pos (by omega),e7]) (Ev.now _)
    ·rw [if_neg c1]
     have e3:(fail u.2 3).e=3:=by unfold fail;rw [if_pos cu]
     refine ⟨u.2.o,u.2.p,⟨rfl,fun h=>absurd (e3.symm.trans h) (by decide),fun h=>absurd (e3.symm.trans h) (by decide)⟩,fun R _ hR=>hbase R ?_⟩
     obtain rfl:=hR (by rw [e3];decide)
     exact Ev.congr (fun k=>by rw [if_pos cu,if_pos (by omega),e3]) (Ev.now _)
   ·rw [if_neg cu]
    refine ⟨o,q3,R3,fun R _ hR=>hbase R ?_⟩
    obtain rfl:=hR cu
    exact Ev.congr (fun k=>if_neg cu) (Ev.now _)
  ·rw [if_neg ce]
   refine ⟨o,q2,R2,fun R _ hR=>?_⟩
   obtain rfl:=hR ce
   refine Ev.bind hL (Ev.bind E1 (Ev.bind E2 ?_))
   refine Ev.congr (fun k=>if_neg ce) (Ev.step (f:=fun k=>celluloidref05_codes.j5 k s mx la lb (wrap64 (lenB.getD r 0+m.1)) d.1 o q2 d.2.e) (fun k=>?_) (Ev.step (f:=fun _=>some (o,q2,d.2.e)) (fun k=>?_) (Ev.now _)))
   ·simp only [celluloidref05_codes.j4];rw [if_neg (by decide)]
   ·simp only [celluloidref05_codes.j5];rw [if_neg ce]
theorem codes_l0 {s : ByteArray} {mx : Int} {la lb : List Int} (hs : s.size ≤ 1000000) (hm : mx ≤ 262144) (ha : errOf la = 0) (hb : errOf lb = 0) : ∀ (k : Nat) (x : St) (o : List Int) (p e : Int), Ok s x → Rel x o p e → (x.o.length : Int) ≤ mx → (x.e = 0 → left s x ≤ k) →
  ∃ o' q,Ev (fun j=>celluloidref05_codes.l0 j s mx la lb o p e) (o',q,(codes s mx la lb k x).e)∧Rel (codes s mx la lb k x) o' q (codes s mx la lb k x).e:=by
 intro k
 induction k with
 |zero =>
  intro x o p e hx h ho hk
  have he:x.e ≠ 0:=fun c=>by have:=hk c;unfold left at this;omega
  rw [codes_stop s mx la lb 0 x he]
  have h':=h.e
  subst h'
  exact ⟨o,p,Ev.step (f:=fun _=>some (o,p,x.e)) (fun j=>by simp only [celluloidref05_codes.l0];rw [if_neg he]) (Ev.now _),h⟩
 |succ k ih =>
  intro x o p e hx h ho hk
  by_cases he:x.e=0
  ·obtain rfl:e=0:=h.e.trans he
   obtain ⟨q1,E1,R1⟩:=symbol_is la hs hx h (fun _=>ha)
   have a1:=Aft.next (mx:=mx) (by omega) hx la (fun _=>ha)
   have g1:=next_get (m:=(Inf.next la s x).1) (y:=(Inf.next la s x).2) (by omega) hx (fun _=>ha) rfl
   have hone:codes s mx la lb (k+1) x=if (one s mx la lb x).1=true then (one s mx la lb x).2 else codes s mx la lb k (one s mx la lb x).2:=by
    show (if x.e=0 then _ else _)=_
    rw [if_pos he]
   have hdef:one s mx la lb x=if (Inf.next la s x).2.e ≠ 0 ∨ (Inf.next la s x).1=256 then (true,(Inf.next la s x).2) else if (Inf.next la s x).1 < 256 then (if ((Inf.next la s x).2.o.length:Int)=mx then (true,fail (Inf.next la s x).2 7) else (false,⟨(Inf.next la s x).2.p,(Inf.next la s x).2.o ++ [(Inf.next la s x).1 % 256],(Inf.next la s x).2.e⟩)) else if (Inf.next la s x).1 ≥ 286 then (true,fail (Inf.next la s x).2 3) else (false,far s mx lb (Inf.next la s x).2 (Inf.next la s x).1):=rfl
   rw [hone,hdef]
   generalize Inf.next la s x=A at *
   have hgo:∀ R,Ev (fun k=>if A.2.e=0 then (celluloidref05_codes.j3 k s mx la lb A.1 (A.1 == 256) o q1 A.2.e) else (celluloidref05_codes.j3 k s mx la lb A.1 true o q1 A.2.e)) R → Ev (fun j=>celluloidref05_codes.l0 j s mx la lb o p 0) R:=fun R hR =>
    Ev.step (f:=fun k=>(celluloidref05_symbol.f k s o p 0 la).bind fun b=>if b.2.2.2=0 then (celluloidref05_codes.j3 k s mx la lb b.1 (b.1 == 256) b.2.1 b.2.2.1 b.2.2.2) else (celluloidref05_codes.j3 k s mx la lb b.1 true b.2.1 b.2.2.1 b.2.2.2)) (fun k=>by simp only [celluloidref05_codes.l0];rw [if_pos trivial]) (Ev.bind E1 hR)
   have htrue:∀ v E,Ev (fun k=>celluloidref05_codes.j3 k s mx la lb v true o q1 E) (o,q1,E):=fun v E=>Ev.step (f:=fun _=>some (o,q1,E)) (fun k=>by simp only [celluloidref05_codes.j3];rw [if_pos trivial]) (Ev.now _)
   by_cases c1:A.2.e ≠ 0 ∨ A.1=256
   ·rw [if_pos c1,if_pos rfl]
    refine ⟨o,q1,hgo _ ?_,R1⟩
    by_cases c:A.2.e=0
    ·have c2:A.1=256:=c1.resolve_left (fun h=>h c)
     exact Ev.congr (fun k=>by rw [if_pos c,c2];rfl) (htrue 256 A.2.e)
    ·exact Ev.congr (fun k=>if_neg c) (htrue A.1 A.2.e)
   ·have c:A.2.e=0:=Decidable.byContradiction (fun h=>c1 (.inl h))
    have c2:A.1 ≠ 256:=fun h=>c1 (.inr h)
    rw [if_neg c1]
    obtain rfl:=R1.o c
    obtain rfl:=R1.p c
    have hlen:(A.2.o.length:Int)≤mx:=a1.o ho
    have hp1:=(g1.2.2.2.2.1 c).2.1
    have hgo2:∀ R,Ev (fun k=>if A.1 < 256 then (if (A.2.o.length:Int) ≥ mx then (some (A.2.o,A.2.p,7)) else (if A.2.o.length < 140737488355328 then (celluloidref05_codes.l0 k s mx la lb (A.2.o ++ [A.1 % 256]) A.2.p 0) else none)) else (if A.1 > 285 then (some (A.2.o,A.2.p,3)) else ((celluloidref05_Length.f k A.1).bind fun b64=>(celluloidref05_number.f k s A.2.o A.2.p A.2.e b64.2).bind fun b66=>(celluloidref05_symbol.f k s b66.2.1 b66.2.2.1 b66.2.2.2 lb).bind fun b72=>if b72.2.2.2=0 then (celluloidref05_codes.j4 k s mx la lb (wrap64 (b64.1+b66.1)) b72.1 (decide (b72.1 > 29)) b72.2.1 b72.2.2.1 b72.2.2.2) else (celluloidref05_codes.j4 k s mx la lb (wrap64 (b64.1+b66.1)) b72.1 false b72.2.1 b72.2.2.1 b72.2.2.2)))) R → Ev (fun j=>celluloidref05_codes.l0 j s mx la lb A.2.o p 0) R:=fun R hR =>
     hgo R (Ev.congr (fun k=>if_pos c) (Ev.step (fun k=>by
      simp only [celluloidref05_codes.j3]
      rw [if_neg (by simpa using c2),c]) hR))
    by_cases c3:A.1 < 256
    ·rw [if_pos c3]
     by_cases c4:(A.2.o.length:Int)=mx
     ·rw [if_pos c4,if_pos rfl]
      have e7:(fail A.2 7).e=7:=by unfold fail;rw [if_pos c]
      exact ⟨A.2.o,A.2.p,hgo2 _ (Ev.congr (fun k=>by rw [if_pos c3,if_pos (by omega),e7]) (Ev.now _)),rfl,fun h=>absurd (e7.symm.trans h) (by decide),fun h=>absurd (e7.symm.trans h) (by decide)⟩
     ·rw [if_neg c4,if_neg (by simp)]
      obtain ⟨o',q,F1,F2⟩:=ih ⟨A.2.p,A.2.o ++ [A.1 % 256],A.2.e⟩ (A.2.o ++ [A.1 % 256]) A.2.p 0 ⟨g1.1.p0,g1.1.p1,g1.1.e⟩ ⟨c.symm,fun _=>rfl,fun _=>rfl⟩ (by simp;omega) (fun _=>left_less (hk he) rfl hp1 hx.p1)
      exact ⟨o',q,hgo2 _ (Ev.congr (fun k=>by rw [if_pos c3,if_neg (by omega),if_pos (by omega)]) F1),F2⟩
    ·rw [if_neg c3]
     by_cases c5:A.1 ≥ 286
     ·rw [if_pos c5,if_pos rfl]
      have e3:(fail A.2 3).e=3:=by unfold fail;rw [if_pos c]
      exact ⟨A.2.o,A.2.p,hgo2 _ (Ev.congr (fun k=>by rw [if_neg c3,if_pos (by omega),e3]) (Ev.now _)),rfl,fun h=>absurd (e3.symm.trans h) (by decide),fun h=>absurd (e3.symm.trans h) (by decide)⟩
     ·rw [if_neg c5,if_neg (by simp)]
      have hy0:257≤A.1:=by omega
      have hy1:A.1 < 286:=by omega
      obtain ⟨o1,q,F1,F2⟩:=far_is (la:=la) hs hm g1.1 R1 c hlen hb hy0 hy1
      have a2:=Aft.far (mx:=mx) (by omega) g1.1 lb hb A.1 hy0 hy1
      obtain ⟨o',q',G1,G2⟩:=ih (far s mx lb A.2 A.1) o1 q (far s mx lb A.2 A.1).e a2.ok F1 (a2.o hlen) (fun _=>left_less (hk he) rfl (Int.le_trans hp1 a2.p) hx.p1)
      by_cases cf:(far s mx lb A.2 A.1).e=0
      ·rw [cf] at G1
       exact ⟨o',q',hgo2 _ (Ev.congr (fun k=>by rw [if_neg c3,if_neg (by omega)]) (F2 _ (fun _=>G1) (fun h0=>absurd cf h0))),G2⟩
      ·rw [codes_stop s mx la lb k _ cf]
       exact ⟨o1,q,hgo2 _ (Ev.congr (fun k=>by rw [if_neg c3,if_neg (by omega)]) (F2 _ (fun h0=>absurd h0 cf) (fun _=>rfl))),F1⟩
  ·rw [codes_stop s mx la lb (k+1) x he]
   have h':=h.e
   subst h'
   exact ⟨o,p,Ev.step (f:=fun _=>some (o,p,x.e)) (fun j=>by simp only [celluloidref05_codes.l0];rw [if_neg he]) (Ev.now _),h⟩
/-- A block's symbols: both lists of lengths are looked at first. -/
theorem codes_is {s : ByteArray} {mx : Int} {la lb o : List Int} {x : St} {p e : Int} (hs : s.size ≤ 1000000) (hm : mx ≤ 262144) (hx : Ok s x) (h : Rel x o p e) (ho : (x.o.length : Int) ≤ mx) :
  ∃ o' q,Ev (fun k=>celluloidref05_codes.f k s o p e mx la lb) (o',q,(both s mx la lb x).e)∧Rel (both s mx la lb x) o' q (both s mx la lb x).e:=by
 have hstop:∀ (y:St) (E:Int) (R:Rel y o p E),y.e ≠ 0 → Ev (fun k=>celluloidref05_codes.l0 k s mx la lb o p E) (o,p,E):=fun y E R hy=>Ev.step (f:=fun _=>some (o,p,E)) (fun j=>by simp only [celluloidref05_codes.l0];rw [if_neg (by rw [R.e];exact hy)]) (Ev.now _)
 have hj1:∀ E R,Ev (fun k=>celluloidref05_codes.l0 k s mx la lb o p E) R → Ev (fun k=>celluloidref05_codes.j1 k s mx la lb o p E) R:=fun E R hR=>Ev.step (fun k=>by simp only [celluloidref05_codes.j1]) hR
 have eB:=RefA.referr_is lb
 have eA:=RefA.referr_is la
 have t1:=Aft.table (mx:=mx) hx la
 have t2:=Aft.table (mx:=mx) t1.ok lb
 unfold both
 by_cases he:x.e=0
 ·obtain rfl:e=0:=h.e.trans he
  have hf:∀ R,Ev (fun k=>celluloidref05_codes.j0 k s mx la lb o p (errOf la)) R → Ev (fun k=>celluloidref05_codes.f k s o p 0 mx la lb) R:=fun R hR=>Ev.congr (fun k=>by unfold celluloidref05_codes.f;rw [if_pos rfl]) (Ev.bind eA hR)
  have tA:table la x=⟨x.p,x.o,errOf la⟩:=by unfold table fail;rw [if_pos he]
  by_cases ca:errOf la=0
  ·have tA':table la x=x:=by rw [tA,ca,← he]
   rw [tA'] at t2 ⊢
   have tB:table lb x=⟨x.p,x.o,errOf lb⟩:=by unfold table fail;rw [if_pos he]
   have hf2:∀ R,Ev (fun k=>celluloidref05_codes.l0 k s mx la lb o p (errOf lb)) R → Ev (fun k=>celluloidref05_codes.f k s o p 0 mx la lb) R:=fun R hR=>hf R (by
    rw [ca]
    exact Ev.step (f:=fun k=>(celluloidref04_Error.f k lb).bind fun t=>celluloidref05_codes.j1 k s mx la lb o p t) (fun k=>by simp only [celluloidref05_codes.j0];rw [if_pos trivial]) (Ev.bind eB (hj1 _ _ hR)))
   by_cases cb:errOf lb=0
   ·have tB':table lb x=x:=by rw [tB,cb,← he]
    rw [tB']
    obtain ⟨o',q,F1,F2⟩:=codes_l0 hs hm ca cb (left s x) x o p 0 hx h ho (fun _=>Nat.le_refl _)
    exact ⟨o',q,hf2 _ (by rw [cb];exact F1),F2⟩
   ·have hR:Rel (table lb x) o p (table lb x).e:=⟨rfl,fun h0=>absurd h0 (by rw [tB];exact cb),fun h0=>absurd h0 (by rw [tB];exact cb)⟩
    have hne:(table lb x).e ≠ 0:=by rw [tB];exact cb
    rw [codes_stop s mx la lb _ _ hne]
    have:=hf2 _ (hstop (table lb x) _ (by rw [tB] at hR ⊢;exact hR) hne)
    exact ⟨o,p,by rw [tB];exact this,hR⟩
  ·have hne:(table la x).e ≠ 0:=by rw [tA];exact ca
   have tB:table lb (table la x)=table la x:=by unfold table;unfold fail;rw [if_neg (by rw [if_pos he];exact ca)]
   rw [tB,codes_stop s mx la lb _ _ hne]
   have hR:Rel (table la x) o p (table la x).e:=⟨rfl,fun h0=>absurd h0 hne,fun h0=>absurd h0 hne⟩
   refine ⟨o,p,?_,hR⟩
   rw [tA]
   exact hf _ (Ev.step (f:=fun k=>celluloidref05_codes.j1 k s mx la lb o p (errOf la)) (fun k=>by simp only [celluloidref05_codes.j0];rw [if_neg ca]) (hj1 _ _ (hstop (table la x) _ (by rw [tA] at hR ⊢;exact hR) hne)))
 ·have tA:table la x=x:=by unfold table fail;rw [if_neg he]
  have tB:table lb x=x:=by unfold table fail;rw [if_neg he]
  rw [tA,tB,codes_stop s mx la lb _ _ he]
  have h':=h.e
  subst h'
  refine ⟨o,p,?_,h⟩
  exact Ev.congr (fun k=>by unfold celluloidref05_codes.f;rw [if_neg he]) (Ev.step (f:=fun k=>celluloidref05_codes.j1 k s mx la lb o p x.e) (fun k=>by simp only [celluloidref05_codes.j0];rw [if_neg he]) (hj1 _ _ (hstop x _ h he)))
end Go.Proofs.Ytpbhkdamkbopkaa.Inf
namespace Go.Proofs.Ytpbhkdamkbopkaa.Inf
set_option linter.unusedSimpArgs false
set_option linter.unusedVariables false
open Go.RowKit Go.Proofs.Ytpbhkdamkbopkaa.Ext Go.Proofs.Ytpbhkdamkbopkaa.GInfr Go.Proofs.Ytpbhkdamkbopkaa.HuM Go.Proofs.YtpbhkdamkbopkaaW.PrintWords Go.Proofs.YtpbhkdamkbopkaaW.PrintLast Go.Proofs.YtpbhkdamkbopkaaW.PrintMore
theorem plain_is:Ev (fun k=>celluloidref05_Plain.f k) (plainA,plainB):=Ev.of celluloidref05_Plain.mono (k:=700) (by decide +kernel)
/-- The places of a code of lengths: one number of 3 bits each. -/
theorem order_rd:∀ i:Nat,i < 19 → rd [16,17,18,0,8,7,9,6,10,5,11,4,12,3,13,2,14,1,15] (i:Int)=((order.getD i 0:Nat):Int)∧order.getD i 0 < 19:=by decide
theorem owns_is {s : ByteArray} {a b c : Int} (hs : s.size ≤ 1000000) (c0 : 0 ≤ c) (c1 : c ≤ 15) (o : List Int) (d : Nat) : ∀ (i : Nat) (own : List Int) (x : St) (p e : Int), i + d = (c + 4).toNat → own.length = 19 → Ok s x → Rel x o p e →
  ∃ p',Rel (owns s ((order.take (c+4).toNat).drop i) own x).2 o p' (owns s ((order.take (c+4).toNat).drop i) own x).2.e∧∀ R,
   Ev (fun k=>if (owns s ((order.take (c+4).toNat).drop i) own x).2.e=0 then ((celluloidref04_Error.f k (owns s ((order.take (c+4).toNat).drop i) own x).1).bind fun t=>celluloidref05_lengths.j3 k s a b (owns s ((order.take (c+4).toNat).drop i) own x).1 o p' t) else celluloidref05_lengths.j3 k s a b (owns s ((order.take (c+4).toNat).drop i) own x).1 o p' (owns s ((order.take (c+4).toNat).drop i) own x).2.e) R →
   Ev (fun k=>celluloidref05_lengths.l0 k s a b c own [16,17,18,0,8,7,9,6,10,5,11,4,12,3,13,2,14,1,15] (i:Int) o p e) R:=by
 induction d with
 |zero =>
  intro i own x p e hi hl hx h
  have h':=h.e
  subst h'
  rw [List.drop_of_length_le (by rw [List.length_take];omega)]
  refine ⟨p,h,fun R hE=>Ev.step (fun k=>?_) hE⟩
  simp only [celluloidref05_lengths.l0,owns]
  rw [wrap_in (n:=c+4) (by omega) (by omega),if_neg (by omega)];rfl
 |succ d ih =>
  intro i own x p e hi hl hx h
  obtain ⟨q1,E1,R1⟩:=number_is 3 hs hx h (by decide)
  obtain ⟨r1,r2⟩:=order_rd i (by omega)
  have g1:=bits_get (n:=3) (k:=3) (m:=(Inf.bits s 3 x).1) (y:=(Inf.bits s 3 x).2) rfl hx (by decide) rfl
  have hdrop:(order.take (c+4).toNat).drop i=order.getD i 0 :: (order.take (c+4).toNat).drop (i+1):=by
   have hlen:i < (order.take (c+4).toNat).length:=by rw [List.length_take];show i < min _ 19;omega
   rw [List.drop_eq_getElem_cons hlen,List.getElem_take]
   congr 1
   rw [List.getD_eq_getElem?_getD,List.getElem?_eq_getElem (show i < order.length from by show i < 19;omega)]
   rfl
  obtain ⟨p',F1,F2⟩:=ih (i+1) (own.set (order.getD i 0) (Inf.bits s 3 x).1) (Inf.bits s 3 x).2 q1 (Inf.bits s 3 x).2.e (by omega) (by rw [List.length_set];exact hl) g1.1 R1
  rw [hdrop]
  refine ⟨p',F1,fun R hE=>?_⟩
  refine Ev.step (f:=fun k=>(celluloidref05_number.f k s o p e 3).bind fun t=>celluloidref05_lengths.l0 k s a b c (own.set (order.getD i 0) t.1) [16,17,18,0,8,7,9,6,10,5,11,4,12,3,13,2,14,1,15] ((i+1:Nat):Int) t.2.1 t.2.2.1 t.2.2.2) (fun k=>?_) (Ev.bind E1 (F2 R hE))
  simp only [celluloidref05_lengths.l0]
  rw [wrap_in (n:=c+4) (by omega) (by omega),if_pos (by omega),if_pos (by omega),if_pos (by show (i:Int) < 19;omega),r1,Int.toNat_natCast,wrap_in (n:=(i:Int)+1) (by omega) (by omega)]
  congr 1
  funext t
  rw [if_pos (by omega),if_pos (by omega)]
  rfl
end Go.Proofs.Ytpbhkdamkbopkaa.Inf
namespace Go.Proofs.Ytpbhkdamkbopkaa.Inf
set_option linter.unusedSimpArgs false
set_option linter.unusedVariables false
open Go.RowKit Go.Proofs.Ytpbhkdamkbopkaa.Ext Go.Proofs.Ytpbhkdamkbopkaa.GInfr Go.Proofs.Ytpbhkdamkbopkaa.HuM Go.Proofs.YtpbhkdamkbopkaaW.PrintWords Go.Proofs.YtpbhkdamkbopkaaW.PrintLast Go.Proofs.YtpbhkdamkbopkaaW.PrintMore
def tail5 (k:Nat) (x0:ByteArray) (x7:Int) (x10 x13:List Int) (x14:Int) (bt325:Int × List Int × Int × Int):Option (List Int × List Int × List Int × Int × Int):=(if bt325.2.2.2=0 then (if bt325.1 < 16 then (if x13.length < 17592186044416 then (celluloidref05_lengths.l1 k x0 x7 x10 (x13 ++ [bt325.1]) x14 bt325.2.1 bt325.2.2.1 bt325.2.2.2) else (none)) else (if bt325.1=16 then (if (x13.length:Int)=0 then (some (([]:List Int),([]:List Int),bt325.2.1,bt325.2.2.1,3)) else (if 0≤(wrap64 ((x13.length:Int) - 1)) then (if (wrap64 ((x13.length:Int) - 1)) < (x13.length:Int) then ((celluloidref05_number.f k x0 bt325.2.1 bt325.2.2.1 bt325.2.2.2 2).bind fun bt335=>(celluloidref05_lengths.j6 k x0 x7 x10 x13 x14 (rd x13 (wrap64 ((x13.length:Int) - 1))) (wrap64 (bt335.1+3)) bt335.2.1 bt335.2.2.1 bt335.2.2.2)) else (none)) else (none))) else (if bt325.1=17 then ((celluloidref05_number.f k x0 bt325.2.1 bt325.2.2.1 bt325.2.2.2 3).bind fun bt341=>(celluloidref05_lengths.j6 k x0 x7 x10 x13 x14 0 (wrap64 (bt341.1+3)) bt341.2.1 bt341.2.2.1 bt341.2.2.2)) else (if bt325.1=18 then ((celluloidref05_number.f k x0 bt325.2.1 bt325.2.2.1 bt325.2.2.2 7).bind fun bt347=>(celluloidref05_lengths.j6 k x0 x7 x10 x13 x14 0 (wrap64 (bt347.1+11)) bt347.2.1 bt347.2.2.1 bt347.2.2.2)) else (celluloidref05_lengths.j6 k x0 x7 x10 x13 x14 0 0 bt325.2.1 bt325.2.2.1 bt325.2.2.2))))) else (celluloidref05_lengths.j8 k x7 x13 x14 bt325.2.1 bt325.2.2.1 bt325.2.2.2))
theorem rep_is {s : ByteArray} {a all p e v : Int} {own o l : List Int} {R : List Int × List Int × List Int × Int × Int} (n : Nat) (hl : l.length + n ≤ 1000000)
  (h:Ev (fun k=>celluloidref05_lengths.l1 k s a own (l ++ List.replicate n v) all o p e) R) (m:Nat):∀ i:Nat,i+m=n → Ev (fun k=>celluloidref05_lengths.l2 k s a own (l ++ List.replicate i v) all v (n:Int) (i:Int) o p e) R:=by
 induction m with
 |zero =>
  intro i hi
  obtain rfl:i=n:=by omega
  refine Ev.step (fun k=>?_) h
  simp only [celluloidref05_lengths.l2]
  rw [if_neg (by omega)]
 |succ m ih =>
  intro i hi
  refine Ev.step (fun k=>?_) (ih (i+1) (by omega))
  simp only [celluloidref05_lengths.l2]
  rw [if_pos (by omega),if_pos (by rw [List.length_append,List.length_replicate];omega),wrap_in (n:=(i:Int)+1) (by omega) (by omega),List.replicate_succ',← List.append_assoc]
  rfl
theorem many_j6 {s : ByteArray} {a all p e v : Int} {own o l : List Int} {R : List Int × List Int × List Int × Int × Int} (n : Nat) (hl : l.length + n ≤ 1000000)
  (h:Ev (fun k=>celluloidref05_lengths.l1 k s a own (l ++ List.replicate n v) all o p e) R):Ev (fun k=>celluloidref05_lengths.j6 k s a own l all v (n:Int) o p e) R:=by
 have h0:=rep_is n hl h n 0 (by omega)
 rw [List.replicate_zero,List.append_nil] at h0
 exact Ev.step (fun k=>by simp only [celluloidref05_lengths.j6];rfl) h0
theorem stop_j8 {a all p e:Int} {o l:List Int} (he:e ≠ 0):Ev (fun k=>celluloidref05_lengths.j8 k a l all o p e) (([]:List Int),([]:List Int),o,p,e) :=
 Ev.step (f:=fun k=>celluloidref05_lengths.j9 k a l false o p e) (fun k=>by simp only [celluloidref05_lengths.j8];rw [if_neg he])
  (Ev.step (f:=fun _=>some (([]:List Int),([]:List Int),o,p,e)) (fun k=>by simp only [celluloidref05_lengths.j9];rw [if_neg (by decide),if_neg he]) (Ev.now _))
theorem out_l1 {s : ByteArray} {a all p e : Int} {own o l : List Int} {R : List Int × List Int × List Int × Int × Int} (hc : e ≠ 0 ∨ ¬ (l.length : Int) < all) (h : Ev (fun k => celluloidref05_lengths.j8 k a l all o p e) R) :
  Ev (fun k=>celluloidref05_lengths.l1 k s a own l all o p e) R:=by
 refine Ev.step (f:=fun k=>celluloidref05_lengths.j5 k s a own l all false o p e) (fun k=>?_) (Ev.step (fun k=>?_) h)
 ·simp only [celluloidref05_lengths.l1]
  by_cases he:e=0
  ·rw [if_pos he,decide_eq_false (hc.resolve_left (fun h=>h he))]
  ·rw [if_neg he]
 ·simp only [celluloidref05_lengths.j5]
  rw [if_neg (by decide)]
theorem in_l1 {s : ByteArray} {a all p : Int} {own o l : List Int} {R : List Int × List Int × List Int × Int × Int} {b : Int × List Int × Int × Int} (hc : (l.length : Int) < all) (E : Ev (fun k => celluloidref05_symbol.f k s o p 0 own) b) (h : Ev (fun k => tail5 k s a own l all b) R) :
  Ev (fun k=>celluloidref05_lengths.l1 k s a own l all o p 0) R:=by
 refine Ev.step (f:=fun k=>celluloidref05_lengths.j5 k s a own l all true o p 0) (fun k=>?_) (Ev.step (f:=fun k=>(celluloidref05_symbol.f k s o p 0 own).bind fun b=>tail5 k s a own l all b) (fun k=>?_) (Ev.bind E h))
 ·simp only [celluloidref05_lengths.l1]
  rw [if_pos trivial,decide_eq_true hc]
 ·simp only [celluloidref05_lengths.j5,tail5]
  rw [if_pos trivial]
theorem many_is {s : ByteArray} {a all : Int} {own : List Int} (hs : s.size ≤ 1000000) (hall : all ≤ 1000) (hown : own.length = 19) : ∀ (k : Nat) (l : List Int) (x : St) (o : List Int) (p e : Int), Ok s x → Rel x o p e → (x.e = 0 → errOf own = 0) → (x.e = 0 → left s x ≤ k) →
  ∃ o' q,Rel (many s own all k l x).2 o' q (many s own all k l x).2.e∧∀ R,((many s own all k l x).2.e=0 → Ev (fun j=>celluloidref05_lengths.j8 j a (many s own all k l x).1 all o' q 0) R) → ((many s own all k l x).2.e ≠ 0 → R=(([]:List Int),([]:List Int),o',q,(many s own all k l x).2.e)) →
   Ev (fun j=>celluloidref05_lengths.l1 j s a own l all o p e) R:=by
 intro k
 induction k with
 |zero =>
  intro l x o p e hx h ho hk
  have he:x.e ≠ 0:=fun c=>by have:=hk c;unfold left at this;omega
  rw [many_stop 0 (.inr he)]
  have h':=h.e
  subst h'
  exact ⟨o,p,h,fun R _ hR=>by rw [hR he];exact out_l1 (.inl he) (stop_j8 he)⟩
 |succ k ih =>
  intro l x o p e hx h ho hk
  by_cases he:x.e=0
  ·obtain rfl:e=0:=h.e.trans he
   by_cases hlen:(l.length:Int) < all
   ·obtain ⟨q1,E1,R1⟩:=symbol_is own hs hx h ho
    have g1:=next_get (m:=(Inf.next own s x).1) (y:=(Inf.next own s x).2) (by omega) hx ho rfl
    have hm:many s own all (k+1) l x=many s own all k (lengthen s l (Inf.next own s x).1 (Inf.next own s x).2).1 (lengthen s l (Inf.next own s x).1 (Inf.next own s x).2).2:=by
     show (if _ then _ else _)=_
     rw [if_pos hlen,if_pos he]
    rw [hm]
    generalize Inf.next own s x=A at *
    by_cases c:A.2.e=0
    ·obtain rfl:=R1.o c
     obtain rfl:=R1.p c
     have hp1:=(g1.2.2.2.2.1 c).2.1
     have hy0:=g1.2.1
     have hy19:A.1 < 19:=by rcases g1.2.2.1 with h1 | h1 <;> omega
     have ho':(z:St) → z.e=0 → errOf own=0:=fun _ _=>ho he
     have lleft:∀ z:St,A.2.p≤z.p → left s z≤k:=fun z hz=>left_less (hk he) rfl (Int.le_trans hp1 hz) hx.p1
     rw [c] at E1
     have hb:∀ R,Ev (fun k=>tail5 k s a own l all (A.1,A.2.o,A.2.p,0)) R → Ev (fun j=>celluloidref05_lengths.l1 j s a own l all A.2.o p 0) R:=fun R hR=>in_l1 hlen E1 hR
     -- a number of bits, then a value so many times
     have hrun : ∀ (v base : Int) (n : Nat), n ≤ 7 → 0 ≤ base → base ≤ 100 → ∃ q2, Ev (fun k => celluloidref05_number.f k s A.2.o A.2.p 0 (n : Int)) ((Inf.bits s n A.2).1, A.2.o, q2, (Inf.bits s n A.2).2.e) ∧
       ∃ o' q,Rel (many s own all k (l ++ List.replicate (base+(Inf.bits s n A.2).1).toNat v) (Inf.bits s n A.2).2).2 o' q (many s own all k (l ++ List.replicate (base+(Inf.bits s n A.2).1).toNat v) (Inf.bits s n A.2).2).2.e ∧
       ∀ R,((many s own all k (l ++ List.replicate (base+(Inf.bits s n A.2).1).toNat v) (Inf.bits s n A.2).2).2.e=0 → Ev (fun j=>celluloidref05_lengths.j8 j a (many s own all k (l ++ List.replicate (base+(Inf.bits s n A.2).1).toNat v) (Inf.bits s n A.2).2).1 all o' q 0) R) →
        ((many s own all k (l ++ List.replicate (base+(Inf.bits s n A.2).1).toNat v) (Inf.bits s n A.2).2).2.e ≠ 0 → R=(([]:List Int),([]:List Int),o',q,(many s own all k (l ++ List.replicate (base+(Inf.bits s n A.2).1).toNat v) (Inf.bits s n A.2).2).2.e)) →
        Ev (fun k=>celluloidref05_lengths.j6 k s a own l all v (wrap64 ((Inf.bits s n A.2).1+base)) A.2.o q2 (Inf.bits s n A.2).2.e) R:=by
      intro v base n hn hb0 hb1
      obtain ⟨q2,E2,R2⟩:=number_is n hs g1.1 R1 (by omega)
      rw [c] at E2
      have g2:=bits_get (n:=n) (k:=n) (m:=(Inf.bits s n A.2).1) (y:=(Inf.bits s n A.2).2) rfl g1.1 (by omega) rfl
      have a2:=Aft.bits (mx:=0) g1.1 n (by omega) n rfl
      generalize Inf.bits s n A.2=B at *
      have hB:B.1 < 200:=by
       have:=(Nat.pow_le_pow_right (n:=2) (by decide) hn:(2:Nat) ^ n≤2 ^ 7)
       have h3:=g2.2.2.1
       have h4:((2:Int) ^ n)=((2 ^ n:Nat):Int):=by rw [Int.natCast_pow];rfl
       omega
      have hB0:=g2.2.1
      obtain ⟨m,hm⟩:∃ m:Nat,base+B.1=(m:Int):=⟨(base+B.1).toNat,by omega⟩
      obtain ⟨o',q,F1,F2⟩:=ih (l ++ List.replicate m v) B.2 A.2.o q2 B.2.e g2.1 R2 (ho' B.2) (fun _=>lleft B.2 a2.p)
      rw [hm,Int.toNat_natCast]
      refine ⟨q2,E2,o',q,F1,fun R h1 h2=>?_⟩
      rw [wrap_in (n:=B.1+base) (by omega) (by omega),Int.add_comm,hm]
      exact many_j6 m (by omega) (F2 R h1 h2)
     by_cases c16:A.1=16
     ·by_cases cl:l.length=0
      ·have hle:lengthen s l A.1 A.2=(l,fail A.2 3):=by unfold lengthen;rw [if_pos c,if_pos c16,if_pos cl]
       have e3:(fail A.2 3).e=3:=by unfold fail;rw [if_pos c]
       rw [hle,many_stop k (.inr (by rw [e3];decide))]
       refine ⟨A.2.o,A.2.p,⟨rfl,fun h0=>absurd (e3.symm.trans h0) (by decide),fun h0=>absurd (e3.symm.trans h0) (by decide)⟩,fun R _ hR=>hb R ?_⟩
       obtain rfl:=hR (by rw [e3];decide)
       exact Ev.congr (fun k=>by unfold tail5;rw [if_pos rfl,if_neg (by show ¬ A.1 < 16;omega),if_pos (show A.1=16 from c16),if_pos (by omega),e3]) (Ev.now _)
      ·have hle:lengthen s l A.1 A.2=(l ++ List.replicate (3+(Inf.bits s 2 A.2).1).toNat (l.getD (l.length - 1) 0),(Inf.bits s 2 A.2).2):=by unfold lengthen;rw [if_pos c,if_pos c16,if_neg cl]
       rw [hle]
       obtain ⟨q2,E2,o',q,F1,F2⟩:=hrun (l.getD (l.length - 1) 0) 3 2 (by decide) (by decide) (by decide)
       refine ⟨o',q,F1,fun R h1 h2=>hb R ?_⟩
       have hrd:rd l ((l.length:Int) - 1)=l.getD (l.length - 1) 0:=by rw [show (l.length:Int) - 1=((l.length - 1:Nat):Int) by omega];rfl
       exact Ev.congr (fun k=>by unfold tail5;rw [if_pos rfl,if_neg (by show ¬ A.1 < 16;omega),if_pos (show A.1=16 from c16),if_neg (by omega),wrap_in (n:=(l.length:Int) - 1) (by omega) (by omega),if_pos (by omega),if_pos (by omega),hrd];rfl) (Ev.bind (f:=fun k b=>celluloidref05_lengths.j6 k s a own l all (l.getD (l.length - 1) 0) (wrap64 (b.1+3)) b.2.1 b.2.2.1 b.2.2.2) E2 (F2 R h1 h2))
     ·by_cases c17:A.1=17
      ·have hle:lengthen s l A.1 A.2=(l ++ List.replicate (3+(Inf.bits s 3 A.2).1).toNat 0,(Inf.bits s 3 A.2).2):=by unfold lengthen;rw [if_pos c,if_neg c16,if_pos c17]
       rw [hle]
       obtain ⟨q2,E2,o',q,F1,F2⟩:=hrun 0 3 3 (by decide) (by decide) (by decide)
       refine ⟨o',q,F1,fun R h1 h2=>hb R ?_⟩
       exact Ev.congr (fun k=>by unfold tail5;rw [if_pos rfl,if_neg (by show ¬ A.1 < 16;omega),if_neg (show ¬ A.1=16 from c16),if_pos (show A.1=17 from c17)];rfl) (Ev.bind (f:=fun k b=>celluloidref05_lengths.j6 k s a own l all 0 (wrap64 (b.1+3)) b.2.1 b.2.2.1 b.2.2.2) E2 (F2 R h1 h2))
      ·by_cases c18:A.1=18
       ·have hle:lengthen s l A.1 A.2=(l ++ List.replicate (11+(Inf.bits s 7 A.2).1).toNat 0,(Inf.bits s 7 A.2).2):=by unfold lengthen;rw [if_pos c,if_neg c16,if_neg c17,if_pos c18]
        rw [hle]
        obtain ⟨q2,E2,o',q,F1,F2⟩:=hrun 0 11 7 (by decide) (by decide) (by decide)
        refine ⟨o',q,F1,fun R h1 h2=>hb R ?_⟩
        exact Ev.congr (fun k=>by unfold tail5;rw [if_pos rfl,if_neg (by show ¬ A.1 < 16;omega),if_neg (show ¬ A.1=16 from c16),if_neg (show ¬ A.1=17 from c17),if_pos (show A.1=18 from c18)];rfl) (Ev.bind (f:=fun k b=>celluloidref05_lengths.j6 k s a own l all 0 (wrap64 (b.1+11)) b.2.1 b.2.2.1 b.2.2.2) E2 (F2 R h1 h2))
       ·have hle:lengthen s l A.1 A.2=(l ++ [A.1],A.2):=by unfold lengthen;rw [if_pos c,if_neg c16,if_neg c17,if_neg c18]
        rw [hle]
        rw [c] at R1
        obtain ⟨o',q,F1,F2⟩:=ih (l ++ [A.1]) A.2 A.2.o A.2.p 0 g1.1 R1 (ho' A.2) (fun _=>lleft A.2 (Int.le_refl _))
        refine ⟨o',q,F1,fun R h1 h2=>hb R ?_⟩
        exact Ev.congr (fun k=>by unfold tail5;rw [if_pos rfl,if_pos (by show A.1 < 16;omega),if_pos (by omega)]) (F2 R h1 h2)
    ·rw [lengthen_same c,many_stop k (.inr c)]
     refine ⟨o,q1,R1,fun R _ hR=>in_l1 hlen E1 ?_⟩
     obtain rfl:=hR c
     exact Ev.congr (fun k=>by unfold tail5;rw [if_neg c]) (stop_j8 c)
   ·rw [many_stop (k+1) (.inl hlen)]
    refine ⟨o,p,by rw [he];exact h,fun R hR _=>out_l1 (.inr hlen) (hR he)⟩
  ·rw [many_stop (k+1) (.inr he)]
   have h':=h.e
   subst h'
   exact ⟨o,p,h,fun R _ hR=>by rw [hR he];exact out_l1 (.inl he) (stop_j8 he)⟩
end Go.Proofs.Ytpbhkdamkbopkaa.Inf
namespace Go.Proofs.Ytpbhkdamkbopkaa.Inf
set_option linter.unusedSimpArgs false
set_option linter.unusedVariables false
open Go.RowKit Go.Proofs.Ytpbhkdamkbopkaa.Ext Go.Proofs.Ytpbhkdamkbopkaa.GInfr Go.Proofs.Ytpbhkdamkbopkaa.HuM Go.Proofs.YtpbhkdamkbopkaaW.PrintWords Go.Proofs.YtpbhkdamkbopkaaW.PrintLast Go.Proofs.YtpbhkdamkbopkaaW.PrintMore
theorem many_full {s:ByteArray} (hs:s.size≤140737488351232) (own:List Int) (all:Int):∀ (k:Nat) (l:List Int) (x:St),Ok s x → (x.e=0 → errOf own=0) → (x.e=0 → left s x≤k) → (many s own all k l x).2.e=0 → all≤((many s own all k l x).1.length:Int):=by
 intro k
 induction k with
 |zero =>
  intro l x hx he hk h
  have h0:x.e=0:=h
  have:=hk h0
  unfold left at this
  omega
 |succ k ih =>
  intro l x hx he hk h
  by_cases hl:(l.length:Int) < all
  ·by_cases hc:x.e=0
   ·have hm : many s own all (k + 1) l x = many s own all k (lengthen s l (Inf.next own s x).1 (Inf.next own s x).2).1 (lengthen s l (Inf.next own s x).1 (Inf.next own s x).2).2 := by
     show (if _ then _ else _)=_
     rw [if_pos hl,if_pos hc]
    rw [hm] at h ⊢
    have g1:=next_get (m:=(Inf.next own s x).1) (y:=(Inf.next own s x).2) hs hx he rfl
    generalize Inf.next own s x=A at *
    exact ih _ _ (lengthen_spec g1.1).1 (fun _=>he hc) (fun h0=>left_less (hk hc) rfl (Int.le_trans (g1.2.2.2.2.1 (lengthen_e h0)).2.1 (lengthen_spec g1.1).2.1) hx.p1) h
   ·rw [many_stop (k+1) (.inr hc)] at h
    exact absurd h hc
  ·rw [many_stop (k+1) (.inl hl)]
   exact Int.not_lt.1 hl
theorem fail_three {x:St} (h:x.e=0):(fail x 3).e=3:=by unfold fail;rw [if_pos h]
theorem rel_three {x:St} (h:x.e=0) (o:List Int) (p:Int):Rel (fail x 3) o p 3 :=
 ⟨(fail_three h).symm,fun h0=>absurd ((fail_three h).symm.trans h0) (by decide),fun h0=>absurd ((fail_three h).symm.trans h0) (by decide)⟩
theorem number5_is {s : ByteArray} {x : St} {o : List Int} {p e : Int} (hs : s.size ≤ 1000000) (hx : Ok s x) (h : Rel x o p e) :
  ∃ q,Ev (fun k=>celluloidref05_number.f k s o p e 5) ((bits s 5 x).1,o,q,(bits s 5 x).2.e)∧Rel (bits s 5 x).2 o q (bits s 5 x).2.e:=number_is 5 hs hx h (by decide)
theorem number4_is {s : ByteArray} {x : St} {o : List Int} {p e : Int} (hs : s.size ≤ 1000000) (hx : Ok s x) (h : Rel x o p e) :
  ∃ q,Ev (fun k=>celluloidref05_number.f k s o p e 4) ((bits s 4 x).1,o,q,(bits s 4 x).2.e)∧Rel (bits s 4 x).2 o q (bits s 4 x).2.e:=number_is 4 hs hx h (by decide)
theorem j0_is {s:ByteArray} {a b c p e:Int} {o:List Int} {R:List Int × List Int × List Int × Int × Int} (t:Bool) (h:Ev (fun k=>celluloidref05_lengths.j1 k s a b c o p (if t=true then 3 else e)) R):Ev (fun k=>celluloidref05_lengths.j0 k s a b c t o p e) R :=
 Ev.step (fun k=>by cases t <;> simp [celluloidref05_lengths.j0]) h
theorem head_is {s : ByteArray} {x : St} {o : List Int} {p e : Int} (hs : s.size ≤ 1000000) (hx : Ok s x) (h : Rel x o p e) :
  ∃ q,let a:=bits s 5 x;let b:=bits s 5 a.2;let c:=bits s 4 b.2;let x1:=if c.2.e=0∧(a.1+257 > 286 ∨ b.1+1 > 30) then fail c.2 3 else c.2
   (0≤a.1∧a.1 < 32)∧(0≤b.1∧b.1 < 32)∧(0≤c.1∧c.1≤15)∧Ok s x1∧Rel x1 o q x1.e∧∀ R,Ev (fun k=>celluloidref05_lengths.j1 k s a.1 b.1 c.1 o q x1.e) R → Ev (fun k=>celluloidref05_lengths.f k s o p e) R:=by
 obtain ⟨q1,E1,R1⟩:=number5_is hs hx h
 have g1:=bits_get (n:=5) (k:=5) (m:=(Inf.bits s 5 x).1) (y:=(Inf.bits s 5 x).2) rfl hx (by decide) rfl
 generalize Inf.bits s 5 x=a at *
 obtain ⟨q2,E2,R2⟩:=number5_is hs g1.1 R1
 have g2:=bits_get (n:=5) (k:=5) (m:=(Inf.bits s 5 a.2).1) (y:=(Inf.bits s 5 a.2).2) rfl g1.1 (by decide) rfl
 generalize hb:Inf.bits s 5 a.2=b at *
 obtain ⟨q3,E3,R3⟩:=number4_is hs g2.1 R2
 have g3:=bits_get (n:=4) (k:=4) (m:=(Inf.bits s 4 b.2).1) (y:=(Inf.bits s 4 b.2).2) rfl g2.1 (by decide) rfl
 generalize hc:Inf.bits s 4 b.2=c at *
 have l1:a.1 < 32:=g1.2.2.1
 have l2:b.1 < 32:=g2.2.2.1
 have l3:c.1 < 16:=g3.2.2.1
 refine ⟨q3,⟨g1.2.1,l1⟩,?_⟩
 simp only [hb,hc]
 refine ⟨⟨g2.2.1,l2⟩,⟨g3.2.1,by omega⟩,?_⟩
 have hf:∀ R,Ev (fun k=>if c.2.e=0 then (if a.1 > 29 then (celluloidref05_lengths.j0 k s a.1 b.1 c.1 true o q3 c.2.e) else (celluloidref05_lengths.j0 k s a.1 b.1 c.1 (decide (b.1 > 29)) o q3 c.2.e)) else (celluloidref05_lengths.j0 k s a.1 b.1 c.1 false o q3 c.2.e)) R → Ev (fun k=>celluloidref05_lengths.f k s o p e) R:=fun R hR=>by
  unfold celluloidref05_lengths.f
  exact Ev.bind E1 (Ev.bind E2 (Ev.bind E3 hR))
 by_cases cc:c.2.e=0∧(a.1+257 > 286 ∨ b.1+1 > 30)
 ·rw [if_pos cc]
  refine ⟨fail_ok g3.1 (by decide),by rw [fail_three cc.1];exact rel_three cc.1 o q3,fun R hR=>hf R ?_⟩
  rw [fail_three cc.1] at hR
  refine Ev.congr (f:=fun k=>celluloidref05_lengths.j0 k s a.1 b.1 c.1 true o q3 c.2.e) (fun k=>?_) (j0_is true hR)
  rw [if_pos cc.1]
  by_cases c29:a.1 > 29
  ·rw [if_pos c29]
  ·rw [if_neg c29,decide_eq_true (by omega)]
 ·rw [if_neg cc]
  refine ⟨g3.1,R3,fun R hR=>hf R ?_⟩
  refine Ev.congr (f:=fun k=>celluloidref05_lengths.j0 k s a.1 b.1 c.1 false o q3 c.2.e) (fun k=>?_) (j0_is false hR)
  by_cases ce:c.2.e=0
  ·have hn:¬ (a.1+257 > 286 ∨ b.1+1 > 30):=fun h=>cc ⟨ce,h⟩
   rw [if_pos ce,if_neg (by omega),decide_eq_false (by omega)]
  ·rw [if_neg ce]
theorem lengths_is {s : ByteArray} {x : St} {o : List Int} {p e : Int} (hs : s.size ≤ 1000000) (hx : Ok s x) (h : Rel x o p e) :
  ∃ row num o' q,Ev (fun k=>celluloidref05_lengths.f k s o p e) (row,num,o',q,(lengths s x).2.2.e)∧Rel (lengths s x).2.2 o' q (lengths s x).2.2.e∧row.take (num.headD 0).toNat=(lengths s x).1∧row.drop (num.headD 0).toNat=(lengths s x).2.1:=by
 obtain ⟨q1,hq⟩:=head_is hs hx h
 unfold Inf.lengths
 simp only at hq ⊢
 generalize Inf.bits s 5 x=a at *
 generalize Inf.bits s 5 a.2=b at *
 generalize Inf.bits s 4 b.2=c at *
 generalize (if c.2.e=0∧(a.1+257 > 286 ∨ b.1+1 > 30) then fail c.2 3 else c.2)=x1 at *
 obtain ⟨⟨a0,a1⟩,⟨b0,b1⟩,⟨c0,c1⟩,ok1,R1,J1⟩:=hq
 obtain ⟨p',F1,F2⟩:=owns_is (a:=a.1) (b:=b.1) hs c0 c1 o (c.1+4).toNat 0 (List.replicate 19 0) x1 q1 x1.e (by omega) (by simp) ok1 R1
 rw [List.drop_zero] at F1 F2
 have hwl:=owns_len s (order.take (c.1+4).toNat) (List.replicate 19 0) x1
 have hwo:=(owns_ok s (order.take (c.1+4).toNat) (List.replicate 19 0) x1 ok1).1
 rw [List.length_replicate] at hwl
 generalize Inf.owns s (order.take (c.1+4).toNat) (List.replicate 19 0) x1=w at *
 have J2:∀ R,Ev (fun k=>celluloidref05_lengths.j3 k s a.1 b.1 w.1 o p' (table w.1 w.2).e) R → Ev (fun k=>celluloidref05_lengths.f k s o p e) R:=fun R hR=>by
  refine J1 R (Ev.step (f:=fun k=>celluloidref05_lengths.l0 k s a.1 b.1 c.1 (List.replicate 19 0) [16,17,18,0,8,7,9,6,10,5,11,4,12,3,13,2,14,1,15] ((0:Nat):Int) o q1 x1.e) (fun k=>?_) (F2 R ?_))
  ·simp only [celluloidref05_lengths.j1]
   rw [if_pos (by decide)]
   rfl
  ·by_cases cw:w.2.e=0
   ·have ht:(table w.1 w.2).e=errOf w.1:=by unfold table fail;rw [if_pos cw]
    rw [ht] at hR
    exact Ev.congr (fun k=>if_pos cw) (Ev.bind (f:=fun k t=>celluloidref05_lengths.j3 k s a.1 b.1 w.1 o p' t) (RefA.referr_is w.1) hR)
   ·have ht:(table w.1 w.2).e=w.2.e:=by unfold table fail;rw [if_neg cw]
    rw [ht] at hR
    exact Ev.congr (fun k=>if_neg cw) hR
 have ok2:Ok s (table w.1 w.2):=table_ok hwo w.1
 have R2:Rel (table w.1 w.2) o p' (table w.1 w.2).e:=⟨rfl,fun h0=>by unfold table;rw [fail_o];exact F1.o (table_e h0).1,fun h0=>by unfold table;rw [fail_p];exact F1.p (table_e h0).1⟩
 have e2:(table w.1 w.2).e=0 → errOf w.1=0:=fun h0=>(table_e h0).2
 generalize table w.1 w.2=x2 at *
 have full:=many_full (s:=s) (by omega) w.1 (a.1+257+(b.1+1)) (left s x2) [] x2 ok2 e2 (fun _=>Nat.le_refl _)
 obtain ⟨o',q,G1,G2⟩:=many_is (a:=a.1) (all:=a.1+257+(b.1+1)) hs (by omega) hwl (left s x2) [] x2 o p' x2.e ok2 R2 e2 (fun _=>Nat.le_refl _)
 generalize many s w.1 (a.1+257+(b.1+1)) (left s x2) [] x2=z at *
 have J3:∀ R,Ev (fun k=>celluloidref05_lengths.l1 k s a.1 w.1 [] (a.1+257+(b.1+1)) o p' x2.e) R → Ev (fun k=>celluloidref05_lengths.f k s o p e) R:=fun R hR=>J2 R (Ev.step (fun k=>by
  simp only [celluloidref05_lengths.j3]
  rw [wrap_in (n:=a.1+b.1) (by omega) (by omega),wrap_in (n:=a.1+b.1+258) (by omega) (by omega),show a.1+b.1+258=a.1+257+(b.1+1) by omega]) hR)
 by_cases cz:z.2.e=0
 ·rw [if_pos cz]
  have hfull:=full cz
  have hrd:rd z.1 256=z.1.getD 256 0:=rfl
  by_cases cf:(z.1.length:Int) > a.1+257+(b.1+1) ∨ z.1.getD 256 0=0
  ·rw [if_pos cf]
   refine ⟨[],[],o',q,J3 _ (G2 _ (fun _=>?_) (fun h0=>absurd cz h0)),by rw [fail_three cz];exact rel_three cz o' q,rfl,rfl⟩
   rw [fail_three cz]
   refine Ev.step (f:=fun k=>celluloidref05_lengths.j9 k a.1 z.1 true o' q 0) (fun k=>?_) (Ev.step (f:=fun _=>some (([]:List Int),([]:List Int),o',q,3)) (fun k=>?_) (Ev.now _))
   ·simp only [celluloidref05_lengths.j8]
    rw [if_pos trivial]
    by_cases cl:(z.1.length:Int)=a.1+257+(b.1+1)
    ·have h0:z.1.getD 256 0=0:=cf.resolve_left (by omega)
     rw [if_pos cl,if_pos (by omega),hrd,h0]
     rfl
    ·rw [if_neg cl]
   ·simp only [celluloidref05_lengths.j9]
    rw [if_pos trivial,if_neg (by decide)]
  ·rw [if_neg cf]
   have hlen:(z.1.length:Int)=a.1+257+(b.1+1):=Int.le_antisymm (Int.not_lt.1 (fun h=>cf (.inl h))) hfull
   have hne:z.1.getD 256 0 ≠ 0:=fun h=>cf (.inr h)
   refine ⟨z.1,[a.1+257],o',q,J3 _ (G2 _ (fun _=>?_) (fun h0=>absurd cz h0)),G1,rfl,rfl⟩
   refine Ev.step (f:=fun k=>celluloidref05_lengths.j9 k a.1 z.1 false o' q 0) (fun k=>?_) (Ev.step (f:=fun _=>some (z.1,[a.1+257],o',q,z.2.e)) (fun k=>?_) (Ev.now _))
   ·simp only [celluloidref05_lengths.j8]
    rw [if_pos trivial,if_pos hlen,if_pos (by omega),hrd,beq_eq_false_iff_ne.mpr hne]
   ·simp only [celluloidref05_lengths.j9]
    rw [if_neg (by decide),if_pos trivial,wrap_in (n:=a.1+257) (by omega) (by omega),if_pos (by omega),if_pos (by omega),cz]
 ·rw [if_neg cz]
  exact ⟨[],[],o',q,J3 _ (G2 _ (fun h0=>absurd h0 cz) (fun _=>rfl)),G1,rfl,rfl⟩
theorem lencodes_is {s : ByteArray} {x : St} {o : List Int} {p e mx : Int} (hs : s.size ≤ 1000000) (hm : mx ≤ 262144) (hx : Ok s x) (h : Rel x o p e) (ho : (x.o.length : Int) ≤ mx) :
  ∃ o' q,Ev (fun k=>celluloidref05_lencodes.f k s o p e mx) (o',q,(both s mx (lengths s x).1 (lengths s x).2.1 (lengths s x).2.2).e)∧Rel (both s mx (lengths s x).1 (lengths s x).2.1 (lengths s x).2.2) o' q (both s mx (lengths s x).1 (lengths s x).2.1 (lengths s x).2.2).e:=by
 obtain ⟨row,num,o1,q1,E,R1,h1,h2⟩:=lengths_is hs hx h
 have a1:=Aft.lengths (mx:=mx) (by omega) hx
 obtain ⟨o',q,E2,R2⟩:=codes_is (la:=(lengths s x).1) (lb:=(lengths s x).2.1) hs hm a1.ok R1 (a1.o ho)
 refine ⟨o',q,?_,R2⟩
 rw [← h1,← h2] at E2
 unfold celluloidref05_lencodes.f
 rw [← h1,← h2]
 exact Ev.bind (f:=fun k q=>celluloidref05_codes.f k s q.2.2.1 q.2.2.2.1 q.2.2.2.2 mx (q.1.take (q.2.1.headD 0).toNat) (q.1.drop (q.2.1.headD 0).toNat)) E E2
/-- What is told at the end. -/
def fin (y:St):ByteArray × Int × Int:=if y.e=0 then (strOfNums y.o,(y.p+7) / 8,0) else (⟨#[]⟩,0,y.e)
theorem stop_raw {s:ByteArray} {mx last p e:Int} {o:List Int} {y:St} (hs:s.size≤1000000) (hy:Ok s y) (h:Rel y o p e) (hl:last ≠ 0 ∨ y.e ≠ 0):Ev (fun k=>celluloidref05_Raw.l0 k s mx last o p e) (fin y):=by
 refine Ev.step (f:=fun k=>celluloidref05_Raw.j2 k s mx false o p e) (fun k=>?_) (Ev.step (f:=fun _=>some (fin y)) (fun k=>?_) (Ev.now _))
 ·simp only [celluloidref05_Raw.l0]
  by_cases c:last=0
  ·rw [if_pos c,beq_eq_false_iff_ne.mpr (by rw [h.e];exact hl.resolve_left (fun h=>h c))]
  ·rw [if_neg c]
 ·simp only [celluloidref05_Raw.j2]
  rw [if_neg (by decide)]
  unfold fin
  by_cases c:y.e=0
  ·have hp:=hy.p0;have hp1:=hy.p1
   obtain rfl:=h.o c
   obtain rfl:=h.p c
   rw [if_pos (h.e.trans c),if_pos c,wrap_in (n:=y.p+7) (by omega) (by omega),Int.tdiv_eq_ediv_of_nonneg (by omega),wrap_in (n:=(y.p+7) / 8) (by omega) (by omega)]
  ·rw [if_neg (fun h0=>c (h.e.symm.trans h0)),if_neg c,h.e]
theorem kind_is {s : ByteArray} {mx last p : Int} {o : List Int} {b : Int × St} (hs : s.size ≤ 1000000) (hm0 : 0 ≤ mx) (hm : mx ≤ 262144) (hb : Ok s b.2) (h : Rel b.2 o p b.2.e) (he : b.2.e = 0) (ho : (b.2.o.length : Int) ≤ mx) (h0 : 0 ≤ b.1) (h4 : b.1 < 4) :
  ∃ y,y=(if b.1=0 then (if b.2.e=0 then stored s mx b.2 else b.2) else if b.1=1 then both s mx plainA plainB b.2 else if b.1=2 then both s mx (lengths s b.2).1 (lengths s b.2).2.1 (lengths s b.2).2.2 else fail b.2 3) ∧
  ∃ o' q,Rel y o' q y.e∧∀ R,Ev (fun k=>celluloidref05_Raw.l0 k s mx last o' q y.e) R →
   Ev (fun k=>if b.1=0 then ((celluloidref05_stored.f k s o p b.2.e mx).bind fun C=>celluloidref05_Raw.j3 k s mx last b.1 C.1 C.2.1 C.2.2) else celluloidref05_Raw.j3 k s mx last b.1 o p b.2.e) R:=by
 have hj4:∀ (o':List Int) (q E:Int) R,b.1 ≠ 2 → b.1 ≠ 3 → Ev (fun k=>celluloidref05_Raw.l0 k s mx last o' q E) R → Ev (fun k=>celluloidref05_Raw.j4 k s mx last b.1 o' q E) R:=fun o' q E R n2 n3 hR =>
  Ev.step (fun k=>by simp only [celluloidref05_Raw.j4];rw [if_neg n2,if_neg n3]) hR
 have hj3:∀ (o':List Int) (q E:Int) R,b.1 ≠ 1 → Ev (fun k=>celluloidref05_Raw.j4 k s mx last b.1 o' q E) R → Ev (fun k=>celluloidref05_Raw.j3 k s mx last b.1 o' q E) R:=fun o' q E R n1 hR =>
  Ev.step (fun k=>by simp only [celluloidref05_Raw.j3];rw [if_neg n1]) hR
 by_cases c0:b.1=0
 ·refine ⟨stored s mx b.2,by rw [if_pos c0,if_pos he],?_⟩
  obtain ⟨o',q,E,R1⟩:=stored_is hs hb h he hm0 hm (by omega)
  refine ⟨o',q,R1,fun R hR=>Ev.congr (fun k=>if_pos c0) (Ev.bind (f:=fun k C=>celluloidref05_Raw.j3 k s mx last b.1 C.1 C.2.1 C.2.2) E ?_)⟩
  exact hj3 _ _ _ _ (by omega) (hj4 _ _ _ _ (by omega) (by omega) hR)
 ·by_cases c1:b.1=1
  ·refine ⟨both s mx plainA plainB b.2,by rw [if_neg c0,if_pos c1],?_⟩
   obtain ⟨o',q,E,R1⟩:=codes_is (la:=plainA) (lb:=plainB) hs hm hb h ho
   refine ⟨o',q,R1,fun R hR=>Ev.congr (fun k=>if_neg c0) (Ev.step (f:=fun k=>(celluloidref05_Plain.f k).bind fun D=>(celluloidref05_codes.f k s o p b.2.e mx D.1 D.2).bind fun C=>celluloidref05_Raw.j4 k s mx last b.1 C.1 C.2.1 C.2.2) (fun k=>?_) (Ev.bind plain_is (Ev.bind (f:=fun k C=>celluloidref05_Raw.j4 k s mx last b.1 C.1 C.2.1 C.2.2) E ?_)))⟩
   ·simp only [celluloidref05_Raw.j3]
    rw [if_pos c1]
   ·exact hj4 _ _ _ _ (by omega) (by omega) hR
  ·by_cases c2:b.1=2
   ·refine ⟨both s mx (lengths s b.2).1 (lengths s b.2).2.1 (lengths s b.2).2.2,by rw [if_neg c0,if_neg c1,if_pos c2],?_⟩
    obtain ⟨o',q,E,R1⟩:=lencodes_is hs hm hb h ho
    refine ⟨o',q,R1,fun R hR=>Ev.congr (fun k=>if_neg c0) (hj3 _ _ _ _ c1 (Ev.step (f:=fun k=>(celluloidref05_lencodes.f k s o p b.2.e mx).bind fun C=>celluloidref05_Raw.l0 k s mx last C.1 C.2.1 C.2.2) (fun k=>?_) (Ev.bind (f:=fun k C=>celluloidref05_Raw.l0 k s mx last C.1 C.2.1 C.2.2) E hR)))⟩
    simp only [celluloidref05_Raw.j4]
    rw [if_pos c2]
    congr 1
    funext C
    rw [if_neg (by omega)]
   ·have c3:b.1=3:=by omega
    refine ⟨fail b.2 3,by rw [if_neg c0,if_neg c1,if_neg c2],?_⟩
    rw [fail_three he]
    refine ⟨o,p,rel_three he o p,fun R hR=>Ev.congr (fun k=>if_neg c0) (hj3 _ _ _ _ c1 (Ev.step (fun k=>?_) hR))⟩
    simp only [celluloidref05_Raw.j4]
    rw [if_neg c2,if_pos c3]
theorem blocks_is {s:ByteArray} {mx:Int} (hs:s.size≤1000000) (hm0:0≤mx) (hm:mx≤262144):∀ (k:Nat) (x:St) (o:List Int) (p:Int),Ok s x → Rel x o p 0 → (x.o.length:Int)≤mx → left s x≤k → Ev (fun j=>celluloidref05_Raw.l0 j s mx 0 o p 0) (fin (blocks s mx k x)):=by
 intro k
 induction k with
 |zero=>intro x o p hx h ho hk;unfold left at hk;omega
 |succ k ih =>
  intro x o p hx h ho hk
  have ab:=Aft.block (mx:=mx) (s:=s) (by omega) hx
  obtain ⟨q1,E1,R1⟩:∃ q,Ev (fun k=>celluloidref05_number.f k s o p 0 1) ((Inf.bits s 1 x).1,o,q,(Inf.bits s 1 x).2.e)∧Rel (Inf.bits s 1 x).2 o q (Inf.bits s 1 x).2.e:=number_is 1 hs hx h (by decide)
  have g1:=bits_get (n:=1) (k:=1) (m:=(Inf.bits s 1 x).1) (y:=(Inf.bits s 1 x).2) rfl hx (by decide) rfl
  obtain ⟨q2,E2,R2⟩:∃ q,Ev (fun k=>celluloidref05_number.f k s o q1 (Inf.bits s 1 x).2.e 2) ((Inf.bits s 2 (Inf.bits s 1 x).2).1,o,q,(Inf.bits s 2 (Inf.bits s 1 x).2).2.e)∧Rel (Inf.bits s 2 (Inf.bits s 1 x).2).2 o q (Inf.bits s 2 (Inf.bits s 1 x).2).2.e:=number_is 2 hs g1.1 R1 (by decide)
  have g2:=bits_get (n:=2) (k:=2) (m:=(Inf.bits s 2 (Inf.bits s 1 x).2).1) (y:=(Inf.bits s 2 (Inf.bits s 1 x).2).2) rfl g1.1 (by decide) rfl
  have gz:(Inf.bits s 2 (Inf.bits s 1 x).2).2.e ≠ 0 → (Inf.bits s 2 (Inf.bits s 1 x).2).1=0:=fun h=>tak_zero h
  have hbl:blocks s mx (k+1) x=if (block s mx x).1=true then (block s mx x).2 else if (block s mx x).2.e=0 then blocks s mx k (block s mx x).2 else (block s mx x).2:=rfl
  have hdef:block s mx x=(decide ((Inf.bits s 1 x).1=1),if (Inf.bits s 2 (Inf.bits s 1 x).2).1=0 then (if (Inf.bits s 2 (Inf.bits s 1 x).2).2.e=0 then stored s mx (Inf.bits s 2 (Inf.bits s 1 x).2).2 else (Inf.bits s 2 (Inf.bits s 1 x).2).2) else if (Inf.bits s 2 (Inf.bits s 1 x).2).1=1 then both s mx plainA plainB (Inf.bits s 2 (Inf.bits s 1 x).2).2 else if (Inf.bits s 2 (Inf.bits s 1 x).2).1=2 then both s mx (lengths s (Inf.bits s 2 (Inf.bits s 1 x).2).2).1 (lengths s (Inf.bits s 2 (Inf.bits s 1 x).2).2).2.1 (lengths s (Inf.bits s 2 (Inf.bits s 1 x).2).2).2.2 else fail (Inf.bits s 2 (Inf.bits s 1 x).2).2 3):=rfl
  rw [hbl]
  rw [hdef] at ab ⊢
  generalize Inf.bits s 1 x=a at *
  generalize Inf.bits s 2 a.2=b at *
  have hgo:∀ R,Ev (fun k=>if b.2.e=0 then (if b.1=0 then ((celluloidref05_stored.f k s o q2 b.2.e mx).bind fun C=>celluloidref05_Raw.j3 k s mx a.1 b.1 C.1 C.2.1 C.2.2) else celluloidref05_Raw.j3 k s mx a.1 b.1 o q2 b.2.e) else some ((⟨#[]⟩:ByteArray),0,b.2.e)) R → Ev (fun j=>celluloidref05_Raw.l0 j s mx 0 o p 0) R:=fun R hR =>
   Ev.step (f:=fun k=>celluloidref05_Raw.j2 k s mx true o p 0) (fun k=>by simp only [celluloidref05_Raw.l0];rw [if_pos trivial];rfl)
    (Ev.step (f:=fun k=>(celluloidref05_number.f k s o p 0 1).bind fun A=>(celluloidref05_number.f k s A.2.1 A.2.2.1 A.2.2.2 2).bind fun B=>if B.2.2.2=0 then (if B.1=0 then ((celluloidref05_stored.f k s B.2.1 B.2.2.1 B.2.2.2 mx).bind fun C=>celluloidref05_Raw.j3 k s mx A.1 B.1 C.1 C.2.1 C.2.2) else celluloidref05_Raw.j3 k s mx A.1 B.1 B.2.1 B.2.2.1 B.2.2.2) else some ((⟨#[]⟩:ByteArray),0,B.2.2.2)) (fun k=>by simp only [celluloidref05_Raw.j2];rw [if_pos trivial]) (Ev.bind E1 (Ev.bind E2 hR)))
  have a2:a.1 < 2:=g1.2.2.1
  have b4:b.1 < 4:=g2.2.2.1
  by_cases cb:b.2.e=0
  ·have ho2:b.2.o=x.o:=g2.2.2.2.1.trans g1.2.2.2.1
   obtain ⟨y,hy,o',q,R3,J⟩:=kind_is (last:=a.1) (p:=q2) (o:=o) hs hm0 hm g2.1 R2 cb (by rw [ho2];exact ho) g2.2.1 b4
   rw [← hy] at ab ⊢
   have hJ:∀ R,Ev (fun k=>celluloidref05_Raw.l0 k s mx a.1 o' q y.e) R → Ev (fun j=>celluloidref05_Raw.l0 j s mx 0 o p 0) R:=fun R hR=>hgo R (Ev.congr (fun k=>if_pos cb) (J R hR))
   by_cases ca:a.1=1
   ·rw [if_pos (decide_eq_true ca)]
    exact hJ _ (stop_raw hs ab.1.ok R3 (.inl (by omega)))
   ·rw [if_neg (by simpa using ca)]
    have ca0:a.1=0:=by have:=g1.2.1;omega
    rw [ca0] at hJ
    by_cases cy:y.e=0
    ·rw [if_pos cy]
     rw [cy] at hJ R3
     exact hJ _ (ih y o' q ab.1.ok R3 (ab.1.o ho) (left_less hk rfl (ab.2 cy) hx.p1))
    ·rw [if_neg cy]
     exact hJ _ (stop_raw hs ab.1.ok R3 (.inr cy))
  ·have c0:=gz cb
   rw [if_pos c0,if_neg cb]
   have hz:(if decide (a.1=1)=true then b.2 else if b.2.e=0 then blocks s mx k b.2 else b.2)=b.2:=by
    rw [if_neg cb];split <;> rfl
   refine (show ∀ z,z=b.2 → Ev (fun j=>celluloidref05_Raw.l0 j s mx 0 o p 0) (fin z) from fun z hz=>?_) _ hz
   rw [hz]
   refine hgo _ (Ev.congr (fun k=>?_) (Ev.now _))
   rw [if_neg cb]
   unfold fin
   rw [if_neg cb]
/-- The reference's reader tells what the program's does. -/
theorem refraw_is (s:ByteArray) (mx:Int) (hs:s.size≤1000000):Ev (fun k=>celluloidref05_Raw.f k s mx) (raw s mx):=by
 unfold raw
 by_cases c:mx < 0 ∨ mx > 262144
 ·rw [if_pos c]
  refine Ev.congr (f:=fun k=>celluloidref05_Raw.j0 k s mx true) (fun k=>?_) (Ev.step (f:=fun _=>some ((⟨#[]⟩:ByteArray),0,1)) (fun k=>?_) (Ev.now _))
  ·unfold celluloidref05_Raw.f
   by_cases c1:mx < 0
   ·rw [if_pos c1]
   ·rw [if_neg c1,decide_eq_true (c.resolve_left c1)]
  ·simp only [celluloidref05_Raw.j0]
   rw [if_pos trivial]
 ·rw [if_neg c]
  have hm0:0≤mx:=Int.not_lt.1 (fun h=>c (.inl h))
  have hm:mx≤262144:=Int.not_lt.1 (fun h=>c (.inr h))
  refine Ev.congr (f:=fun k=>celluloidref05_Raw.j0 k s mx false) (fun k=>?_) (Ev.step (f:=fun k=>celluloidref05_Raw.l0 k s mx 0 [] 0 0) (fun k=>?_) ?_)
  ·unfold celluloidref05_Raw.f
   rw [if_neg (by omega),decide_eq_false (by omega)]
  ·simp only [celluloidref05_Raw.j0]
   rw [if_neg (by decide)]
  ·exact blocks_is hs hm0 hm (8*s.size+2) ⟨0,[],0⟩ [] 0 ⟨by decide,by show (0:Int)≤8*s.size;omega,.inl rfl⟩ ⟨rfl,fun _=>rfl,fun _=>rfl⟩ hm0 (by unfold left;show (8*(s.size:Int)+1 - 0).toNat+1≤_;omega)
end Go.Proofs.Ytpbhkdamkbopkaa.Inf
namespace Go.Proofs.Ytpbhkdamkbopkaa.Pure
set_option linter.unusedSimpArgs false
set_option linter.unusedVariables false
open Go.RowKit Go.Proofs.Ytpbhkdamkbopkaa.Ext Go.Proofs.Ytpbhkdamkbopkaa.GOpn Go.Proofs.Ytpbhkdamkbopkaa.GEnds Go.Proofs.Ytpbhkdamkbopkaa.GInfr Go.Proofs.Ytpbhkdamkbopkaa.Wr2 Go.Proofs.Ytpbhkdamkbopkaa.Inf Go.Proofs.YtpbhkdamkbopkaaW.PrintWords Go.Proofs.YtpbhkdamkbopkaaW.PrintLast Go.Proofs.YtpbhkdamkbopkaaW.PrintMore
def sumOf (s:ByteArray):Int:=ASumO.fin (ASumO.run (1,0) (ASumO.bts s))
/-- What wrapped bytes are. -/
def opn (s:ByteArray) (mx:Int):ByteArray × Int :=
 if mx < 0 ∨ mx > 262144 then (⟨#[]⟩,1) else if s.size < 2 then (⟨#[]⟩,2)
 else if bt s 0 % 16=8∧bt s 0 / 16≤7∧(bt s 0*256+bt s 1) % 31=0∧bt s 1 / 32 % 2=0 then
  (if (raw (s.extract 2 s.size) mx).2.2=0 then
   (if (s.extract (2+(raw (s.extract 2 s.size) mx).2.1).toNat s.size).size < 4 then (⟨#[]⟩,2)
   else if bt (s.extract (2+(raw (s.extract 2 s.size) mx).2.1).toNat s.size) 0*16777216+bt (s.extract (2+(raw (s.extract 2 s.size) mx).2.1).toNat s.size) 1*65536+bt (s.extract (2+(raw (s.extract 2 s.size) mx).2.1).toNat s.size) 2*256+bt (s.extract (2+(raw (s.extract 2 s.size) mx).2.1).toNat s.size) 3=sumOf (raw (s.extract 2 s.size) mx).1 then
    (if (s.extract (2+(raw (s.extract 2 s.size) mx).2.1).toNat s.size).size > 4 then (⟨#[]⟩,3) else ((raw (s.extract 2 s.size) mx).1,0))
   else (⟨#[]⟩,5))
  else (⟨#[]⟩,(raw (s.extract 2 s.size) mx).2.2))
 else (⟨#[]⟩,3)
theorem raw_end {s:ByteArray} {mx:Int} (hs:s.size≤1000000) (hm0:0≤mx) (hm:mx≤262144) (h:(raw s mx).2.2=0):0≤(raw s mx).2.1∧(raw s mx).2.1≤s.size∧(raw s mx).1.size≤262144:=by
 unfold raw at h ⊢
 rw [if_neg (by omega)] at h ⊢
 have a:=Aft.blocks (s:=s) (mx:=mx) (by omega) (8*s.size+2) ⟨0,[],0⟩ ⟨by decide,by show (0:Int)≤8*s.size;omega,.inl rfl⟩
 simp only at h ⊢
 generalize blocks s mx (8*s.size+2) ⟨0,[],0⟩=x at *
 by_cases c:x.e=0
 ·rw [if_pos c]
  have h0:=a.ok.p0;have h1:=a.ok.p1
  have h2:=a.o hm0
  refine ⟨by show 0≤(x.p+7) / 8;omega,by show (x.p+7) / 8≤_;omega,?_⟩
  show (strOfNums x.o).size≤_
  rw [strOfNums_size]
  omega
 ·rw [if_neg c] at h
  exact absurd h c
theorem and15:∀ n:Nat,n < 256 → Go.bits .and .u8 (n:Int) 15=(n:Int) % 16:=by decide +kernel
theorem and32:∀ n:Nat,n < 256 → (Go.bits .and .u8 (n:Int) 32=0 ↔ (n:Int) / 32 % 2=0):=by decide +kernel
theorem wrap40 (n:Int) (h0:0≤n) (h1:n < 2 ^ 40):IntKind.i64.wrap n=n:=by
 rw [IntKind.wrap_i64]
 have:(2:Int) ^ 40=1099511627776:=by decide
 omega
theorem or_two (b0 b1:Int) (h0:0≤b0∧b0≤255) (h1:0≤b1∧b1≤255):Go.bits .or .i64 (wrap64 (wrap64 b0*256)) (wrap64 b1)=b0*256+b1:=by
 rw [wrap_in (n:=b0) (by omega) (by omega),wrap_in (n:=b1) (by omega) (by omega),wrap_in (n:=b0*256) (by omega) (by omega)]
 rw [Go.bits_join .i64 40 (by decide) wrap40 8 (b0*256) b1 (by omega) (by omega) (by omega) (by omega) (by omega) (by omega)]
theorem or_four (b0 b1 b2 b3 : Int) (h0 : 0 ≤ b0 ∧ b0 ≤ 255) (h1 : 0 ≤ b1 ∧ b1 ≤ 255) (h2 : 0 ≤ b2 ∧ b2 ≤ 255) (h3 : 0 ≤ b3 ∧ b3 ≤ 255) :
  Go.bits .or .i64 (Go.bits .or .i64 (Go.bits .or .i64 (wrap64 (wrap64 b0*16777216)) (wrap64 (wrap64 b1*65536))) (wrap64 (wrap64 b2*256))) (wrap64 b3)=b0*16777216+b1*65536+b2*256+b3:=by
 rw [wrap_in (n:=b0) (by omega) (by omega),wrap_in (n:=b1) (by omega) (by omega),wrap_in (n:=b2) (by omega) (by omega),wrap_in (n:=b3) (by omega) (by omega),
  wrap_in (n:=b0*16777216) (by omega) (by omega),wrap_in (n:=b1*65536) (by omega) (by omega),wrap_in (n:=b2*256) (by omega) (by omega)]
 rw [Go.bits_join .i64 40 (by decide) wrap40 24 (b0*16777216) (b1*65536) (by omega) (by omega) (by omega) (by omega) (by omega) (by omega)]
 rw [Go.bits_join .i64 40 (by decide) wrap40 16 (b0*16777216+b1*65536) (b2*256) (by omega) (by omega) (by omega) (by omega) (by omega) (by omega)]
 rw [Go.bits_join .i64 40 (by decide) wrap40 8 (b0*16777216+b1*65536+b2*256) b3 (by omega) (by omega) (by omega) (by omega) (by omega) (by omega)]
theorem openprog_is (s:ByteArray) (mx:Int) (hs:s.size≤1000000) (k:Nat) (hk:262144 < k):inflate_Open.f (k+1) s mx=some (opn s mx):=by
 unfold inflate_Open.f opn
 by_cases c:mx < 0 ∨ mx > 262144
 ·rw [if_pos c]
  have:(if mx < 0 then inflate_Open.j0 (k+1) s mx true else inflate_Open.j0 (k+1) s mx (decide (mx > 262144)))=inflate_Open.j0 (k+1) s mx true:=by
   by_cases c1:mx < 0
   ·rw [if_pos c1]
   ·rw [if_neg c1,decide_eq_true (c.resolve_left c1)]
  rw [this,inflate_Open.j0,if_pos rfl]
 ·rw [if_neg c,if_neg (by omega),decide_eq_false (by omega),inflate_Open.j0,if_neg (by decide)]
  have hm0:0≤mx:=Int.not_lt.1 (fun h=>c (.inl h))
  have hm:mx≤262144:=Int.not_lt.1 (fun h=>c (.inr h))
  by_cases c2:s.size < 2
  ·rw [if_pos (by omega),if_pos c2]
  ·rw [if_neg (by omega),if_neg c2,if_pos (by omega)]
   have r0:=bt_range s 0
   have r1:=bt_range s 1
   have e15:=and15 (bt s 0).toNat (by omega)
   have e32:=and32 (bt s 1).toNat (by omega)
   rw [Int.toNat_of_nonneg r0.1] at e15
   rw [Int.toNat_of_nonneg r1.1] at e32
   rw [e15]
   by_cases d0:bt s 0 % 16=8
   ·rw [if_pos d0]
    by_cases d1:bt s 0 / 16≤7
    ·rw [if_neg (by omega),if_pos (by omega),or_two _ _ r0 r1,Int.tmod_eq_emod_of_nonneg (by omega)]
     by_cases d2:(bt s 0*256+bt s 1) % 31=0
     ·rw [if_pos d2]
      by_cases d3:bt s 1 / 32 % 2=0
      ·have hz:(s.extract 2 s.size).size=s.size - 2:=by rw [ByteArray.size_extract];omega
       have hr:inflate_Raw.f (s.extract 2 s.size) mx=some (raw (s.extract 2 s.size) mx):=by unfold inflate_Raw.f;rw [if_pos (by omega)]
       have hd:bt s 0 % 16=8∧bt s 0 / 16≤7∧(bt s 0*256+bt s 1) % 31=0∧bt s 1 / 32 % 2=0:=⟨d0,d1,d2,d3⟩
       rw [if_pos (e32.2 d3),if_pos hd,if_pos (by omega),hr,Option.bind_some]
       have he:=raw_end (s:=s.extract 2 s.size) (mx:=mx) (by omega) hm0 hm
       generalize raw (s.extract 2 s.size) mx=r at *
       by_cases d4:r.2.2=0
       ·obtain ⟨h0,h1,h2⟩:=he d4
        rw [if_pos d4,if_pos d4,wrap_in (n:=2+r.2.1) (by omega) (by omega),if_pos (by omega),if_pos (by omega)]
        have hq:=fun i=>bt_range (s.extract (2+r.2.1).toNat s.size) i
        generalize s.extract (2+r.2.1).toNat s.size=q at *
        by_cases d5:q.size < 4
        ·rw [if_pos (by omega),if_pos d5]
        ·rw [if_neg (by omega),if_neg d5,if_pos (by omega),if_pos (by omega),if_pos (by omega),if_pos (by omega),ASumO.sum_is r.1 (by omega) k (by omega),Option.bind_some,or_four _ _ _ _ (hq 0) (hq 1) (hq 2) (hq 3)]
         show (if _=sumOf r.1 then _ else _)=_
         by_cases d6:bt q 0*16777216+bt q 1*65536+bt q 2*256+bt q 3=sumOf r.1
         ·rw [if_pos d6,if_pos d6]
          by_cases d7:q.size > 4
          ·rw [if_pos (by omega),if_pos d7]
          ·rw [if_neg (by omega),if_neg d7]
         ·rw [if_neg d6,if_neg d6]
       ·rw [if_neg d4,if_neg d4]
      ·rw [if_neg (fun h=>d3 (e32.1 h)),if_neg (fun h=>d3 h.2.2.2)]
     ·rw [if_neg d2,if_neg (fun h=>d2 h.2.2.1)]
    ·rw [if_pos (by omega),if_neg (fun h=>d1 h.2.1)]
   ·rw [if_neg d0,if_neg (fun h=>d0 h.1)]
theorem openref_is (s:ByteArray) (mx:Int) (hs:s.size≤1000000):Ev (fun k=>celluloidref05_Open.f k s mx) (opn s mx):=by
 unfold opn
 by_cases c:mx < 0 ∨ mx > 262144
 ·rw [if_pos c]
  refine Ev.congr (f:=fun k=>celluloidref05_Open.j0 k s mx true) (fun k=>?_) (Ev.step (f:=fun _=>some ((⟨#[]⟩:ByteArray),1)) (fun k=>?_) (Ev.now _))
  ·unfold celluloidref05_Open.f
   by_cases c1:mx < 0
   ·rw [if_pos c1]
   ·rw [if_neg c1,decide_eq_true (c.resolve_left c1)]
  ·simp only [celluloidref05_Open.j0]
   rw [if_pos trivial]
 ·rw [if_neg c]
  have hm0:0≤mx:=Int.not_lt.1 (fun h=>c (.inl h))
  have hm:mx≤262144:=Int.not_lt.1 (fun h=>c (.inr h))
  have hf:∀ R,Ev (fun k=>celluloidref05_Open.j0 k s mx false) R → Ev (fun k=>celluloidref05_Open.f k s mx) R:=fun R hR=>Ev.congr (fun k=>by
   unfold celluloidref05_Open.f
   rw [if_neg (by omega),decide_eq_false (by omega)]) hR
  refine hf _ ?_
  by_cases c2:s.size < 2
  ·rw [if_pos c2]
   exact Ev.step (f:=fun _=>some ((⟨#[]⟩:ByteArray),2)) (fun k=>by simp only [celluloidref05_Open.j0];rw [if_neg (by decide),if_pos (by omega)]) (Ev.now _)
  ·rw [if_neg c2]
   have r0:=bt_range s 0
   have r1:=bt_range s 1
   have w0:wrap64 (bt s 0)=bt s 0:=wrap_in (by omega) (by omega)
   have w1:wrap64 (bt s 1)=bt s 1:=wrap_in (by omega) (by omega)
   have x0:Int.tmod (bt s 0) 16=bt s 0 % 16:=Int.tmod_eq_emod_of_nonneg r0.1
   have x1:wrap64 (Int.tdiv (bt s 0) 16)=bt s 0 / 16:=by rw [Int.tdiv_eq_ediv_of_nonneg r0.1,wrap_in (by omega) (by omega)]
   have x2:Int.tmod (wrap64 (wrap64 (256*bt s 0)+bt s 1)) 31=(bt s 0*256+bt s 1) % 31:=by
    rw [wrap_in (n:=256*bt s 0) (by omega) (by omega),wrap_in (n:=256*bt s 0+bt s 1) (by omega) (by omega),Int.tmod_eq_emod_of_nonneg (by omega),Int.mul_comm]
   have x3:Int.tmod (wrap64 (Int.tdiv (bt s 1) 32)) 2=bt s 1 / 32 % 2:=by
    rw [Int.tdiv_eq_ediv_of_nonneg r1.1,wrap_in (n:=bt s 1 / 32) (by omega) (by omega),Int.tmod_eq_emod_of_nonneg (by omega)]
   have hb:Ev (fun k=>celluloidref05_Open.j1 k s mx true) ((⟨#[]⟩:ByteArray),3):=Ev.step (f:=fun _=>some ((⟨#[]⟩:ByteArray),3)) (fun k=>by simp only [celluloidref05_Open.j1];rw [if_pos trivial]) (Ev.now _)
   have hg:∀ (t:Bool) R,t=(!decide (bt s 0 % 16=8∧bt s 0 / 16≤7∧(bt s 0*256+bt s 1) % 31=0∧bt s 1 / 32 % 2=0)) → Ev (fun k=>celluloidref05_Open.j1 k s mx t) R → Ev (fun k=>celluloidref05_Open.j0 k s mx false) R:=fun t R ht hR=>Ev.step (fun k=>by
    simp only [celluloidref05_Open.j0]
    rw [if_neg (by decide),if_neg (by omega),if_pos (by omega),if_pos (by omega),w0,w1,x0,x1,x2,x3,ht]
    by_cases d0:bt s 0 % 16=8
    ·rw [if_pos d0]
     by_cases d1:bt s 0 / 16≤7
     ·rw [if_neg (by omega)]
      by_cases d2:(bt s 0*256+bt s 1) % 31=0
      ·rw [if_pos d2]
       by_cases d3:bt s 1 / 32 % 2=0
       ·rw [d3,decide_eq_true ⟨d0,d1,d2,rfl⟩];rfl
       ·rw [decide_eq_false (fun h=>d3 h.2.2.2),show bt s 1 / 32 % 2=1 by omega];rfl
      ·rw [if_neg d2,decide_eq_false (fun h=>d2 h.2.2.1)];rfl
     ·rw [if_pos (by omega),decide_eq_false (fun h=>d1 h.2.1)];rfl
    ·rw [if_neg d0,decide_eq_false (fun h=>d0 h.1)];rfl) hR
   by_cases d:bt s 0 % 16=8∧bt s 0 / 16≤7∧(bt s 0*256+bt s 1) % 31=0∧bt s 1 / 32 % 2=0
   ·rw [if_pos d]
    have hz:(s.extract 2 s.size).size=s.size - 2:=by rw [ByteArray.size_extract];omega
    have hr:=refraw_is (s.extract 2 s.size) mx (by omega)
    have he:=raw_end (s:=s.extract 2 s.size) (mx:=mx) (by omega) hm0 hm
    refine hg false _ (by rw [decide_eq_true d];rfl) ?_
    generalize raw (s.extract 2 s.size) mx=r at *
    refine Ev.step (f:=fun k=>(celluloidref05_Raw.f k (s.extract 2 s.size) mx).bind fun r=>if r.2.2=0 then (if 0≤wrap64 (2+r.2.1) then (if wrap64 (2+r.2.1)≤(s.size:Int) then (if ((s.extract (wrap64 (2+r.2.1):Int).toNat s.size).size:Int) < 4 then some ((⟨#[]⟩:ByteArray),2) else celluloidref05_Open.l0 k r.1 (s.extract (wrap64 (2+r.2.1):Int).toNat s.size) 0 0) else none) else none) else some ((⟨#[]⟩:ByteArray),r.2.2)) (fun k=>by
     simp only [celluloidref05_Open.j1];rw [if_neg (by decide),if_pos (by omega)]) (Ev.bind hr ?_)
    by_cases d4:r.2.2=0
    ·obtain ⟨h0,h1,h2⟩:=he d4
     rw [if_pos d4]
     refine Ev.congr (f:=fun k=>if (s.extract (2+r.2.1).toNat s.size).size < 4 then some ((⟨#[]⟩:ByteArray),2) else celluloidref05_Open.l0 k r.1 (s.extract (2+r.2.1).toNat s.size) 0 0) (fun k=>?_) ?_
     ·rw [if_pos d4,wrap_in (n:=2+r.2.1) (by omega) (by omega),if_pos (by omega),if_pos (by omega)]
      by_cases d5:(s.extract (2+r.2.1).toNat s.size).size < 4
      ·rw [if_pos d5,if_pos (by omega)]
      ·rw [if_neg d5,if_neg (by omega)]
     have hq:=fun i=>bt_range (s.extract (2+r.2.1).toNat s.size) i
     generalize s.extract (2+r.2.1).toNat s.size=q at *
     by_cases d5:q.size < 4
     ·rw [if_pos d5]
      exact Ev.congr (fun k=>if_pos d5) (Ev.now _)
     ·rw [if_neg d5]
      refine Ev.congr (fun k=>if_neg d5) ?_
      have q0:=hq 0;have q1:=hq 1;have q2:=hq 2;have q3:=hq 3
      have step:∀ (i:Nat) (a:Int) R,i < 4 → 0≤a → a≤1099511627776 → Ev (fun k=>celluloidref05_Open.l0 k r.1 q (256*a+bt q i) ((i+1:Nat):Int)) R → Ev (fun k=>celluloidref05_Open.l0 k r.1 q a (i:Int)) R:=fun i a R hi ha0 ha1 hR=>Ev.step (fun k=>by
       have hqi:=hq i
       simp only [celluloidref05_Open.l0]
       rw [if_pos (by omega),if_pos (by omega),if_pos (by omega),wrap_in (n:=256*a) (by omega) (by omega),wrap_in (n:=bt q i) (by omega) (by omega),wrap_in (n:=256*a+bt q i) (by omega) (by omega),wrap_in (n:=(i:Int)+1) (by omega) (by omega)]
       rfl) hR
      have e0:(256*(256*(256*(256*0+bt q 0)+bt q 1)+bt q 2)+bt q 3)=bt q 0*16777216+bt q 1*65536+bt q 2*256+bt q 3:=by omega
      refine step 0 0 _ (by decide) (by decide) (by decide) (step 1 (256*0+bt q 0) _ (by decide) (by omega) (by omega) (step 2 (256*(256*0+bt q 0)+bt q 1) _ (by decide) (by omega) (by omega) (step 3 (256*(256*(256*0+bt q 0)+bt q 1)+bt q 2) _ (by decide) (by omega) (by omega) ?_)))
      show Ev (fun k=>celluloidref05_Open.l0 k r.1 q (256*(256*(256*(256*0+bt q 0)+bt q 1)+bt q 2)+bt q 3) 4) _
      rw [e0]
      have hsum:Ev (fun k=>celluloidref03_Sum.f k r.1) (sumOf r.1):=⟨r.1.size+1,fun k hk=>ASumO.ref_sum r.1 (by omega) k (by omega)⟩
      refine Ev.step (f:=fun k=>(celluloidref03_Sum.f k r.1).bind fun t=>if bt q 0*16777216+bt q 1*65536+bt q 2*256+bt q 3=t then (if (q.size:Int) > 4 then some ((⟨#[]⟩:ByteArray),3) else some (r.1,0)) else some ((⟨#[]⟩:ByteArray),5)) (fun k=>by simp only [celluloidref05_Open.l0];rw [if_neg (by decide)]) (Ev.bind hsum ?_)
      by_cases d6:bt q 0*16777216+bt q 1*65536+bt q 2*256+bt q 3=sumOf r.1
      ·rw [if_pos d6,if_pos d6]
       by_cases d7:q.size > 4
       ·rw [if_pos d7];exact Ev.congr (fun k=>if_pos (by omega)) (Ev.now _)
       ·rw [if_neg d7];exact Ev.congr (fun k=>if_neg (by omega)) (Ev.now _)
      ·rw [if_neg d6,if_neg d6]
       exact Ev.now _
    ·rw [if_neg d4]
     exact Ev.congr (fun k=>if_neg d4) (Ev.now _)
   ·rw [if_neg d]
    exact hg true _ (by rw [decide_eq_false d];rfl) hb
theorem opens_awake20:celluloidlaw05_awake.f 20=some true:=by kernel_rfl
theorem opens_awake (k:Nat):celluloidlaw05_awake.f (20+k)=some true:=by
 induction k with
 |zero=>exact opens_awake20
 |succ k ih=>exact celluloidlaw05_awake.mono _ _ ih
theorem InflateOpens:celluloidlaw05_InflateOpens.Pure:=by
 intro a0 a1 h0 hw
 by_cases c0:(a0.size:Int) > 1024
 ·refine ⟨20,?_⟩
  unfold celluloidlaw05_InflateOpens.f
  rw [if_pos c0,opens_awake20];rfl
 ·obtain ⟨K,hK⟩:=openref_is a0 a1 (by omega)
  refine ⟨20+(262144+K)+1,?_⟩
  have h1:=openprog_is a0 a1 (by omega) (20+(262144+K)) (by omega)
  have h2:celluloidref05_Open.f (20+(262144+K)+1) a0 a1=some (opn a0 a1):=hK _ (by omega)
  unfold celluloidlaw05_InflateOpens.f
  rw [if_neg c0,h1,Option.bind_some,h2,Option.bind_some,if_pos rfl,if_pos rfl,(show celluloidlaw05_awake.f (20+(262144+K)+1)=some true from opens_awake (262144+K+1))];rfl
end Go.Proofs.Ytpbhkdamkbopkaa.Pure
namespace Go.Proofs.Ytpbhkdamkbopkaa.Head
open Go
set_option maxRecDepth 100000
theorem order : Try.prog.initOrder = "harness a7c15820a2cb1018fe4759f7c25c13e6d005c23fb6069a0d0dcc8b91bc198833 cut at celluloid/celluloidlaw04.HuffCodes celluloid/celluloidlaw04.HuffReads celluloid/celluloidlaw04.HuffBack celluloid/celluloidlaw04.HuffFull celluloid/celluloidlaw04.HuffBits celluloid/celluloidlaw06.DeflateRuns celluloid/celluloidlaw06.DeflateFinds celluloid/celluloidlaw06.DeflatePlain celluloid/celluloidlaw06.DeflateRaw celluloid/celluloidlaw05.InflateRaw celluloid/celluloidlaw05.InflateOpens celluloid/celluloidlaw05.InflateStored celluloid/celluloidlaw05.InflateEnds celluloid/celluloidlaw05.InflateBlocks celluloid/celluloidlaw06.DeflateBack celluloid/celluloidlaw06.DeflateLong celluloid/celluloidlaw11.PixelPuts celluloid/celluloidlaw11.PixelTakes celluloid/celluloidlaw11.PixelAgain celluloid/celluloidlaw11.PixelPoints celluloid/celluloidlaw11.PixelTable celluloid/celluloidlaw11.PixelNames" := by kernel_rfl
/-- The signs behind the third word. -/
def rest:List Char:=['a','t',' ','c','e','l','l','u','l','o','i','d','/','c','e','l','l','u','l','o','i','d','l','a','w','0','4','.','H','u','f','f','C','o','d','e','s',' ','c','e','l','l','u','l','o','i','d','/','c','e','l','l','u','l','o','i','d','l','a','w','0','4','.','H','u','f','f','R','e','a','d','s',' ','c','e','l','l','u','l','o','i','d','/','c','e','l','l','u','l','o','i','d','l','a','w','0','4','.','H','u','f','f','B','a','c','k',' ','c','e','l','l','u','l','o','i','d','/','c','e','l','l','u','l','o','i','d','l','a','w','0','4','.','H','u','f','f','F','u','l','l',' ','c','e','l','l','u','l','o','i','d','/','c','e','l','l','u','l','o','i','d','l','a','w','0','4','.','H','u','f','f','B','i','t','s',' ','c','e','l','l','u','l','o','i','d','/','c','e','l','l','u','l','o','i','d','l','a','w','0','6','.','D','e','f','l','a','t','e','R','u','n','s',' ','c','e','l','l','u','l','o','i','d','/','c','e','l','l','u','l','o','i','d','l','a','w','0','6','.','D','e','f','l','a','t','e','F','i','n','d','s',' ','c','e','l','l','u','l','o','i','d','/','c','e','l','l','u','l','o','i','d','l','a','w','0','6','.','D','e','f','l','a','t','e','P','l','a','i','n',' ','c','e','l','l','u','l','o','i','d','/','c','e','l','l','u','l','o','i','d','l','a','w','0','6','.','D','e','f','l','a','t','e','R','a','w',' ','c','e','l','l','u','l','o','i','d','/','c','e','l','l','u','l','o','i','d','l','a','w','0','5','.','I','n','f','l','a','t','e','R','a','w',' ','c','e','l','l','u','l','o','i','d','/','c','e','l','l','u','l','o','i','d','l','a','w','0','5','.','I','n','f','l','a','t','e','O','p','e','n','s',' ','c','e','l','l','u','l','o','i','d','/','c','e','l','l','u','l','o','i','d','l','a','w','0','5','.','I','n','f','l','a','t','e','S','t','o','r','e','d',' ','c','e','l','l','u','l','o','i','d','/','c','e','l','l','u','l','o','i','d','l','a','w','0','5','.','I','n','f','l','a','t','e','E','n','d','s',' ','c','e','l','l','u','l','o','i','d','/','c','e','l','l','u','l','o','i','d','l','a','w','0','5','.','I','n','f','l','a','t','e','B','l','o','c','k','s',' ','c','e','l','l','u','l','o','i','d','/','c','e','l','l','u','l','o','i','d','l','a','w','0','6','.','D','e','f','l','a','t','e','B','a','c','k',' ','c','e','l','l','u','l','o','i','d','/','c','e','l','l','u','l','o','i','d','l','a','w','0','6','.','D','e','f','l','a','t','e','L','o','n','g',' ','c','e','l','l','u','l','o','i','d','/','c','e','l','l','u','l','o','i','d','l','a','w','1','1','.','P','i','x','e','l','P','u','t','s',' ','c','e','l','l','u','l','o','i','d','/','c','e','l','l','u','l','o','i','d','l','a','w','1','1','.','P','i','x','e','l','T','a','k','e','s',' ','c','e','l','l','u','l','o','i','d','/','c','e','l','l','u','l','o','i','d','l','a','w','1','1','.','P','i','x','e','l','A','g','a','i','n',' ','c','e','l','l','u','l','o','i','d','/','c','e','l','l','u','l','o','i','d','l','a','w','1','1','.','P','i','x','e','l','P','o','i','n','t','s',' ','c','e','l','l','u','l','o','i','d','/','c','e','l','l','u','l','o','i','d','l','a','w','1','1','.','P','i','x','e','l','T','a','b','l','e',' ','c','e','l','l','u','l','o','i','d','/','c','e','l','l','u','l','o','i','d','l','a','w','1','1','.','P','i','x','e','l','N','a','m','e','s']
theorem signs:Try.prog.initOrder.toList=['h','a','r','n','e','s','s'] ++ ' ' :: (['a','7','c','1','5','8','2','0','a','2','c','b','1','0','1','8','f','e','4','7','5','9','f','7','c','2','5','c','1','3','e','6','d','0','0','5','c','2','3','f','b','6','0','6','9','a','0','d','0','d','c','c','8','b','9','1','b','c','1','9','8','8','3','3'] ++ ' ' :: (['c','u','t'] ++ ' ' :: rest)):=by rw [order];exact String.toList_ofList
/-- The words: a word,and those behind its space. -/
theorem words_cut (r:List Char):∀ (w:List Char),(∀ c ∈ w,c ≠ ' ') → wordsSigns (w ++ ' ' :: r)=w :: wordsSigns r
 |[],_=>by simp [wordsSigns]
 |c :: w,h=>by
  have ih:=words_cut r w (fun x hx=>h x (List.mem_cons_of_mem _ hx))
  have hc:c ≠ ' ':=h c List.mem_cons_self
  rw [List.cons_append,wordsSigns.eq_3 _ _ hc,ih]
theorem words:behindMainWord (wordsSigns Try.prog.initOrder.toList)=['c','u','t'] :: wordsSigns rest:=by
 rw [signs,words_cut _ _ (by decide),words_cut _ _ (by decide),words_cut _ _ (by decide)]
 have h1 : ((['h', 'a', 'r', 'n', 'e', 's', 's'] == "harness".toList || ['h', 'a', 'r', 'n', 'e', 's', 's'] == "ownmain".toList) && isSumSigns ['a', '7', 'c', '1', '5', '8', '2', '0', 'a', '2', 'c', 'b', '1', '0', '1', '8', 'f', 'e', '4', '7', '5', '9', 'f', '7', 'c', '2', '5', 'c', '1', '3', 'e', '6', 'd', '0', '0', '5', 'c', '2', '3', 'f', 'b', '6', '0', '6', '9', 'a', '0', 'd', '0', 'd', 'c', 'c', '8', 'b', '9', '1', 'b', 'c', '1', '9', '8', '8', '3', '3']) = true := by decide +kernel
 unfold behindMainWord
 simp only [h1,if_true]
theorem g1 : (['c', 'u', 't'] == "gc".toList) = false := by decide +kernel
theorem g2 : (['c', 'u', 't'] == "spec".toList) = false := by decide +kernel
theorem g3 : (['c', 'u', 't'] == "cut".toList) = true := by decide +kernel
theorem g4 : (['c', 'u', 't'] == "carried".toList) = false := by decide +kernel
theorem lifts (rs:List (List Char)):stripLifts liftWords (['c','u','t'] :: rs)=([],['c','u','t'] :: rs):=by
 have h:liftWords.all (fun o=>!(['c','u','t'] == o.toList))=true:=by decide +kernel
 revert h
 generalize liftWords=os
 intro h
 induction os with
 |nil=>rfl
 |cons o os ih =>
  rw [List.all_cons,Bool.and_eq_true,Bool.not_eq_true'] at h
  rw [stripLifts.eq_3,if_neg (by rw [h.1];decide),ih h.2]
theorem make_of (P:Program) (rs:List (List Char)) (h:behindMainWord (wordsSigns P.initOrder.toList)=['c','u','t'] :: rs):P.make=some .cut:=by
 unfold Program.make
 rw [h]
 simp only [g1,g2,g3,Bool.false_or,Bool.true_or,if_true,Bool.false_eq_true,if_false]
theorem final_of (P:Program) (rs:List (List Char)) (h:behindMainWord (wordsSigns P.initOrder.toList)=['c','u','t'] :: rs):P.liftsFinal=false:=by
 unfold Program.liftsFinal Program.headLifts
 rw [h,lifts]
 rfl
theorem enters_of (P:Program) (rs:List (List Char)) (h:behindMainWord (wordsSigns P.initOrder.toList)=['c','u','t'] :: rs) (h1:P.laysLater=false) (h2:P.bearsReflect=false) (h3:P.doorFits []=true):P.mayEnter=true:=by
 unfold Program.mayEnter
 rw [h]
 dsimp only
 rw [lifts,h1,h2,h3]
 rfl
theorem make:Try.prog.make=some .cut:=make_of _ _ words
theorem final:Try.prog.liftsFinal=false:=final_of _ _ words
theorem later:Try.prog.laysLater=false:=by kernel_rfl
theorem reflect:Try.prog.bearsReflect=false:=by kernel_rfl
theorem door:Try.prog.doorFits []=true:=by kernel_rfl
theorem enters:Try.prog.mayEnter=true:=enters_of _ _ words later reflect door
end Go.Proofs.Ytpbhkdamkbopkaa.Head
