/- Parts of the proof, glued by a program of this session (wip/tools/claimfit.py). -/
import Derived.Test.YtpbhkdamkbopkaaMPPH
namespace Go.Proofs.Ytpbhkdamkbopkaa.RefD
set_option linter.unusedSimpArgs false
set_option linter.unusedVariables false
open Go.RowKit Go.Proofs.Ytpbhkdamkbopkaa.GDefl Go.Proofs.Ytpbhkdamkbopkaa.Wr Go.Proofs.Ytpbhkdamkbopkaa.Ext Go.Proofs.YtpbhkdamkbopkaaW.PrintWords Go.Proofs.YtpbhkdamkbopkaaW.PrintLast Go.Proofs.YtpbhkdamkbopkaaW.PrintMore
open Go.Proofs.Ytpbhkdamkbopkaa.RefCo (refcodes_is codesOf_length)
open Go.Proofs.Ytpbhkdamkbopkaa.Rn (run ip ref_f)
open Go.Proofs.Ytpbhkdamkbopkaa.GRuns (celluloidref06_Run.f)
attribute [local irreducible] LA LB codesOf
theorem pack_l4 (l : List Int) (hl : Bits l) (hlen : l.length ≤ 1000000000) (i : Nat) (hi : i < l.length) (r : ByteArray)
  (hn:Ev (fun k=>celluloidref06_Raw.l3 k l (pack l (i+1)) ((i+1:Nat):Int)) r) (d:Nat):∀ j,j+d=i % 8 → Ev (fun k=>celluloidref06_Raw.l4 k l (pack l i) (i:Int) (l.getD i 0*2 ^ j) (j:Int)) r:=by
 have hm:l.getD i 0 ∈ l:=by rw [List.getD_eq_getElem?_getD,List.getElem?_eq_getElem hi];exact List.getElem_mem hi
 have hb:=hl _ hm;have e8:Int.tmod (i:Int) 8=((i % 8:Nat):Int):=by rw [Int.tmod_eq_emod_of_nonneg (by omega)];omega
 have d8:wrap64 (Int.tdiv (i:Int) 8)=((i / 8:Nat):Int):=by rw [Int.tdiv_eq_ediv_of_nonneg (by omega),w64 (by omega) (by omega)];omega
 induction d with
 |zero =>
  intro j hj;obtain rfl:j=i % 8:=by omega
  refine Ev.step (fun k=>?_) hn;have hlen2:=pack_len l i (by omega);have hby:=pack_byte l hl i hi;simp only [celluloidref06_Raw.l4];rw [if_neg (by rw [e8];omega),d8,if_pos (by omega),if_pos (by rw [hlen2];omega),Int.toNat_natCast,RefCo.rd_nat,Int.emod_eq_of_lt hby.2.1 (by omega),← pack_step l i hi,w64 (by omega) (by omega)];rfl
 |succ d ih =>
  intro j hj;have hp:=pow_le (j:=j) (n:=j) (Nat.le_refl _) (by omega);have hp7:=Wr.pow_rng (j+1) (by omega);have h2:(2:Int) ^ (j+1)=2 ^ j*2:=Int.pow_succ _ _
  have e:(l.getD i 0*2 ^ j*2) % 256=l.getD i 0*2 ^ (j+1):=by
   rw [h2]
   rcases (show l.getD i 0=0 ∨ l.getD i 0=1 by omega) with h | h
   ·rw [h];simp
   ·rw [h];omega
  refine Ev.step (fun k=>?_) (ih (j+1) (by omega));simp only [celluloidref06_Raw.l4];rw [if_pos (by rw [e8];omega),e,w64 (by omega) (by omega)];rfl
theorem pack_l3 (l:List Int) (hl:Bits l) (hlen:l.length≤1000000000) (d:Nat):∀ i,i+d=l.length → Ev (fun k=>celluloidref06_Raw.l3 k l (pack l i) (i:Int)) (strOfNums (pk l)):=by
 induction d with
 |zero =>
  intro i hi;obtain rfl:i=l.length:=by omega
  refine Ev.step (f:=fun _=>some (strOfNums (pk l))) (fun k=>?_) (Ev.now _);simp only [celluloidref06_Raw.l3];rw [if_neg (Int.lt_irrefl _),pack_all]
 |succ d ih =>
  intro i hi;have h:=pack_l4 l hl hlen i (by omega) _ (ih (i+1) (by omega)) (i % 8) 0 (by omega);rw [Int.pow_zero,Int.mul_one] at h;refine Ev.step (fun k=>?_) h;simp only [celluloidref06_Raw.l3];rw [if_pos (by omega),if_pos (by omega),RefCo.rd_nat];rfl
def ls (n:Int) (j:Nat):Int:=if j=29 then (lsym n).1 else (lf n j).1
theorem ls_end (n:Int) (hn1:n≤258):ls n (28+1)=if 258≤n then 285 else ls n 28:=by
 unfold ls;rw [if_pos (show 28+1=29 from rfl),if_neg (show ¬ (28:Nat)=29 by decide)];unfold lsym;by_cases c:n=258
 ·rw [if_pos c,if_pos (by omega)]
 ·rw [if_neg c,if_neg (by omega)]
theorem ls_next (n:Int) (j:Nat) (hj:j < 28):ls n (j+1)=if (Wr.lof j).1≤n then 257+(j:Int) else ls n j:=by
 have e:lf n (j+1)=if (Wr.lof j).1≤n then (257+(j:Int),Wr.lof j) else lf n j:=rfl;unfold ls;rw [if_neg (show ¬ j+1=29 by omega),if_neg (show ¬ j=29 by omega),e]
 split <;> rfl
theorem runs_l2 (s : ByteArray) (l : List Int) (hl : l.length ≤ 900000000) (i : Nat) (n far : Int) (hn0 : 3 ≤ n) (hn1 : n ≤ 258) (hf0 : 1 ≤ far) (hf1 : far ≤ 32768) (hi : i ≤ 1000000) (r : ByteArray)
  (hnext:Ev (fun k=>celluloidref06_Raw.l0 k s LA (codesOf LA) (codesOf LB) (l ++ cb (dsym far).1 5 ++ nb (far - (dsym far).2.1) (dsym far).2.2.toNat) ((i:Int)+n)) r) (d:Nat):∀ j,j+d=30 →
  Ev (fun k=>celluloidref06_Raw.l2 k s LA (codesOf LA) (codesOf LB) l (i:Int) n far (df far j).1 (j:Int)) r:=by
 induction d with
 |zero =>
  intro j hj;obtain rfl:j=30:=by omega
  have hd:=dsym_at far hf0;obtain ⟨q1,q2,q3,q4,q5,q6⟩:=df_rng hf0 30 (Nat.le_refl _);have e0:(df far 30)=dsym far:=rfl;rw [e0] at q1 q2 q3 q4 q5 q6 ⊢;obtain ⟨sy,hsy⟩:∃ sy:Nat,(dsym far).1=(sy:Int):=⟨(dsym far).1.toNat,by omega⟩;obtain ⟨mm,hmm⟩:∃ mm:Nat,(dsym far).2.2=(mm:Int):=⟨(dsym far).2.2.toNat,by omega⟩;have hY:(codesOf LB).length=32:=by rw [codesOf_length,LB_len]
  have hrd:rd (codesOf LB) (dsym far).1=(dsym far).1:=by rw [hsy,RefCo.rd_nat,codeB sy (by omega)]
  have hc:=code_is (dsym far).1 q1 (by omega) 5 (by decide) (by decide) l (by omega);have hm:=number_is (far - (dsym far).2.1) (by omega) (by omega) mm (by omega) (l ++ cb (dsym far).1 5) (by rw [List.length_append,cb_len];omega);rw [← hmm] at hm;have hmt:mm=(dsym far).2.2.toNat:=by omega
  rw [← hmt] at hnext;have hw:wrap64 (far - (dsym far).2.1)=far - (dsym far).2.1:=w64 (by omega) (by omega);have hw2:wrap64 ((i:Int)+n)=(i:Int)+n:=w64 (by omega) (by omega);refine Ev.step (f:=fun k=>(celluloidref05_Distance.f k (dsym far).1).bind fun bt=>(celluloidref06_code.f k l (dsym far).1 5).bind fun Qa=>(celluloidref06_number.f k Qa (wrap64 (far - bt.1)) bt.2).bind fun Qb=>celluloidref06_Raw.l0 k s LA (codesOf LA) (codesOf LB) Qb ((i:Int)+n)) (fun k=>?_) (Ev.bind hd (Ev.bind hc ?_))
  ·simp only [celluloidref06_Raw.l2];rw [if_neg (by decide)]
   congr 1
   funext bt
   rw [if_pos q1,if_pos (by rw [hY];omega),hrd,hw2]
  ·try dsimp only
   rw [hw];exact Ev.bind hm hnext
 |succ d ih =>
  intro j hj;have hl:=distance_is j (by omega);have hj1:wrap64 ((j:Int)+1)=((j+1:Nat):Int):=by rw [w64 (by omega) (by omega)];rfl
  refine Ev.step (fun k=>?_) (Ev.bind (f:=fun k bt=>if bt.1≤far then celluloidref06_Raw.l2 k s LA (codesOf LA) (codesOf LB) l (i:Int) n far (j:Int) ((j+1:Nat):Int) else celluloidref06_Raw.l2 k s LA (codesOf LA) (codesOf LB) l (i:Int) n far (df far j).1 ((j+1:Nat):Int)) hl ?_)
  ·simp only [celluloidref06_Raw.l2];rw [if_pos (by omega),hj1]
  ·try dsimp only
   have h:=ih (j+1) (by omega);have e:df far (j+1)=if (dof j).1≤far then ((j:Int),dof j) else df far j:=rfl;rw [e] at h;by_cases c:(dof j).1≤far
   ·rw [if_pos c] at h;simp only [if_pos c];exact h
   ·rw [if_neg c] at h;simp only [if_neg c];exact h
theorem runs_l1 (s : ByteArray) (l : List Int) (hl : l.length ≤ 800000000) (i : Nat) (n far : Int) (hn0 : 3 ≤ n) (hn1 : n ≤ 258) (hf0 : 1 ≤ far) (hf1 : far ≤ 32768) (hi : i ≤ 1000000) (r : ByteArray)
  (hnext:Ev (fun k=>celluloidref06_Raw.l0 k s LA (codesOf LA) (codesOf LB) (l ++ rc n far) ((i:Int)+n)) r) (d:Nat):∀ j,j+d=29 →
  Ev (fun k=>celluloidref06_Raw.l1 k s LA (codesOf LA) (codesOf LB) l (i:Int) n far (ls n j) (257+(j:Int))) r:=by
 induction d with
 |zero =>
  intro j hj;obtain rfl:j=29:=by omega
  have hd:=lsym_at n hn0;obtain ⟨q1,q2,q3,q4,q5,q6⟩:=lsym_rng hn0;have e0:ls n 29=(lsym n).1:=if_pos rfl;rw [e0];obtain ⟨sy,hsy⟩:∃ sy:Nat,(lsym n).1=(sy:Int):=⟨(lsym n).1.toNat,by omega⟩;obtain ⟨mm,hmm⟩:∃ mm:Nat,(lsym n).2.2=(mm:Int):=⟨(lsym n).2.2.toNat,by omega⟩;have hX:(codesOf LA).length=288:=by rw [codesOf_length,LA_len]
  have hLA:=LA_len
  obtain ⟨wd,hwd,hwd1,hwd2⟩:∃ wd:Nat,LA.getD sy 0=(wd:Int)∧1≤wd∧wd≤16:=by
   rw [LA_get sy (by omega)]
   (repeat' split) <;> first | exact ⟨8,rfl,by decide,by decide⟩ | exact ⟨9,rfl,by decide,by decide⟩ | exact ⟨7,rfl,by decide,by decide⟩
  have hcr:0≤(codesOf LA).getD sy 0∧(codesOf LA).getD sy 0≤1000000:=by
   rw [codeA sy (by omega)]
   (repeat' split) <;> omega
  have hc:=code_is ((codesOf LA).getD sy 0) hcr.1 hcr.2 wd hwd1 hwd2 l (by omega);have hsc:=code_sc sy (by omega);rw [hwd,Int.toNat_natCast] at hsc;rw [hsc,← hwd] at hc;have hscl:=sc_len (sy:Int);have hm:=number_is (n - (lsym n).2.1) (by omega) (by omega) mm (by omega) (l ++ sc (sy:Int)) (by rw [List.length_append];omega);rw [← hmm] at hm;have hmt:mm=(lsym n).2.2.toNat:=by omega
  have hw:wrap64 (n - (lsym n).2.1)=n - (lsym n).2.1:=w64 (by omega) (by omega)
  have hfin:=runs_l2 s (l ++ sc (sy:Int) ++ nb (n - (lsym n).2.1) mm) (by rw [List.length_append,List.length_append,nb_len];omega) i n far hn0 hn1 hf0 hf1 hi r (by
   have e:l ++ sc (sy:Int) ++ nb (n - (lsym n).2.1) mm ++ cb (dsym far).1 5 ++ nb (far - (dsym far).2.1) (dsym far).2.2.toNat=l ++ rc n far:=by
    unfold rc;rw [hsy,hmt];simp only [List.append_assoc]
   rw [e];exact hnext) 30 0 rfl
  refine Ev.step (f:=fun k=>(celluloidref05_Length.f k (lsym n).1).bind fun bt=>(celluloidref06_code.f k l (rd (codesOf LA) (lsym n).1) (rd LA (lsym n).1)).bind fun Qa=>(celluloidref06_number.f k Qa (wrap64 (n - bt.1)) bt.2).bind fun Qb=>celluloidref06_Raw.l2 k s LA (codesOf LA) (codesOf LB) Qb (i:Int) n far 0 0) (fun k=>?_) (Ev.bind hd ?_)
  ·simp only [celluloidref06_Raw.l1];rw [if_neg (by decide)]
   congr 1
   funext bt
   rw [if_pos (by omega),if_pos (by rw [hX];omega),if_pos (by rw [hLA];omega)]
  ·try dsimp only
   rw [hw,hsy,RefCo.rd_nat,RefCo.rd_nat];have e00:(df far 0).1=0:=rfl;rw [e00,Int.natCast_zero] at hfin;refine Ev.bind hc ?_;exact Ev.bind hm hfin
 |succ d ih =>
  intro j hj;have hj1:wrap64 (257+(j:Int)+1)=257+((j+1:Nat):Int):=by rw [w64 (by omega) (by omega)];omega
  have h:=ih (j+1) (by omega);by_cases c28:j=28
  ·subst c28;have e1:=ls_end n hn1;rw [e1] at h;refine Ev.step (fun k=>?_) (Ev.bind (f:=fun k bt=>if bt.1≤n then celluloidref06_Raw.l1 k s LA (codesOf LA) (codesOf LB) l (i:Int) n far 285 (257+((28+1:Nat):Int)) else celluloidref06_Raw.l1 k s LA (codesOf LA) (codesOf LB) l (i:Int) n far (ls n 28) (257+((28+1:Nat):Int))) length_last ?_)
   ·simp only [celluloidref06_Raw.l1];rw [if_pos (by decide),hj1];rfl
   ·try dsimp only
    by_cases c:258≤n
    ·rw [if_pos c] at h;simp only [if_pos c];exact h
    ·rw [if_neg c] at h;simp only [if_neg c];exact h
  have hl:=length_is j (by omega);have e1:=ls_next n j (by omega);rw [e1] at h;refine Ev.step (fun k=>?_) (Ev.bind (f:=fun k bt=>if bt.1≤n then celluloidref06_Raw.l1 k s LA (codesOf LA) (codesOf LB) l (i:Int) n far (257+(j:Int)) (257+((j+1:Nat):Int)) else celluloidref06_Raw.l1 k s LA (codesOf LA) (codesOf LB) l (i:Int) n far (ls n j) (257+((j+1:Nat):Int))) hl ?_)
  ·simp only [celluloidref06_Raw.l1];rw [if_pos (by omega),hj1]
  ·try dsimp only
   by_cases c:(Wr.lof j).1≤n
   ·rw [if_pos c] at h;simp only [if_pos c];exact h
   ·rw [if_neg c] at h;simp only [if_neg c];exact h
theorem sym_code (c:Nat) (h:c < 288) (l:List Int) (hl:l.length≤1000000000):Ev (fun k=>celluloidref06_code.f k l (rd (codesOf LA) (c:Int)) (rd LA (c:Int))) (l ++ sc (c:Int)):=by
 rw [RefCo.rd_nat,RefCo.rd_nat]
 obtain ⟨wd,hwd,hwd1,hwd2⟩:∃ wd:Nat,LA.getD c 0=(wd:Int)∧1≤wd∧wd≤16:=by
  rw [LA_get c h]
  (repeat' split) <;> first | exact ⟨8,rfl,by decide,by decide⟩ | exact ⟨9,rfl,by decide,by decide⟩ | exact ⟨7,rfl,by decide,by decide⟩
 have hcr:0≤(codesOf LA).getD c 0∧(codesOf LA).getD c 0≤1000000:=by
  rw [codeA c h]
  (repeat' split) <;> omega
 have hc:=code_is ((codesOf LA).getD c 0) hcr.1 hcr.2 wd hwd1 hwd2 l (by omega);have hsc:=code_sc c h;rw [hwd,Int.toNat_natCast] at hsc;rw [hsc,← hwd] at hc;exact hc
theorem raw_end (s:ByteArray) (hs:s.size≤1000000) (l:List Int) (hl:Bits l) (hlen:l.length≤100000000) (i:Nat) (hi:s.size≤i) (hi1:i≤1000000):Ev (fun k=>celluloidref06_Raw.l0 k s LA (codesOf LA) (codesOf LB) l (i:Int)) (strOfNums (pk (l ++ sc 256))):=by
 have hX:(codesOf LA).length=288:=by rw [codesOf_length,LA_len]
 have hLA:=LA_len;have hscl:=sc_len 256;have hb:Bits (l ++ sc 256):=hl.append (sc_bits _);obtain ⟨L,hL⟩:∃ L,L=l ++ sc 256:=⟨_,rfl⟩;have hLl:L.length≤200000000:=by rw [hL,List.length_append];omega
 have hw1:wrap64 ((L.length:Int)+7)=((L.length+7:Nat):Int):=by rw [w64 (by omega) (by omega)];rfl
 have hw2:wrap64 (Int.tdiv ((L.length+7:Nat):Int) 8)=(((L.length+7) / 8:Nat):Int):=by rw [Int.tdiv_eq_ediv_of_nonneg (by omega),w64 (by omega) (by omega)];omega
 have hp:=pack_l3 L (by rw [hL];exact hb) (by omega) L.length 0 (by omega);rw [pack_zero] at hp;have h:=sym_code 256 (by decide) l (by omega);rw [show ((256:Nat):Int)=256 from rfl,← hL] at h;rw [← hL];refine Ev.step (fun k=>?_) (Ev.bind (f:=fun k Qa=>if 0≤(wrap64 (Int.tdiv (wrap64 ((Qa.length:Int)+7)) 8)) then (if (wrap64 (Int.tdiv (wrap64 ((Qa.length:Int)+7)) 8):Int).toNat≤281474976710656 then (celluloidref06_Raw.l3 k Qa (List.replicate (wrap64 (Int.tdiv (wrap64 ((Qa.length:Int)+7)) 8):Int).toNat 0) 0) else (none)) else (none)) h ?_)
 ·simp only [celluloidref06_Raw.l0];rw [if_neg (by omega),if_pos (by rw [hX];decide),if_pos (by rw [hLA];decide)]
 ·try dsimp only
  refine Ev.congr (fun k=>?_) hp;rw [hw1,hw2,if_pos (by omega),Int.toNat_natCast,if_pos (by omega)];rfl
theorem rbits_bits (s:ByteArray):∀ m i,Bits (rbits s m i):=by
 intro m
 induction m with
 |zero=>intro i;exact fun b hb=>absurd hb (by simp [rbits])
 |succ m ih =>
  intro i;unfold rbits
  (repeat' split)
  ·exact (sc_bits _).append (ih _)
  ·exact (rc_bits _ _).append (ih _)
  ·exact fun b hb=>absurd hb (by simp)
theorem raw_l0 (s:ByteArray) (hs:s.size≤1000000):∀ m i (l:List Int),s.size≤i+m → i≤s.size → Bits l → l.length≤3+32*i → Ev (fun k=>celluloidref06_Raw.l0 k s LA (codesOf LA) (codesOf LB) l (i:Int)) (strOfNums (pk (l ++ rbits s m i ++ sc 256))):=by
 have hX:(codesOf LA).length=288:=by rw [codesOf_length,LA_len]
 have hLA:=LA_len;intro m
 induction m with
 |zero =>
  intro i l h0 h1 hb hlen;have h:=raw_end s hs l hb (by omega) i (by omega) (by omega);rw [show rbits s 0 i=[] from rfl,List.append_nil];exact h
 |succ m ih =>
  intro i l h0 h1 hb hlen;by_cases c:i < s.size;rotate_left
  ·have h:=raw_end s hs l hb (by omega) i (by omega) (by omega);(have e:rbits s (m+1) i=[]:=by unfold rbits;rw [if_neg c]);rw [e,List.append_nil];exact h
  have hr:Ev (fun k=>celluloidref06_Run.f k s (i:Int)) (ip (run s i)):=⟨300*i+2,fun k hk=>ref_f s (by omega) i h1 k hk⟩;have hrr:=run_rng s i h1;have hbt:=bt_range s (i:Int);obtain ⟨c0,hc0⟩:∃ c0:Nat,bt s (i:Int)=(c0:Int):=⟨(bt s (i:Int)).toNat,by omega⟩;have hwb:wrap64 (bt s (i:Int))=(c0:Int):=by rw [hc0,w64 (by omega) (by omega)]
  have hE:rbits s (m+1) i=if (run s i).1=0 then sc (bt s (i:Int)) ++ rbits s m (i+1) else rc ((run s i).1:Nat) ((run s i).2:Nat) ++ rbits s m (i+(run s i).1):=by
   show (if i < s.size then _ else _)=_;rw [if_pos c]
  rw [hE];clear hE;generalize run s i=p at hr hrr ⊢;obtain ⟨n,far⟩:=p;have hip:ip (n,far)=((n:Int),(far:Int)):=rfl;rw [hip] at hr;simp only at hrr ⊢;refine Ev.step (f:=fun k=>(celluloidref06_Run.f k s (i:Int)).bind fun Qa=>if Qa.1=0 then ((celluloidref06_code.f k l (rd (codesOf LA) (c0:Int)) (rd LA (c0:Int))).bind fun Qb=>(celluloidref06_Raw.l0 k s LA (codesOf LA) (codesOf LB) Qb ((i+1:Nat):Int))) else (celluloidref06_Raw.l1 k s LA (codesOf LA) (codesOf LB) l (i:Int) Qa.1 Qa.2 257 257)) (fun k=>?_) (Ev.bind hr ?_)
  ·simp only [celluloidref06_Raw.l0];rw [if_pos (by omega)]
   congr 1
   funext Qa
   rw [if_pos (show (0:Int)≤(i:Int) by omega),hwb,if_pos (show (0:Int)≤(c0:Int) by omega),if_pos (show (c0:Int) < ((codesOf LA).length:Int) by rw [hX];omega),if_pos (show (c0:Int) < (LA.length:Int) by rw [hLA];omega),show wrap64 ((i:Int)+1)=((i+1:Nat):Int) by rw [w64 (by omega) (by omega)];rfl]
  ·try dsimp only
   by_cases hz:n=0
   ·have hz':((n:Nat):Int)=0:=by omega
    simp only [if_pos hz,if_pos hz'];have hsl:=sc_len (c0:Int);have hn:=ih (i+1) (l ++ sc (c0:Int)) (by omega) (by omega) (hb.append (sc_bits _)) (by rw [List.length_append];omega);rw [hc0,← List.append_assoc];exact Ev.bind (sym_code c0 (by omega) l (by omega)) hn
   (have hz':¬ ((n:Nat):Int)=0:=by omega);simp only [if_neg hz,if_neg hz']
   obtain ⟨r1,r2,r3,r4,r5,r6⟩:3≤n∧n≤258∧1≤far∧far≤i∧far≤32768∧i+n≤s.size:=by
    rcases hrr with h | h
    ·exact absurd h.1 hz
    ·exact h
   have hrl:=rc_len (n:Int) (far:Int) (by omega) (by omega);have hn:=ih (i+n) (l ++ rc (n:Int) (far:Int)) (by omega) (by omega) (hb.append (rc_bits _ _)) (by rw [List.length_append];omega);rw [show ((i+n:Nat):Int)=(i:Int)+(n:Int) by omega,List.append_assoc l] at hn;rw [List.append_assoc l,List.append_assoc];rw [List.append_assoc l,List.append_assoc] at hn;exact runs_l1 s l (by omega) i (n:Int) (far:Int) (by omega) (by omega) (by omega) (by omega) (by omega) _ hn 29 0 rfl
/-- The reference tells the program's bytes. -/
theorem ref_raw (s:ByteArray) (hs:s.size≤1000000):Ev (fun k=>celluloidref06_Raw.f k s) (strOfNums (pk (RB s))):=by
 have h:=raw_l0 s hs s.size 0 [1,1,0] (by omega) (by omega) (fun b hb=>by simp at hb;omega) (by decide);have e:([] ++ [1]) ++ nb 1 2=[1,1,0]:=by decide +kernel
 unfold RB;rw [e];exact Ev.bind plain_is (Ev.bind (refcodes_is LA (by rw [LA_len];decide) okLA) (Ev.bind (refcodes_is LB (by rw [LB_len];decide) okLB) h))
end Go.Proofs.Ytpbhkdamkbopkaa.RefD
set_option linter.unusedSimpArgs false
set_option linter.unusedVariables false
namespace Go.Proofs.Ytpbhkdamkbopkaa.ASumR
open Go.RowKit Go.Proofs.Ytpbhkdamkbopkaa.GDefl Go.Proofs.Ytpbhkdamkbopkaa.ASumB Go.Proofs.YtpbhkdamkbopkaaW.PrintWords Go.Proofs.YtpbhkdamkbopkaaW.PrintLast Go.Proofs.YtpbhkdamkbopkaaW.PrintMore
theorem low_is (n:Int):celluloidref03_low.f n=some (prt n).1:=rfl
theorem high_is (n:Int):celluloidref03_high.f n=some (prt n).2:=rfl
theorem q1lem (a c:Int) (i:Nat) (h:a≤65521+255*i) (hc:c≤255):a+c≤65521+255*((i+1:Nat):Int):=by omega
theorem ref_l (s : ByteArray) (hn : s.size ≤ 8192) (d : Nat) : ∀ (k i : Nat) (a b : Int) (p : Int × Int), Rng p → i + d = s.size → d < k →
  0≤a → a≤65521+255*i → 0≤b → b≤4294967296 → Cg a p.1 → Cg b (p.2+d*p.1) →
  celluloidref03_More.l0 k s a b s.size i=some (fin (run p ((bts s).drop i))):=by
 induction d with
 |zero =>
  intro k i a b p hp hi hk a0 a1 b0 b1 ha hb;obtain ⟨k,rfl⟩:∃ m,k=m+1:=⟨k - 1,by omega⟩;simp only [celluloidref03_More.l0];rw [if_neg (by omega),List.drop_of_length_le (by rw [bts_length];omega),run_nil];obtain ⟨h0,h1,h2,h3⟩:=hp;have ea:=ha.eq_mod;have eb:=hb.eq_mod;simp only [Int.natCast_zero,Int.zero_mul,Int.add_zero] at eb;rw [Int.tmod_eq_emod_of_nonneg b0,Int.tmod_eq_emod_of_nonneg a0,wrap_in (n:=b % 65521*65536) (by omega) (by omega),wrap_in (by omega) (by omega)];unfold fin
  congr 1
  omega
 |succ d ih =>
  intro k i a b p hp hi hk a0 a1 b0 b1 ha hb;obtain ⟨k,rfl⟩:∃ m,k=m+1:=⟨k - 1,by omega⟩;have hc:=bt_range s i;simp only [celluloidref03_More.l0];rw [if_pos (by omega),if_pos (by omega),if_pos (by omega)];obtain ⟨e1,e2⟩:=ref_stp a b p.1 p.2 (bt s i) d ha (by exact_mod_cast hb);have q0:0≤a+bt s i:=by omega
  have q1:a+bt s i≤65521+255*((i+1:Nat):Int):=q1lem a (bt s i) i a1 hc.2;have q2:i+1+d=s.size:=by omega
  have q3:d < k:=by omega
  have d0:(d:Int)+1≤8192:=by omega
  have p0:0≤bt s i*(d+1):=Int.mul_nonneg hc.1 (by omega);have p1:bt s i*((d:Int)+1)≤255*8192:=Int.mul_le_mul hc.2 d0 (by omega) (by omega);have q4:i < s.size:=by omega
  have q5:a+bt s i≤9223372036854775807:=by omega
  have q6:(s.size:Int) - i=d+1:=by omega
  have w0:wrap64 (bt s i)=bt s i:=wrap_in (by omega) (by omega);have w1:wrap64 (a+bt s i)=a+bt s i:=wrap_in (Int.le_trans (by decide) q0) q5;have w2:wrap64 ((s.size:Int) - i)=d+1:=by rw [q6];exact wrap_in (Int.le_trans (by decide) (Int.natCast_nonneg (d+1))) (Int.le_trans d0 (by decide))
  have q7:(i:Int)+1≤8193:=by clear w0 w1 w2;omega
  have w5:wrap64 ((i:Int)+1)=((i+1:Nat):Int):=wrap_in (Int.le_trans (by decide) (Int.natCast_nonneg (i+1))) (Int.le_trans q7 (by decide));rw [bts_drop s i q4,run_cons,w0,w1,w2,w5];generalize bt s i*((d:Int)+1)=y at p0 p1 e2 ⊢;clear ha hb w0 w1 w2 w5;have w3:wrap64 y=y:=wrap_in (by omega) (by omega);have w4:wrap64 (b+y)=b+y:=wrap_in (by omega) (by omega);rw [w3,w4,Int.tmod_eq_emod_of_nonneg (by omega)];exact ih k (i+1) (a+bt s i) ((b+y) % 65521) (stp p (bt s i)) (stp_rng _ _) q2 q3 q0 q1 (by omega) (by omega) e1 e2
theorem ref_is (n : Int) (s : ByteArray) (hn : s.size ≤ 8192) (k : Nat) (hk : s.size < k) :
  celluloidref03_More.f k n s=some (fin (run (prt n) (bts s))):=by
 unfold celluloidref03_More.f;rw [low_is,high_is];simp only [Option.bind_some];obtain ⟨h0,h1,h2,h3⟩:=prt_rng n;have e0:(s.size:Int) % 65521=s.size:=by omega
 have p0:0≤(s.size:Int)*(prt n).1:=Int.mul_nonneg (by omega) h0;have p1:(s.size:Int)*(prt n).1≤8192*65521:=Int.mul_le_mul (by omega) (by omega) h0 (by omega);rw [e0,wrap_in (n:=(s.size:Int)*(prt n).1) (by omega) (by omega),wrap_in (by omega) (by omega)];have e:=ref_l s hn s.size k 0 (prt n).1 ((prt n).2+s.size*(prt n).1) (prt n) (prt_rng n) (by omega) hk (by omega) (by omega) (by omega) (by omega) (Cg.rfl' _) (Cg.rfl' _);rw [List.drop_zero] at e;exact e
theorem ref_sum (s:ByteArray) (hn:s.size≤8192) (k:Nat) (hk:s.size < k):celluloidref03_Sum.f k s=some (fin (run (1,0) (bts s))):=by
 unfold celluloidref03_Sum.f;rw [ref_is 1 s hn k hk];rfl
end Go.Proofs.Ytpbhkdamkbopkaa.ASumR
namespace Go.Proofs.Ytpbhkdamkbopkaa.Pure
set_option linter.unusedSimpArgs false
set_option linter.unusedVariables false
open Go.RowKit Go.Proofs.Ytpbhkdamkbopkaa.Opens Go.Proofs.Ytpbhkdamkbopkaa.GPix Go.Proofs.Ytpbhkdamkbopkaa.GPixb Go.Proofs.Ytpbhkdamkbopkaa.GPxp Go.Proofs.Ytpbhkdamkbopkaa.PR Go.Proofs.YtpbhkdamkbopkaaW.PrintWords Go.Proofs.YtpbhkdamkbopkaaW.PrintLast Go.Proofs.YtpbhkdamkbopkaaW.PrintMore
open Go.Proofs.Ytpbhkdamkbopkaa.Px (fb nb3 rb right_is rd_drop side_mul wr px px_len two hd7 bmp put_is)
open Go.Proofs.Ytpbhkdamkbopkaa.GDefl (celluloidref06_Close.f celluloidref06_Raw.f celluloidref03_Sum.f)
open Go.Proofs.Ytpbhkdamkbopkaa.Inf (strOfNums_append)
/-- The four bytes of a sum. -/
def four (t:Int):List Int:=[(t / 16777216) % 256,(t / 65536) % 256,(t / 256) % 256,t % 256]
theorem four_ref (t:Int) (h0:0≤t) (h1:t≤4294967295):[(wrap64 (Int.tdiv t 16777216)) % 256,(Int.tmod (wrap64 (Int.tdiv t 65536)) 256) % 256,(Int.tmod (wrap64 (Int.tdiv t 256)) 256) % 256,(Int.tmod t 256) % 256]=four t:=by
 unfold four
 rw [Int.tdiv_eq_ediv_of_nonneg h0,Int.tdiv_eq_ediv_of_nonneg h0,Int.tdiv_eq_ediv_of_nonneg h0,RefD.w64 (n:=t / 16777216) (by omega) (by omega),RefD.w64 (n:=t / 65536) (by omega) (by omega),RefD.w64 (n:=t / 256) (by omega) (by omega),
  Int.tmod_eq_emod_of_nonneg (by omega),Int.tmod_eq_emod_of_nonneg (by omega),Int.tmod_eq_emod_of_nonneg h0]
 congr 1
 congr 1
 ·omega
 congr 1
 ·omega
 congr 1
 omega
theorem refright_l0 (id w h:Int) (l:List S89) (hl:l.length≤1000000) (d:Nat):∀ (i k:Nat),i+d=l.length → celluloidref11_Right.l0 (k+d+1) (i:Int) id w h l=some ((l.drop i).all fb):=by
 induction d with
 |zero =>
  intro i k hi;rw [celluloidref11_Right.l0,if_neg (by omega),List.drop_eq_nil_of_le (by omega)];rfl
 |succ d ih =>
  intro i k hi;have h1:=ih (i+1) k (by omega);have e:wrap64 ((i:Int)+1)=((i+1:Nat):Int):=by rw [wr (by omega) (by omega)];omega
  rw [show k+(d+1)+1=(k+d+1)+1 by omega,celluloidref11_Right.l0,if_pos (by omega),if_pos (by omega),e,h1,rd_drop l i (by omega),List.all_cons];generalize rd_T89 l (i:Int)=x;generalize (l.drop (i+1)).all fb=b;unfold fb
  (repeat' split) <;> first | rw [decide_eq_false (by omega),Bool.false_and] | rw [decide_eq_true (by omega),Bool.true_and]
theorem refright_is (id w h:Int) (l:List S89) (hl:l.length≤1000000) (k:Nat) (hk:l.length+5≤k):celluloidref11_Right.f k id w h l=some (rb id w h l):=by
 obtain ⟨k2,rfl⟩:∃ k2,k=k2+l.length+1+1:=⟨k - l.length - 2,by omega⟩;have hj:celluloidref11_Right.j0 (k2+l.length+1+1) true id w h l=some false:=by rw [celluloidref11_Right.j0,if_pos rfl]
 have h0:=refright_l0 id w h l hl l.length 0 k2 (by omega)
 have hn:∀ p:nb3 id w h l.length → False,rb id w h l=false:=fun p=>by
  unfold rb;rw [decide_eq_false (fun q=>p q),Bool.false_and]
 unfold celluloidref11_Right.f;rw [hj];by_cases c1:id < 0
 ·rw [if_pos c1,hn (fun q=>by obtain ⟨q1,_⟩:=q;omega)]
 by_cases c2:id > 65535
 ·rw [if_neg c1,if_pos c2,hn (fun q=>by obtain ⟨_,q2,_⟩:=q;omega)]
 by_cases c3:w < 1
 ·rw [if_neg c1,if_neg c2,if_pos c3,hn (fun q=>by obtain ⟨_,_,q3,_⟩:=q;omega)]
 by_cases c4:w > 64
 ·rw [if_neg c1,if_neg c2,if_neg c3,if_pos c4,hn (fun q=>by obtain ⟨_,_,_,q4,_⟩:=q;omega)]
 by_cases c5:h < 1
 ·rw [if_neg c1,if_neg c2,if_neg c3,if_neg c4,if_pos c5,hn (fun q=>by obtain ⟨_,_,_,_,q5,_⟩:=q;omega)]
 by_cases c6:h > 64
 ·rw [if_neg c1,if_neg c2,if_neg c3,if_neg c4,if_neg c5,if_pos c6,hn (fun q=>by obtain ⟨_,_,_,_,_,q6,_⟩:=q;omega)]
 have hm:=side_mul (w:=w) (h:=h) ⟨by omega,by omega⟩ ⟨by omega,by omega⟩;rw [if_neg c1,if_neg c2,if_neg c3,if_neg c4,if_neg c5,if_neg c6,wr (by omega) (by omega)];by_cases c7:(l.length:Int)=w*h
 ·have e7:((l.length:Int) != w*h)=false:=bne_eq_false_iff_eq.mpr c7;rw [e7,celluloidref11_Right.j0,if_neg (by decide)];refine h0.trans ?_;unfold rb;rw [decide_eq_true ⟨by omega,by omega,by omega,by omega,by omega,by omega,c7⟩,Bool.true_and,List.drop_zero]
 ·have e7:((l.length:Int) != w*h)=true:=by simpa using c7
  rw [e7,hj,hn (fun q=>by obtain ⟨_,_,_,_,_,_,q7⟩:=q;exact c7 q7)]
theorem refclose_is (s:ByteArray) (hs:s.size≤8192):Ev (fun k=>celluloidref06_Close.f k s) (clo s):=by
 have e4:Ev (fun k=>celluloidref03_Sum.f k s) (sm s):=⟨s.size+1,fun k hk=>ASumR.ref_sum s (by omega) k (by omega)⟩;have e2:Ev (fun k=>celluloidref06_Raw.f k s) (packed s):=RefD.ref_raw s (by omega);have hz:=packed_short s;have htr:=sm_rng s;have hc2:(⟨#[120,156]⟩:ByteArray)=strOfNums [120,156]:=by decide +kernel
 have h2:(strOfNums [120,156]).size=2:=rfl;have h4:(strOfNums (four (sm s))).size=4:=rfl;unfold celluloidref06_Close.f;refine Ev.bind e4 ?_;simp only [Option.bind_some];refine Ev.bind e2 ?_;rw [four_ref (sm s) htr.1 (by omega)];refine Ev.congr (fun k=>?_) (Ev.now _);rw [if_pos (by rw [h2];omega),if_pos (by rw [ByteArray.size_append,h2,h4];omega)];unfold clo;rw [hc2];rfl
theorem px_cons (c:S89) (l:List S89):px (c :: l)=[c.f3 % 256,c.f0 % 256,c.f1 % 256,c.f2 % 256] ++ px l:=by unfold px;rw [List.flatMap_cons]
theorem ref11raw_l0 (id w h:Int) (l:List S89) (hl:l.length≤100000) (d:Nat):∀ (i:Nat) (x:List Int),i+d=l.length → x.length=4*i → Ev (fun k=>celluloidref11_Raw.l0 k x (i:Int) id w h l) (strOfNums (x ++ px (l.drop i))):=by
 induction d with
 |zero =>
  intro i x hi hx;have e:l.drop i=[]:=List.drop_of_length_le (by omega);rw [e];refine Ev.step (f:=fun _=>some (strOfNums (x ++ px []))) (fun k=>?_) (Ev.now _);simp only [celluloidref11_Raw.l0];rw [if_neg (by omega),show px []=[] from rfl,List.append_nil]
 |succ d ih =>
  intro i x hi hx;have hn:=ih (i+1) (((x ++ [(rd_T89 l (i:Int)).f3 % 256]) ++ [(rd_T89 l (i:Int)).f0 % 256]) ++ [(rd_T89 l (i:Int)).f1 % 256] ++ [(rd_T89 l (i:Int)).f2 % 256]) (by omega) (by simp;omega);rw [rd_drop l i (by omega),px_cons];have e:∀ c:S89,x ++ ([c.f3 % 256,c.f0 % 256,c.f1 % 256,c.f2 % 256] ++ px (l.drop (i+1)))=(((x ++ [c.f3 % 256]) ++ [c.f0 % 256]) ++ [c.f1 % 256] ++ [c.f2 % 256]) ++ px (l.drop (i+1)):=fun c=>by simp
  rw [e];refine Ev.step (fun k=>?_) hn;simp only [celluloidref11_Raw.l0];rw [if_pos (by omega),if_pos (by omega),Option.bind_some,if_pos (by simp;omega),Option.bind_some,Option.bind_some,if_pos (by simp;omega),Option.bind_some,Option.bind_some,if_pos (by simp;omega),Option.bind_some,Option.bind_some,if_pos (by simp;omega),wr (n:=(i:Int)+1) (by omega) (by omega)];rfl
theorem two_is {v:Int} (h0:0≤v) (h1:v < 65536):celluloidref11_two.f v=some (strOfNums (two v)):=by
 unfold celluloidref11_two.f two;rw [Int.tmod_eq_emod_of_nonneg h0,Int.tdiv_eq_ediv_of_nonneg h0,wr (n:=v / 256) (by omega) (by omega),show v % 256 % 256=v % 256 by omega]
theorem refput_is {id w h:Int} {l:List S89} (c:rb id w h l=true) (hl:l.length≤500):Ev (fun k=>celluloidref11_Put.f k id w h l) (bmp id w h l):=by
 have c2:=c;unfold rb at c2;rw [Bool.and_eq_true,decide_eq_true_eq] at c2;obtain ⟨c1,c2,c3,c4,c5,c6,c7⟩:=c2.1;have hR:Ev (fun k=>celluloidref11_Raw.f k id w h l) (strOfNums (px l)):=ref11raw_l0 id w h l (by omega) l.length 0 [] (by omega) rfl;have hz:(strOfNums (px l)).size=4*l.length:=by rw [strOfNums_size,px_len]
 have hC:=refclose_is (strOfNums (px l)) (by omega);have hcs:=clo_size (strOfNums (px l));have hps:=packed_short (strOfNums (px l));have z2:∀ v,(strOfNums (two v)).size=2:=fun v=>by rw [strOfNums_size];rfl
 have z1:(strOfNums [5]).size=1:=rfl;unfold celluloidref11_Put.f;rw [two_is c1 c2,two_is (v:=w) (by omega) (by omega),two_is (v:=h) (by omega) (by omega)];simp only [Option.bind_some,z2,z1,ByteArray.size_append];refine Ev.congr (f:=fun k=>(celluloidref11_Raw.f k id w h l).bind fun t=>(celluloidref06_Close.f k t).bind fun u=>if 2+1+2+2+u.size≤9223372036854775807 then some (strOfNums (two id) ++ strOfNums [5] ++ strOfNums (two w) ++ strOfNums (two h) ++ u) else none) (fun k=>by rw [if_pos (by decide),if_pos (by decide),if_pos (by decide)]) (Ev.bind hR (Ev.bind hC ?_));refine Ev.congr (fun k=>by rw [if_pos (by omega)]) ?_
 have e:strOfNums (two id) ++ strOfNums [5] ++ strOfNums (two w) ++ strOfNums (two h) ++ clo (strOfNums (px l))=bmp id w h l:=by
  unfold bmp hd7;rw [strOfNums_append,strOfNums_append,strOfNums_append];simp only [ByteArray.append_assoc]
 rw [e];exact Ev.now _
def SaidPixelPuts:Prop:=∀ (a0_0:Int) (a0_1:Int) (a0_2:Int) (l0_3:List S89),(Lit.int .i64 a0_0).wf=true → (Lit.int .i64 a0_1).wf=true → (Lit.int .i64 a0_2).wf=true → l0_3.length≤maxLen∧(∀ x ∈ l0_3,G89 x) → ∃ k,celluloidlaw11_PixelPuts.f k a0_0 a0_1 a0_2 l0_3=some true
theorem puts_nil:(⟨#[]⟩:ByteArray).toList=([]:List UInt8):=by kernel_rfl
theorem PixelPuts:SaidPixelPuts:=by
 intro id w h l _ _ _ _;by_cases c0:(l.length:Int) > 500
 ·refine ⟨300,?_⟩;unfold celluloidlaw11_PixelPuts.f;rw [if_pos c0,again_awake 300 (by omega)];rfl
 by_cases c:rb id w h l=true;rotate_left
 ·refine ⟨30005,?_⟩;unfold celluloidlaw11_PixelPuts.f;have e1:=put_is id w h l 30005 (by omega);rw [if_neg c] at e1;rw [if_neg c0,e1,Option.bind_some];simp only [GPix.celluloidlaw11_ref.f,Option.bind_some];rw [refright_is id w h l (by omega) _ (by omega),Option.bind_some,show 30005=30000+5 from rfl,right_is,Option.bind_some,Bool.eq_false_iff.mpr c,if_neg (by decide),if_neg (by decide),if_pos puts_nil,if_pos trivial,again_awake _ (by omega)];rfl
 obtain ⟨K,hK⟩:=refput_is c (by omega);obtain ⟨M,hM⟩:∃ M:Nat,M=300000+K:=⟨_,rfl⟩;refine ⟨M+5,?_⟩;unfold celluloidlaw11_PixelPuts.f;have e1:=put_is id w h l (M+5) (by omega);rw [if_pos c] at e1;have e2:celluloidref11_Put.f (M+5) id w h l=some (bmp id w h l):=hK _ (by omega);rw [if_neg c0,e1,Option.bind_some];simp only [GPix.celluloidlaw11_ref.f,Option.bind_some];rw [refright_is id w h l (by omega) _ (by omega),Option.bind_some,right_is,Option.bind_some,c,if_neg (by decide),if_pos rfl,take_back id w h l c _ (by omega),Option.bind_some];simp only;rw [e2,Option.bind_some,if_pos rfl,if_pos trivial,equal_is id w h l (by omega) _ (by omega),Option.bind_some,if_pos rfl,if_pos trivial,again_awake _ (by omega)];rfl
end Go.Proofs.Ytpbhkdamkbopkaa.Pure
namespace Go.Proofs.Ytpbhkdamkbopkaa.Head
open Go
set_option maxRecDepth 100000
theorem order : Try.prog.initOrder = "harness a7c15820a2cb1018fe4759f7c25c13e6d005c23fb6069a0d0dcc8b91bc198833 cut at celluloid/celluloidlaw04.HuffCodes celluloid/celluloidlaw04.HuffReads celluloid/celluloidlaw04.HuffBack celluloid/celluloidlaw04.HuffFull celluloid/celluloidlaw04.HuffBits celluloid/celluloidlaw06.DeflateRuns celluloid/celluloidlaw06.DeflateFinds celluloid/celluloidlaw06.DeflatePlain celluloid/celluloidlaw06.DeflateRaw celluloid/celluloidlaw05.InflateRaw celluloid/celluloidlaw05.InflateOpens celluloid/celluloidlaw05.InflateStored celluloid/celluloidlaw05.InflateEnds celluloid/celluloidlaw05.InflateBlocks celluloid/celluloidlaw06.DeflateBack celluloid/celluloidlaw06.DeflateLong celluloid/celluloidlaw11.PixelPuts celluloid/celluloidlaw11.PixelTakes celluloid/celluloidlaw11.PixelAgain celluloid/celluloidlaw11.PixelPoints celluloid/celluloidlaw11.PixelTable celluloid/celluloidlaw11.PixelNames" := by kernel_rfl
/-- The signs behind the third word. -/
def rest:List Char:=['a','t',' ','c','e','l','l','u','l','o','i','d','/','c','e','l','l','u','l','o','i','d','l','a','w','0','4','.','H','u','f','f','C','o','d','e','s',' ','c','e','l','l','u','l','o','i','d','/','c','e','l','l','u','l','o','i','d','l','a','w','0','4','.','H','u','f','f','R','e','a','d','s',' ','c','e','l','l','u','l','o','i','d','/','c','e','l','l','u','l','o','i','d','l','a','w','0','4','.','H','u','f','f','B','a','c','k',' ','c','e','l','l','u','l','o','i','d','/','c','e','l','l','u','l','o','i','d','l','a','w','0','4','.','H','u','f','f','F','u','l','l',' ','c','e','l','l','u','l','o','i','d','/','c','e','l','l','u','l','o','i','d','l','a','w','0','4','.','H','u','f','f','B','i','t','s',' ','c','e','l','l','u','l','o','i','d','/','c','e','l','l','u','l','o','i','d','l','a','w','0','6','.','D','e','f','l','a','t','e','R','u','n','s',' ','c','e','l','l','u','l','o','i','d','/','c','e','l','l','u','l','o','i','d','l','a','w','0','6','.','D','e','f','l','a','t','e','F','i','n','d','s',' ','c','e','l','l','u','l','o','i','d','/','c','e','l','l','u','l','o','i','d','l','a','w','0','6','.','D','e','f','l','a','t','e','P','l','a','i','n',' ','c','e','l','l','u','l','o','i','d','/','c','e','l','l','u','l','o','i','d','l','a','w','0','6','.','D','e','f','l','a','t','e','R','a','w',' ','c','e','l','l','u','l','o','i','d','/','c','e','l','l','u','l','o','i','d','l','a','w','0','5','.','I','n','f','l','a','t','e','R','a','w',' ','c','e','l','l','u','l','o','i','d','/','c','e','l','l','u','l','o','i','d','l','a','w','0','5','.','I','n','f','l','a','t','e','O','p','e','n','s',' ','c','e','l','l','u','l','o','i','d','/','c','e','l','l','u','l','o','i','d','l','a','w','0','5','.','I','n','f','l','a','t','e','S','t','o','r','e','d',' ','c','e','l','l','u','l','o','i','d','/','c','e','l','l','u','l','o','i','d','l','a','w','0','5','.','I','n','f','l','a','t','e','E','n','d','s',' ','c','e','l','l','u','l','o','i','d','/','c','e','l','l','u','l','o','i','d','l','a','w','0','5','.','I','n','f','l','a','t','e','B','l','o','c','k','s',' ','c','e','l','l','u','l','o','i','d','/','c','e','l','l','u','l','o','i','d','l','a','w','0','6','.','D','e','f','l','a','t','e','B','a','c','k',' ','c','e','l','l','u','l','o','i','d','/','c','e','l','l','u','l','o','i','d','l','a','w','0','6','.','D','e','f','l','a','t','e','L','o','n','g',' ','c','e','l','l','u','l','o','i','d','/','c','e','l','l','u','l','o','i','d','l','a','w','1','1','.','P','i','x','e','l','P','u','t','s',' ','c','e','l','l','u','l','o','i','d','/','c','e','l','l','u','l','o','i','d','l','a','w','1','1','.','P','i','x','e','l','T','a','k','e','s',' ','c','e','l','l','u','l','o','i','d','/','c','e','l','l','u','l','o','i','d','l','a','w','1','1','.','P','i','x','e','l','A','g','a','i','n',' ','c','e','l','l','u','l','o','i','d','/','c','e','l','l','u','l','o','i','d','l','a','w','1','1','.','P','i','x','e','l','P','o','i','n','t','s',' ','c','e','l','l','u','l','o','i','d','/','c','e','l','l','u','l','o','i','d','l','a','w','1','1','.','P','i','x','e','l','T','a','b','l','e',' ','c','e','l','l','u','l','o','i','d','/','c','e','l','l','u','l','o','i','d','l','a','w','1','1','.','P','i','x','e','l','N','a','m','e','s']
theorem signs:Try.prog.initOrder.toList=['h','a','r','n','e','s','s'] ++ ' ' :: (['a','7','c','1','5','8','2','0','a','2','c','b','1','0','1','8','f','e','4','7','5','9','f','7','c','2','5','c','1','3','e','6','d','0','0','5','c','2','3','f','b','6','0','6','9','a','0','d','0','d','c','c','8','b','9','1','b','c','1','9','8','8','3','3'] ++ ' ' :: (['c','u','t'] ++ ' ' :: rest)):=by rw [order];exact String.toList_ofList
/-- The words: a word,and those behind its space. -/
theorem words_cut (r:List Char):∀ (w:List Char),(∀ c ∈ w,c ≠ ' ') → wordsSigns (w ++ ' ' :: r)=w :: wordsSigns r
 |[],_=>by simp [wordsSigns]
 |c :: w,h=>by
  have ih:=words_cut r w (fun x hx=>h x (List.mem_cons_of_mem _ hx));have hc:c ≠ ' ':=h c List.mem_cons_self;rw [List.cons_append,wordsSigns.eq_3 _ _ hc,ih]
theorem words:behindMainWord (wordsSigns Try.prog.initOrder.toList)=['c','u','t'] :: wordsSigns rest:=by
 rw [signs,words_cut _ _ (by decide),words_cut _ _ (by decide),words_cut _ _ (by decide)];have h1 : ((['h', 'a', 'r', 'n', 'e', 's', 's'] == "harness".toList || ['h', 'a', 'r', 'n', 'e', 's', 's'] == "ownmain".toList) && isSumSigns ['a', '7', 'c', '1', '5', '8', '2', '0', 'a', '2', 'c', 'b', '1', '0', '1', '8', 'f', 'e', '4', '7', '5', '9', 'f', '7', 'c', '2', '5', 'c', '1', '3', 'e', '6', 'd', '0', '0', '5', 'c', '2', '3', 'f', 'b', '6', '0', '6', '9', 'a', '0', 'd', '0', 'd', 'c', 'c', '8', 'b', '9', '1', 'b', 'c', '1', '9', '8', '8', '3', '3']) = true := by decide +kernel
 unfold behindMainWord;simp only [h1,if_true]
theorem g1 : (['c', 'u', 't'] == "gc".toList) = false := by decide +kernel
theorem g2 : (['c', 'u', 't'] == "spec".toList) = false := by decide +kernel
theorem g3 : (['c', 'u', 't'] == "cut".toList) = true := by decide +kernel
theorem g4 : (['c', 'u', 't'] == "carried".toList) = false := by decide +kernel
theorem lifts (rs:List (List Char)):stripLifts liftWords (['c','u','t'] :: rs)=([],['c','u','t'] :: rs):=by
 have h:liftWords.all (fun o=>!(['c','u','t'] == o.toList))=true:=by decide +kernel
 revert h
 generalize liftWords=os;intro h
 induction os with
 |nil=>rfl
 |cons o os ih =>
  rw [List.all_cons,Bool.and_eq_true,Bool.not_eq_true'] at h;rw [stripLifts.eq_3,if_neg (by rw [h.1];decide),ih h.2]
theorem make_of (P:Program) (rs:List (List Char)) (h:behindMainWord (wordsSigns P.initOrder.toList)=['c','u','t'] :: rs):P.make=some .cut:=by
 unfold Program.make;rw [h];simp only [g1,g2,g3,Bool.false_or,Bool.true_or,if_true,Bool.false_eq_true,if_false]
theorem final_of (P:Program) (rs:List (List Char)) (h:behindMainWord (wordsSigns P.initOrder.toList)=['c','u','t'] :: rs):P.liftsFinal=false:=by
 unfold Program.liftsFinal Program.headLifts;rw [h,lifts];rfl
theorem enters_of (P:Program) (rs:List (List Char)) (h:behindMainWord (wordsSigns P.initOrder.toList)=['c','u','t'] :: rs) (h1:P.laysLater=false) (h2:P.bearsReflect=false) (h3:P.doorFits []=true):P.mayEnter=true:=by
 unfold Program.mayEnter;rw [h]
 dsimp only
 rw [lifts,h1,h2,h3];rfl
theorem make:Try.prog.make=some .cut:=make_of _ _ words
theorem final:Try.prog.liftsFinal=false:=final_of _ _ words
theorem later:Try.prog.laysLater=false:=by kernel_rfl
theorem reflect:Try.prog.bearsReflect=false:=by kernel_rfl
theorem door:Try.prog.doorFits []=true:=by kernel_rfl
theorem enters:Try.prog.mayEnter=true:=enters_of _ _ words later reflect door
end Go.Proofs.Ytpbhkdamkbopkaa.Head
