/- Parts of the proof, glued by a program of this session (wip/tools/claimfit.py). -/
import Derived.Test.YtpbhkdamkbopkaaMPTC
set_option linter.unusedVariables false
set_option linter.unusedSimpArgs false
set_option linter.unusedSectionVars false
namespace Go.Proofs.Ytpbhkdamkbopkaa.Rs
open Go Go.RowKit Rf YtpbhkdamkbopkaaW.PrintWords
variable {P:Program} {O:Orc} {KT:TypeId → KD} {T:TypeId → Option TE} {Γ:Gh} {ν:Nu} {h h':List (SR KT)} {nt:Nat}
inductive All2 {α:Type} {β:Type} (R:α → β → Prop):List α → List β → Prop
 |nil:All2 R [] []
 |cons {a:α} {b:β} {l:List α} {m:List β} (h:R a b) (t:All2 R l m):All2 R (a :: l) (b :: m)
theorem All2.mono {α β:Type} {R S:α → β → Prop} (k:∀ a b,R a b → S a b) {l:List α} {m:List β} (h:All2 R l m):All2 S l m:=by
 induction h with
 |nil=>exact .nil
 |cons h _ ih=>exact .cons (k _ _ h) ih
theorem All2.len {α β:Type} {R:α → β → Prop} {l:List α} {m:List β} (h:All2 R l m):l.length=m.length:=by
 induction h with
 |nil=>rfl
 |cons h _ ih=>simp [ih]
theorem All2.get {α β:Type} {R:α → β → Prop} {l:List α} {m:List β} (h:All2 R l m):∀ {i:Nat} {b:β},m[i]?=some b → ∃ a,l[i]?=some a∧R a b:=by
 induction h with
 |nil=>intro i b e;simp at e
 |cons h _ ih =>
  intro i b e;cases i with
  |zero=>simp at e;subst e;exact ⟨_,rfl,h⟩
  |succ i=>simpa using ih (by simpa using e)
theorem All2.app {α β:Type} {R:α → β → Prop} {l:List α} {m:List β} (h:All2 R l m) {l':List α} {m':List β} (k:All2 R l' m'):All2 R (l ++ l') (m ++ m'):=by
 induction h with
 |nil=>exact k
 |cons h _ ih=>exact .cons h ih
theorem All2.rev {α β:Type} {R:α → β → Prop} {l:List α} {m:List β} (h:All2 R l m):All2 R l.reverse m.reverse:=by
 induction h with
 |nil=>exact .nil
 |cons h _ ih=>rw [List.reverse_cons,List.reverse_cons];exact ih.app (.cons h .nil)
theorem zip_all' {α:Type} {l:List α} {f:α × Nat → Bool}:l.zipIdx.all f=true ↔ ∀ (i:Nat) (x:α),l[i]?=some x → f (x,i)=true:=by
 rw [List.all_eq_true];constructor
 ·intro h i x hx;exact h (x,i) (by rw [List.mem_zipIdx_iff_getElem?];exact hx)
 ·intro h p hp;obtain ⟨x,i⟩:=p;exact h i x (by rw [List.mem_zipIdx_iff_getElem?] at hp;exact hp)
theorem free2_tr {A:AW} (em:Emb ν h A) {x y x' y':Nat × Nat} (hx:KR ν h x x') (hy:KR ν h y y') (e:free2 x y=true):free2 x' y'=true ∨ y'.1=0:=by
 obtain ⟨k,f⟩:=x;obtain ⟨m,g⟩:=y;obtain ⟨k',f'⟩:=x';obtain ⟨m',g'⟩:=y';by_cases hm:m'=0
 ·exact .inr hm
 refine .inl ?_;by_cases hk:k'=0
 ·subst hk;unfold free2;simp
 have small:∀ a b:Nat × Nat,(a.1=1∧1≤b.1∧b.1≤4) ∨ (b.1=1∧1≤a.1∧a.1≤4) → free2 a b=true:=by
  rintro ⟨a,p⟩ ⟨b,q⟩ hh;simp only at hh;have:(a=1∧(b=1 ∨ b=2 ∨ b=3 ∨ b=4)) ∨ (b=1∧(a=1 ∨ a=2 ∨ a=3 ∨ a=4)):=by omega
  rcases this with ⟨rfl,rfl | rfl | rfl | rfl⟩ | ⟨rfl,rfl | rfl | rfl | rfl⟩ <;> rfl
 have read:∀ a b:Nat × Nat,(a.1=2 ∨ a.1=4) → (b.1=2 ∨ b.1=4) → free2 a b=true:=by
  rintro ⟨a,p⟩ ⟨b,q⟩ h1 h2;simp only at h1 h2
  rcases h1 with rfl | rfl <;> rcases h2 with rfl | rfl <;> rfl
 have R:∀ {a b:Nat × Nat},KR ν h a b → b.1 ≠ 0 → a.1≤4 → 1≤b.1∧b.1≤4:=by
  intro a b q hb ha;obtain ⟨a,p⟩:=a;unfold KR at q;simp only at ha q;have:a=0 ∨ a=1 ∨ a=2 ∨ a=3 ∨ a=4:=by omega
  rcases this with rfl | rfl | rfl | rfl | rfl
  ·exact absurd q hb
  ·rcases q with q | q <;> omega
  ·rcases q with q | ⟨_,_,_,_,_,_,_,_,q⟩
   ·omega
   ·rw [q];exact ⟨by simp,by simp⟩
  ·obtain ⟨_,_,_,_,_,_,_,_,_,q⟩:=q;rw [q];exact ⟨by simp,by simp⟩
  ·rcases q with q | q | q <;> omega
 have Z:∀ {a b:Nat × Nat},KR ν h a b → b.1 ≠ 0 → a.1 ≠ 0:=by
  intro a b q hb ha;obtain ⟨a,p⟩:=a;simp only at ha;subst ha;exact hb q
 have zx:=Z hx hk;have zy:=Z hy hm;simp only at zx zy
 have mask:∀ {a b:Nat} {a' b':Nat × Nat},KR ν h (2,a) a' → KR ν h (5,b) b' → a'.1 ≠ 0 → b'.1 ≠ 0 → b.testBit a=false → free2 a' b'=true∧free2 b' a'=true:=by
  rintro a b a' ⟨b1',b2'⟩ ha hb na nb hab
  rcases ha with ha | ⟨i,s,blk,base,cap,a1,a2,a3,rfl⟩
  ·exact absurd ha na
  rcases hb with hb | hb | hb | ⟨hb,q⟩
  ·exact absurd hb nb
  ·simp only at hb;subst hb;exact ⟨small _ _ (.inr ⟨rfl,by simp,by simp⟩),small _ _ (.inl ⟨rfl,by simp,by simp⟩)⟩
  ·simp only at hb;subst hb;exact ⟨read _ _ (.inl rfl) (.inr rfl),read _ _ (.inr rfl) (.inl rfl)⟩
  ·simp only at hb;subst hb
   have:b2'.testBit blk=false:=by
    cases hq:b2'.testBit blk with
    |false=>rfl
    |true =>
     obtain ⟨i',s',base',cap',r1,r2,r3,r4⟩:=q blk hq;exact absurd rfl (em.inj i s i' s' a1 r1 (fun hr=>by rw [← hr,a2] at r3;rw [show (5,b).2=b from rfl,hab] at r3;cases r3) (.inr r2) _ _ _ _ _ _ a3 r4)
   exact ⟨by simp only [free2,this];rfl,by simp only [free2,this];rfl⟩
 by_cases h25:k=2∧m=5
 ·obtain ⟨rfl,rfl⟩:=h25;refine (mask hx hy hk hm ?_).1;have e:(!g.testBit f)=true:=e
  simpa using e
 by_cases h52:k=5∧m=2
 ·obtain ⟨rfl,rfl⟩:=h52;refine (mask hy hx hm hk ?_).2;have e:(!f.testBit g)=true:=e
  simpa using e
 have lek:k≤4∧m≤4:=by
  unfold free2 at e
  split at e
  ·rename_i q1 q2;cases q1;cases q2;omega
  ·rename_i q1 q2;cases q1;cases q2;omega
  ·rename_i q1 q2;cases q1;cases q2;omega
  ·rename_i q1 q2;cases q1;cases q2;omega
  ·rename_i q1 q2;cases q1;cases q2;omega
  ·rename_i a a1 b b1 _ _ _ _ _ q1 q2;cases q1;cases q2;simp only [Bool.or_eq_true,Bool.and_eq_true] at e
   rcases e with ((e | e) | ⟨⟨e1,e2⟩,_⟩) | ⟨e1,e2⟩
   ·exact absurd (Nat.eq_of_beq_eq_true e) zx
   ·exact absurd (Nat.eq_of_beq_eq_true e) zy
   ·exact ⟨Nat.le_of_ble_eq_true e1,Nat.le_of_ble_eq_true e2⟩
   ·constructor
    ·rcases e1 with e1 | e1 <;> (have:=Nat.eq_of_beq_eq_true e1;omega)
    ·rcases e2 with e2 | e2 <;> (have:=Nat.eq_of_beq_eq_true e2;omega)
 have rx:=R hx hk lek.1;have ry:=R hy hm lek.2;simp only at rx ry
 have sep:∀ {a b a' b':Nat × Nat},KR ν h a a' → KR ν h b b' → a'.1 ≠ 0 → b'.1 ≠ 0 → (a.1=2∧b.1=3 ∨ a.1=3∧b.1=2 ∨ a.1=3∧b.1=3) → a.2 ≠ b.2 → free2 a' b'=true:=by
  rintro ⟨a,p⟩ ⟨b,q⟩ a' b' ha hb na nb hh hne;simp only at hh hne;unfold KR at ha hb
  rcases hh with ⟨rfl,rfl⟩ | ⟨rfl,rfl⟩ | ⟨rfl,rfl⟩
  ·rcases ha with ha | ⟨i,s,blk,base,cap,a1,a2,a3,a4⟩
   ·exact absurd ha na
   ·obtain ⟨i',s',blk',base',cap',b1,b2,b3,b4,b5⟩:=hb;have:=em.inj i s i' s' a1 b1 (by rw [a2,b2];exact hne) (.inr b3) _ _ _ _ _ _ a3 b4;rw [a4,b5];unfold free2;simp only [Tr.beqf this];rfl
  ·obtain ⟨i,s,blk,base,cap,a1,a2,a3,a4,a5⟩:=ha
   rcases hb with hb | ⟨i',s',blk',base',cap',b1,b2,b3,b4⟩
   ·exact absurd hb nb
   ·have:=em.inj i s i' s' a1 b1 (by rw [a2,b2];exact hne) (.inl a3) _ _ _ _ _ _ a4 b3;rw [a5,b4];unfold free2;simp only [Tr.beqf this];rfl
  ·obtain ⟨i,s,blk,base,cap,a1,a2,a3,a4,a5⟩:=ha;obtain ⟨i',s',blk',base',cap',b1,b2,b3,b4,b5⟩:=hb;have:=em.inj i s i' s' a1 b1 (by rw [a2,b2];exact hne) (.inl a3) _ _ _ _ _ _ a4 b4;rw [a5,b5];unfold free2;simp only [Tr.beqf this];rfl
 have kk:k=1 ∨ k=2 ∨ k=3 ∨ k=4:=by omega
 have mm:m=1 ∨ m=2 ∨ m=3 ∨ m=4:=by omega
 have one_:∀ {a a':Nat × Nat},KR ν h a a' → a'.1 ≠ 0 → a.1=1 → a'.1=1:=by
  rintro ⟨a,p⟩ a' q hz ha;simp only at ha;subst ha
  rcases q with q | q
  ·exact absurd q hz
  ·exact q
 have two_:∀ {a a':Nat × Nat},KR ν h a a' → a'.1 ≠ 0 → a.1=2 → a'.1=2:=by
  rintro ⟨a,p⟩ a' q hz ha;simp only at ha;subst ha
  rcases q with q | ⟨_,_,_,_,_,_,_,_,q⟩
  ·exact absurd q hz
  ·rw [q]
 have four_:∀ {a a':Nat × Nat},KR ν h a a' → a'.1 ≠ 0 → a.1=4 → a'.1=1 ∨ a'.1=4:=by
  rintro ⟨a,p⟩ a' q hz ha;simp only at ha;subst ha
  rcases q with q | q | q
  ·exact absurd q hz
  ·exact .inl q
  ·exact .inr q
 have bad34:∀ {p q:Nat},¬ free2 (3,p) (4,q)=true∧¬ free2 (4,p) (3,q)=true:=fun {p q}=>⟨by simp [free2],by simp [free2]⟩
 rcases kk with rfl | rfl | rfl | rfl
 ·exact small _ _ (.inl ⟨one_ hx hk rfl,ry.1,ry.2⟩)
 ·rcases mm with rfl | rfl | rfl | rfl
  ·exact small _ _ (.inr ⟨one_ hy hm rfl,rx.1,rx.2⟩)
  ·exact read _ _ (.inl (two_ hx hk rfl)) (.inl (two_ hy hm rfl))
  ·refine sep hx hy hk hm (.inl ⟨rfl,rfl⟩) fun q=>?_;simp only at q;subst q;unfold free2 at e;simp at e
  ·rcases four_ hy hm rfl with q | q
   ·exact small _ _ (.inr ⟨q,rx.1,rx.2⟩)
   ·exact read _ _ (.inl (two_ hx hk rfl)) (.inr q)
 ·rcases mm with rfl | rfl | rfl | rfl
  ·exact small _ _ (.inr ⟨one_ hy hm rfl,rx.1,rx.2⟩)
  ·refine sep hx hy hk hm (.inr (.inl ⟨rfl,rfl⟩)) fun q=>?_;simp only at q;subst q;unfold free2 at e;simp at e
  ·refine sep hx hy hk hm (.inr (.inr ⟨rfl,rfl⟩)) fun q=>?_;simp only at q;subst q;unfold free2 at e;simp at e
  ·exact absurd e bad34.1
 ·rcases mm with rfl | rfl | rfl | rfl
  ·exact small _ _ (.inr ⟨one_ hy hm rfl,rx.1,rx.2⟩)
  ·rcases four_ hx hk rfl with q | q
   ·exact small _ _ (.inl ⟨q,ry.1,ry.2⟩)
   ·exact read _ _ (.inr q) (.inl (two_ hy hm rfl))
  ·exact absurd e bad34.2
  ·rcases four_ hx hk rfl with q | q
   ·exact small _ _ (.inl ⟨q,ry.1,ry.2⟩)
   ·rcases four_ hy hm rfl with q2 | q2
    ·exact small _ _ (.inr ⟨q2,rx.1,rx.2⟩)
    ·exact read _ _ (.inr q) (.inr q2)
theorem kinds_tr {A:AW} (em:Emb ν h A) {b:List Nat} {ks kr:List (Nat × Nat)} (a:All2 (KR ν h) ks kr) (e:kindsOk b ks=true):kindsOk b kr=true:=by
 unfold kindsOk at e ⊢;rw [zip_all'] at e ⊢;intro j y hy;obtain ⟨ys,q1,q2⟩:=a.get hy;have e1:=e j ys q1;simp only [Bool.or_eq_true] at e1 ⊢
 rcases e1 with e1 | e1
 ·left
  have:ys.1=0:=Nat.eq_of_beq_eq_true e1;unfold KR at q2;rw [this] at q2;rw [q2];rfl
 ·by_cases hz:y.1=0
  ·left;rw [hz];rfl
  right
  rw [zip_all'] at e1 ⊢;intro i x hx;obtain ⟨xs,p1,p2⟩:=a.get hx;have e2:=e1 i xs p1;simp only [Bool.or_eq_true] at e2 ⊢
  rcases e2 with (e2 | e2) | e2
  ·exact .inl (.inl e2)
  ·rcases free2_tr em p2 q2 e2 with q | q
   ·exact .inl (.inr q)
   ·exact absurd q hz
  ·exact .inr e2
def Fin (Γ:Gh) (Q:(Nat → SV) → List (SR KT) → Prop) (s:St):Prop:=∃ ν ρ h,SI Γ ν h s.A∧SL ν ρ s.tm∧Q ρ h
def WR (P:Program) (O:Orc) (nt:Nat) (ops:Array Oper) (draw:Bool) (Γ:Gh) (l:List Oper) (ρ:Nat → SV) (h:List (SR KT)) (ks:List (Nat × Nat)) (Q:(Nat → SV) → List (SR KT) → Prop):Prop :=
 ∀ ν A tm,SI Γ ν h A → SL ν ρ tm → match draw with
  |true=>∀ kr,All2 (KR ν h) ks kr → ∃ n s' r,runDraw P (cl P O n) nt ops l ⟨tm,A⟩ kr=some (s',r)∧kindsOk (masks ops.toList 0 []) r=true∧Fin Γ Q s'
  |false=>∃ n s',runOps P (cl P O n) nt ops l ⟨tm,A⟩=some s'∧Fin Γ Q s'
theorem SI.relow {A:AW} (s:SI Γ ν h A) {n:Nat} (hn:∀ b,n.testBit b=true → Γ.W b):SI Γ ν h ⟨A.heap,A.next,n⟩ :=
 ⟨⟨fun i x e => by
   obtain ⟨nv,q1,q2⟩:=s.emb.row i x e;exact ⟨nv,q1,q2.up (Rs.Ext.refl ν) fun _ _ _ _=>rfl⟩,s.emb.out,s.emb.lt,s.emb.inj,s.emb.rt⟩,s.wf,s.prot,s.sep,s.pins,s.npl,hn,s.lwn⟩
def One (P:Program) (O:Orc) (nt:Nat) (ops:Array Oper) (Γ:Gh) (o:Oper) (ρ:Nat → SV) (h:List (SR KT)) (k:Nat × Nat) (ρ1:Nat → SV) (h1:List (SR KT)):Prop :=
 ∀ ν A tm,SI Γ ν h A → SL ν ρ tm → ∃ n s',stepOp P (cl P O n) nt ops o ⟨tm,A⟩=some s'∧∃ ν',SI Γ ν' h1 s'.A∧SL ν' ρ1 s'.tm∧Rs.Ext ν ν'∧HX h h1 ∧
  (A.ts=0 → KR ν' h1 k (match awanted ops tm o with | some true=>kindOf (ev tm) o.op A s'.A | _=>(0,0)))
theorem WR.step {ops : Array Oper} {draw : Bool} {o : Oper} {l : List Oper} {ρ ρ1 : Nat → SV} {h1 : List (SR KT)} {ks : List (Nat × Nat)} {k : Nat × Nat} {Q : (Nat → SV) → List (SR KT) → Prop}
  (hs:One P O nt ops Γ o ρ h k ρ1 h1) (hr:WR P O nt ops draw Γ l ρ1 h1 (k :: ks) Q):WR P O nt ops draw Γ (o :: l) ρ h ks Q:=by
 intro ν A tm s sl;cases draw with
 |false =>
  obtain ⟨n,s1,e1,ν1,q1,q2,q3,q4,_⟩:=hs ν A tm s sl;obtain ⟨m,s2,e2,r⟩:=hr ν1 s1.A s1.tm q1 q2;refine ⟨max n m,s2,?_,r⟩;unfold runOps;rw [stepOp_le (cl_le (Nat.le_max_left n m)) e1];exact runOps_le (cl_le (Nat.le_max_right n m)) l e2
 |true =>
  intro kr a;obtain ⟨n,s1,e1,ν1,q1,q2,q3,q4,q5⟩:=hs ν ⟨A.heap,A.next,0⟩ tm (s.relow fun b q=>by rw [Nat.zero_testBit] at q;cases q) sl;have q5:=q5 rfl
  have hlow:∀ b,(A.ts ||| s1.A.ts).testBit b=true → Γ.W b:=fun b q=>by
   rw [Nat.testBit_or,Bool.or_eq_true] at q;exact q.elim (s.low b) (q1.low b)
  obtain ⟨m,s2,r,e2,e3⟩:=hr ν1 ⟨s1.A.heap,s1.A.next,A.ts ||| s1.A.ts⟩ s1.tm (q1.relow hlow) q2 _ (.cons q5 (a.mono fun x y q=>q.up q3 q4));refine ⟨max n m,s2,r,?_,e3⟩;unfold runDraw;simp only;rw [stepOp_le (cl_le (Nat.le_max_left n m)) e1];exact runDraw_le (cl_le (Nat.le_max_right n m)) l e2
theorem WR.nil {ops:Array Oper} {draw:Bool} {ρ:Nat → SV} {ks:List (Nat × Nat)} {Q:(Nat → SV) → List (SR KT) → Prop} (hk:draw=true → kindsOk (masks ops.toList 0 []) ks.reverse=true) (hQ:Q ρ h):WR P O nt ops draw Γ [] ρ h ks Q:=by
 intro ν A tm s sl;cases draw with
 |false=>exact ⟨0,_,rfl,ν,ρ,h,s,sl,hQ⟩
 |true =>
  intro kr a;exact ⟨0,_,_,rfl,kinds_tr s.emb a.rev (hk rfl),ν,ρ,h,s,sl,hQ⟩
theorem awanted_of {ρ:Nat → SV} {tm:Tr Value} {ops:Array Oper} {o:Oper} {b:Bool} (sl:SL ν ρ tm) (e:sguard ρ ops.toList o=some b):awanted ops tm o=some b:=by
 unfold sguard at e;unfold awanted
 split at e
 ·rename_i h1;(try rw [h1]);exact e
 ·rename_i g want h1
  (try rw [h1])
  (try simp only)
  rw [Array.getElem?_toList] at e
  split at e
  ·rename_i d h2
   (try rw [h2])
   have hd:=sl d
   split at e
   ·rename_i h3;rw [h3] at hd;have hd:tget tm d=.bool true:=hd;simp only [hd];cases want <;> exact e
   ·rename_i h3;rw [h3] at hd;have hd:tget tm d=.bool false:=hd;simp only [hd];cases want <;> exact e
   ·rename_i h3;rw [h3] at hd;have hd:tget tm d=.tuple _:=hd;simp only [hd];exact e
   ·cases e
  ·cases e
theorem SL.set {ρ:Nat → SV} {tm:Tr Value} {t:Nat} {v:SV} {u:Value} (sl:SL ν ρ tm) (d:DV ν v u):SL ν (upd ρ t v) (tm.set t u):=fun i=>by
 unfold upd;rw [tget_set];by_cases hi:i=t
 ·subst hi;rw [if_pos rfl,Tr.beqt rfl];exact d
 ·rw [if_neg hi,Tr.beqf hi];exact sl i
theorem putD_set {tm:Tr Value} {t:Nat} {u:Value} (ht:Nat.blt t nt=true):putD nt tm (some t) u=some (tm.set t u):=by
 unfold putD;simp only [ht,cond_true,fV_eq]
def updO (ρ:Nat → SV) (d:Option Nat) (v:SV):Nat → SV:=match d with
 |some t=>upd ρ t v
 |none=>ρ
def dstOk (nt:Nat) (d:Option Nat):Prop:=∀ t,d=some t → Nat.blt t nt=true
theorem put_ok {ρ:Nat → SV} {tm:Tr Value} {d:Option Nat} {v:SV} {u:Value} (hd:dstOk nt d) (sl:SL ν ρ tm) (x:DV ν v u):∃ tm',putD nt tm d u=some tm'∧SL ν (updO ρ d v) tm':=by
 cases d with
 |none=>exact ⟨tm,rfl,sl⟩
 |some t=>exact ⟨_,putD_set (hd t rfl),sl.set x⟩
theorem One.op (tk:TOK P KT T) {ops:Array Oper} {o:Oper} {ρ:Nat → SV} {h1:List (SR KT)} {v:SV} {k:Nat × Nat} {cs:List Prop} (hg:sguard ρ ops.toList o=some true) (hcl:opClean o.op=true) (e:sop T ρ o.op h=some (v,h1,k,cs)) (hc:AllP cs) (hd:dstOk nt o.dst):One P O nt ops Γ o ρ h k (updO ρ o.dst v) h1:=by
 intro ν A tm s sl;obtain ⟨r,u,A',ν',q1,q2,q3,q4,q5,q6,q7⟩:=sop_ok tk (ρe:=ev tm) s (fun x=>sev_ok sl x) e hc;have hw:=awanted_of sl hg;obtain ⟨tm',p1,p2⟩:=put_ok hd (sl.ext q5) q3
 have run:stepOp P (cl P O 0) nt ops o ⟨tm,A⟩=some ⟨tm',A'⟩:=by
  unfold stepOp;simp only [hw,hcl,cond_true,q1 o rfl]
  rcases q2 with rfl | ⟨rfl,rfl⟩
  ·simp only [p1,Option.map_some]
  ·simp only [p1,Option.map_some]
 exact ⟨0,_,run,ν',q4,p2,q5,q6,fun hl=>by rw [hw];exact q7 hl⟩
theorem One.off {ops:Array Oper} {o:Oper} {ρ:Nat → SV} (hg:sguard ρ ops.toList o=some false) (hd:dstOk nt o.dst):One (KT:=KT) P O nt ops Γ o ρ h (0,0) (updO ρ o.dst (c1 (.raw undef))) h:=by
 intro ν A tm s sl;have hw:=awanted_of sl hg;obtain ⟨tm',p1,p2⟩:=put_ok (u:=undef) (v:=c1 (.raw undef)) hd sl rfl
 have run:stepOp P (cl P O 0) nt ops o ⟨tm,A⟩=some ⟨tm',A⟩:=by
  unfold stepOp;simp only [hw,p1,Option.map_some]
 exact ⟨0,_,run,ν,s,p2,Rs.Ext.refl ν,HX.refl _,fun _=>by rw [hw];rfl⟩
def addL:List Prop → List (List Prop) → List (List Prop)
 |[],cs=>cs
 |p :: c,cs=>(p :: c) :: cs
theorem addc_is.{v} {β:Type v} (c:List Prop) (cs:List (List Prop)) (k:List (List Prop) → β):addc c cs k=k (addL c cs):=by cases c <;> rfl
theorem WR.run_ (tk : TOK P KT T) {ops : Array Oper} {draw : Bool} {Q : (Nat → SV) → List (SR KT) → Prop} : ∀ (n : Nat) {l l' : List Oper} {ρ ρ' : Nat → SV} {h h' : List (SR KT)} {ks ks' : List (Nat × Nat)} {cs cs' : List (List Prop)},
  srun T nt ops.toList n l ρ h ks cs=some (l',ρ',h',ks',cs') → (∀ c ∈ cs',AllP c) → (∀ c ∈ cs,c ∈ cs')∧(WR P O nt ops draw Γ l' ρ' h' ks' Q → WR P O nt ops draw Γ l ρ h ks Q)
 |0,l,l',ρ,ρ',h,h',ks,ks',cs,cs',e,hc=>by
  unfold srun at e;simp only [Option.some.injEq,Prod.mk.injEq] at e;obtain ⟨rfl,rfl,rfl,rfl,rfl⟩:=e;exact ⟨fun _ h=>h,fun h=>h⟩
 |n+1,[],l',ρ,ρ',h,h',ks,ks',cs,cs',e,hc=>by
  unfold srun at e;simp only [Option.some.injEq,Prod.mk.injEq] at e;obtain ⟨rfl,rfl,rfl,rfl,rfl⟩:=e;exact ⟨fun _ h=>h,fun h=>h⟩
 |n+1,o :: l,l',ρ,ρ',h,h',ks,ks',cs,cs',e,hc=>by
  unfold srun at e
  split at e
  ·rename_i hg
   split at e
   ·rename_i v h1 k c hcl hop
    have go : ∀ ρ1, ρ1 = updO ρ o.dst v → dstOk nt o.dst → srun T nt ops.toList n l ρ1 h1 (k :: ks) (addL c cs) = some (l', ρ', h', ks', cs') →
      (∀ c ∈ cs,c ∈ cs')∧(WR P O nt ops draw Γ l' ρ' h' ks' Q → WR P O nt ops draw Γ (o :: l) ρ h ks Q):=fun ρ1 e1 hd e=>by
     subst e1;obtain ⟨a,b⟩:=WR.run_ (draw:=draw) (Q:=Q) tk n e hc
     have hcc:AllP c:=by
      cases c with
      |nil=>trivial
      |cons p q=>exact hc _ (a _ (List.mem_cons_self ..))
     refine ⟨fun x hx=>a x ?_,fun r=>WR.step (One.op tk hg hcl hop hcc hd) (b r)⟩;cases c with
     |nil=>exact hx
     |cons p q=>exact List.mem_cons_of_mem _ hx
    split at e
    ·rename_i t ht
     split at e
     ·rename_i hb;rw [addc_is] at e;exact go _ (by simp only [ht,updO]) (fun t' q=>by rw [ht] at q;cases q;exact hb) e
     ·cases e
    ·rename_i ht;rw [addc_is] at e;exact go _ (by simp only [ht,updO]) (fun t' q=>by rw [ht] at q;cases q) e
   ·cases e
  ·rename_i hg
   have go : ∀ ρ1, ρ1 = updO ρ o.dst (c1 (.raw undef)) → dstOk nt o.dst → srun T nt ops.toList n l ρ1 h ((0, 0) :: ks) cs = some (l', ρ', h', ks', cs') →
     (∀ c ∈ cs,c ∈ cs')∧(WR P O nt ops draw Γ l' ρ' h' ks' Q → WR P O nt ops draw Γ (o :: l) ρ h ks Q):=fun ρ1 e1 hd e=>by
    subst e1;obtain ⟨a,b⟩:=WR.run_ (draw:=draw) (Q:=Q) tk n e hc;exact ⟨a,fun r=>WR.step (One.off hg hd) (b r)⟩
   split at e
   ·rename_i t ht
    split at e
    ·rename_i hb;exact go _ (by simp only [ht,updO]) (fun t' q=>by rw [ht] at q;cases q;exact hb) e
    ·cases e
   ·rename_i ht;exact go _ (by simp only [ht,updO]) (fun t' q=>by rw [ht] at q;cases q) e
  ·cases e
theorem AllPP_get:∀ {cs:List (List Prop)},AllPP cs → ∀ c ∈ cs,AllP c
 |[],_,c,h=>by cases h
 |d :: cs,h,c,hc=>by
  cases hc with
  |head=>exact h.1
  |tail _ hc=>exact AllPP_get h.2 c hc
theorem WR.run (tk : TOK P KT T) (n : Nat) {ops : Array Oper} {draw : Bool} {Q : (Nat → SV) → List (SR KT) → Prop} {l l' : List Oper} {ρ ρ' : Nat → SV} {ks ks' : List (Nat × Nat)} {cs : List (List Prop)}
  (e:srun T nt ops.toList n l ρ h ks []=some (l',ρ',h',ks',cs)) (hc:AllPP cs) (r:WR P O nt ops draw Γ l' ρ' h' ks' Q):WR P O nt ops draw Γ l ρ h ks Q :=
 (WR.run_ tk n e (AllPP_get hc)).2 r
theorem WR.split {ops : Array Oper} {draw : Bool} {Q : (Nat → SV) → List (SR KT) → Prop} {l : List Oper} {ρ : Nat → SV} {ks : List (Nat × Nat)} (d : Nat) {b : Bool} (e : ρ d = c1 (.bool b))
  (h1:b=true → WR P O nt ops draw Γ l (upd ρ d (c1 (.bool true))) h ks Q) (h2:b=false → WR P O nt ops draw Γ l (upd ρ d (c1 (.bool false))) h ks Q):WR P O nt ops draw Γ l ρ h ks Q:=by
 have same:upd ρ d (c1 (.bool b))=ρ:=by
  funext i
  unfold upd;by_cases hi:i=d
  ·subst hi;rw [Tr.beqt rfl];exact e.symm
  ·rw [Tr.beqf hi];rfl
 cases b with
 |true=>rw [← same];exact h1 rfl
 |false=>rw [← same];exact h2 rfl
def WS (P:Program) (O:Orc) (nt:Nat) (Γ:Gh) (x:Code) (ρ:Nat → SV) (h:List (SR KT)) (Q:AEx → (Nat → SV) → List (SR KT) → Prop):Prop :=
 ∀ ν A tm,SI Γ ν h A → SL ν ρ tm → X P O nt x ⟨tm,A⟩ fun ex s=>Fin Γ (Q ex) s
theorem WS.seq {a b:Code} {ρ:Nat → SV} {Q:AEx → (Nat → SV) → List (SR KT) → Prop} (k:WS P O nt Γ a ρ h fun ex ρ h=>match ex with | .normal=>WS P O nt Γ b ρ h Q | ex=>Q ex ρ h):WS P O nt Γ (.seq a b) ρ h Q:=fun ν A tm s sl =>
 X.seq ((k ν A tm s sl).mono fun ex s' hf=>by
  obtain ⟨ν',ρ',h',q1,q2,q3⟩:=hf;cases ex with
  |normal=>exact q3 ν' s'.A s'.tm q1 q2
  |exit i=>exact ⟨ν',ρ',h',q1,q2,q3⟩
  |ret=>exact ⟨ν',ρ',h',q1,q2,q3⟩)
theorem WS.mono {a:Code} {ρ:Nat → SV} {Q R:AEx → (Nat → SV) → List (SR KT) → Prop} (k:WS P O nt Γ a ρ h Q) (m:∀ ex ρ h,Q ex ρ h → R ex ρ h):WS P O nt Γ a ρ h R:=fun ν A tm s sl =>
 (k ν A tm s sl).mono fun ex s' ⟨ν',ρ',h',q1,q2,q3⟩=>⟨ν',ρ',h',q1,q2,m _ _ _ q3⟩
theorem WS.join {a b : Code} {ρ : Nat → SV} {Q : AEx → (Nat → SV) → List (SR KT) → Prop} (S : (Nat → SV) → List (SR KT) → Prop)
  (ka:WS P O nt Γ a ρ h fun ex ρ h=>match ex with | .normal=>((∀ ρ h,S ρ h → WS P O nt Γ b ρ h Q) → WS P O nt Γ b ρ h Q) | ex=>Q ex ρ h) (kb:∀ ρ h,S ρ h → WS P O nt Γ b ρ h Q):WS P O nt Γ (.seq a b) ρ h Q :=
 WS.seq (ka.mono fun ex ρ h q=>by
  cases ex with
  |normal=>exact q kb
  |exit i=>exact q
  |ret=>exact q)
theorem WS.block {a:Code} {id:Nat} {ρ:Nat → SV} {Q:AEx → (Nat → SV) → List (SR KT) → Prop} (k:WS P O nt Γ a ρ h fun ex ρ h=>match ex with | .exit j=>Q (bif Nat.beq j id then .normal else .exit j) ρ h | ex=>Q ex ρ h):WS P O nt Γ (.block id a) ρ h Q:=fun ν A tm s sl =>
 X.block ((k ν A tm s sl).mono fun ex s' hf=>by
  obtain ⟨ν',ρ',h',q1,q2,q3⟩:=hf;cases ex <;> exact ⟨ν',ρ',h',q1,q2,q3⟩)
theorem WS.cond {c:Operand} {a b:Code} {ρ:Nat → SV} {v:Bool} {Q:AEx → (Nat → SV) → List (SR KT) → Prop} (e:sev ρ c=c1 (.bool v)) (k1:v=true → WS P O nt Γ a ρ h Q) (k2:v=false → WS P O nt Γ b ρ h Q):WS P O nt Γ (.cond c a b) ρ h Q:=fun ν A tm s sl=>by
 have hv:ev tm c=.bool v:=by have:=sev_ok sl c;rw [e] at this;exact this
 refine X.cond hv ?_;cases v with
 |true=>exact k1 rfl ν A tm s sl
 |false=>exact k2 rfl ν A tm s sl
theorem WS.skip {ρ:Nat → SV} {Q:AEx → (Nat → SV) → List (SR KT) → Prop} (k:Q .normal ρ h):WS P O nt Γ .skip ρ h Q:=fun ν A tm s sl=>X.skip ⟨ν,ρ,h,s,sl,k⟩
theorem WS.label {l:Nat} {ρ:Nat → SV} {Q:AEx → (Nat → SV) → List (SR KT) → Prop} (k:Q .normal ρ h):WS P O nt Γ (.label l) ρ h Q:=fun ν A tm s sl=>X.label ⟨ν,ρ,h,s,sl,k⟩
theorem WS.ret {ρ:Nat → SV} {Q:AEx → (Nat → SV) → List (SR KT) → Prop} (k:Q .ret ρ h):WS P O nt Γ .ret ρ h Q:=fun ν A tm s sl=>X.ret ⟨ν,ρ,h,s,sl,k⟩
theorem WS.exit {l:Nat} {ρ:Nat → SV} {Q:AEx → (Nat → SV) → List (SR KT) → Prop} (k:Q (.exit l) ρ h):WS P O nt Γ (.exit l) ρ h Q:=fun ν A tm s sl=>X.exit ⟨ν,ρ,h,s,sl,k⟩
theorem WS.scope {a:Code} {ρ:Nat → SV} {Q:AEx → (Nat → SV) → List (SR KT) → Prop} (k:WS P O nt Γ a ρ h Q):WS P O nt Γ (.scope a) ρ h Q:=fun ν A tm s sl=>X.scope (k ν A tm s sl)
theorem WS.region {id:Nat} {ops:Array Oper} {draw:Bool} {ρ:Nat → SV} {Q:AEx → (Nat → SV) → List (SR KT) → Prop} (hd:draw=true → drawOk ops=true) (k:WR P O nt ops draw Γ ops.toList ρ h [] (Q .normal)):WS P O nt Γ (.region id ops draw) ρ h Q:=fun ν A tm s sl=>by
 cases draw with
 |false =>
  obtain ⟨n,s',e,f⟩:=k ν A tm s sl;exact X.region (n:=n) (by unfold Rf.region;exact e) f
 |true =>
  obtain ⟨n,s',r,e,e2,f⟩:=k ν A tm s sl [] .nil;exact X.region (n:=n) (by unfold Rf.region;simp only [cond_true,hd rfl,e,e2]) f
theorem WS.loop_ {a:Code} {ρ:Nat → SV} {Q:AEx → (Nat → SV) → List (SR KT) → Prop} (k:WS P O nt Γ a ρ h fun ex ρ h=>match ex with | .normal=>WS P O nt Γ (.loop a) ρ h Q | ex=>Q ex ρ h):WS P O nt Γ (.loop a) ρ h Q:=fun ν A tm s sl =>
 X.loop ((k ν A tm s sl).mono fun ex s' hf=>by
  obtain ⟨ν',ρ',h',q1,q2,q3⟩:=hf;cases ex with
  |normal=>exact q3 ν' s'.A s'.tm q1 q2
  |exit i=>exact ⟨ν',ρ',h',q1,q2,q3⟩
  |ret=>exact ⟨ν',ρ',h',q1,q2,q3⟩)
theorem WS.loop {a : Code} {Q : AEx → (Nat → SV) → List (SR KT) → Prop} (S : Nat → (Nat → SV) → List (SR KT) → Prop)
  (k:∀ n ρ h,(∀ m,m < n → ∀ ρ h,S m ρ h → WS P O nt Γ (.loop a) ρ h Q) → S n ρ h → WS P O nt Γ a ρ h fun ex ρ h=>match ex with | .normal=>WS P O nt Γ (.loop a) ρ h Q | ex=>Q ex ρ h) :
  ∀ {n:Nat} {ρ:Nat → SV} {h:List (SR KT)},S n ρ h → WS P O nt Γ (.loop a) ρ h Q:=by
 intro n
 induction n using Nat.strongRecOn with
 |ind n ih=>intro ρ h s;exact WS.loop_ (k n ρ h (fun m hm ρ h=>ih m hm) s)
end Go.Proofs.Ytpbhkdamkbopkaa.Rs
namespace Go.Proofs.Ytpbhkdamkbopkaa.Rs
open Go Go.RowKit Rf YtpbhkdamkbopkaaW.PrintWords
def oget:List (Option Nat) → Nat → Option (Option Nat)
 |[],_=>none
 |x :: _,0=>some x
 |_ :: l,n+1=>oget l n
def renC (σ:List (Option Nat)):SC → Option SC
 |.ptr b i sz j=>match oget σ b with
  |some (some b')=>some (.ptr b' i sz j)
  |_=>none
 |.sl b n=>match oget σ b with
  |some (some b')=>some (.sl b' n)
  |some none=>match n with
   |0=>some .nils
   |_=>none
  |none=>none
 |.int k n=>some (.int k n)
 |.bool b=>some (.bool b)
 |.str s=>some (.str s)
 |.nilp=>some .nilp
 |.nils=>some .nils
 |.raw v=>some (.raw v)
def renL (σ:List (Option Nat)):List SC → Option (List SC)
 |[]=>some []
 |x :: l=>match renC σ x,renL σ l with
  |some y,some m=>some (y :: m)
  |_,_=>none
def ren1 (σ:List (Option Nat)):SV1 → Option SV1
 |.c x=>match renC σ x with
  |some y=>some (.c y)
  |none=>none
 |.agg l=>match renL σ l with
  |some m=>some (.agg m)
  |none=>none
def ren1L (σ:List (Option Nat)):List SV1 → Option (List SV1)
 |[]=>some []
 |x :: l=>match ren1 σ x,ren1L σ l with
  |some y,some m=>some (y :: m)
  |_,_=>none
def renV (σ:List (Option Nat)):SV → Option SV
 |.v x=>match ren1 σ x with
  |some y=>some (.v y)
  |none=>none
 |.t l=>match ren1L σ l with
  |some m=>some (.t m)
  |none=>none
 |.f g a b=>match ren1L σ a,ren1L σ b with
  |some x,some y=>some (.f g x y)
  |_,_=>none
def slotsC (σ:List (Option Nat)) (ρ:Nat → SV):List (Nat × SV) → Prop
 |[]=>True
 |(t,v) :: l=>renV σ v=some (ρ t)∧slotsC σ ρ l
def upds (g:Nat → SV):List (Nat × SV) → Nat → SV
 |[]=>g
 |(t,v) :: l=>upd (upds g l) t v
variable {P:Program} {O:Orc} {KT:TypeId → KD} {T:TypeId → Option TE} {Γ:Gh} {ν:Nu} {h h':List (SR KT)} {nt:Nat}
def renRow (σ:List (Option Nat)):SRow KT → Option (SRow KT)
 |.box l=>match renL σ l with
  |some m=>some (.box m)
  |none=>none
 |.own t xs=>some (.own t xs)
 |.view t xs=>some (.view t xs)
 |.dead=>some .dead
def rowAt (h:List (SR KT)) (b:Nat):Option (SRow KT):=match hget h b with
 |some s=>some s.row
 |none=>none
def viewAt (h:List (SR KT)) (b:Nat):Option (SRow KT):=match hget h b with
 |some ⟨.own t xs,_,_⟩=>some (.view t xs)
 |some ⟨.view t xs,_,_⟩=>some (.view t xs)
 |_=>none
def rowC (σ:List (Option Nat)) (h:List (SR KT)) (row:SRow KT):Option (Option Nat) → Prop
 |some (some b)=>match row with
  |.view t xs=>viewAt h b=some (.view t xs)
  |.dead=>∃ r,rowAt h b=some r
  |row=>∃ r,renRow σ row=some r∧rowAt h b=some r
 |some none=>match row with
  |.own _ xs=>xs=[]
  |.view _ xs=>xs=[]
  |_=>False
 |none=>False
def rowsC (σ:List (Option Nat)) (h:List (SR KT)):List (SR KT) → Nat → Prop
 |[],_=>True
 |r :: l,i=>rowC σ h r.row (oget σ i)∧rowsC σ h l (i+1)
def hdrAt (h:List (SR KT)):Option (Option Nat) → Option (Nat × Bool)
 |some (some b)=>match hget h b with
  |some s=>some (s.root,s.ex)
  |none=>none
 |_=>none
def hdr2 (σ:List (Option Nat)) (h:List (SR KT)) (r:SR KT) (i:Nat):List (SR KT) → Nat → Bool
 |[],_=>true
 |r' :: l,i'=>(match hdrAt h (oget σ i),hdrAt h (oget σ i') with
  |some (a,_),some (b,_)=>match Nat.beq r.root r'.root,r.ex || r'.ex with
   |false,true=>!Nat.beq a b
   |_,_=>true
  |_,_=>true) && hdr2 σ h r i l (i'+1)
def hdr1 (σ:List (Option Nat)) (h hc:List (SR KT)):List (SR KT) → Nat → Bool
 |[],_=>true
 |r :: l,i=>(match r.ex,oget σ i with
  |false,_=>true
  |true,some none=>true
  |true,x=>match hdrAt h x with
   |some (_,e)=>e
   |none=>false) && Nat.blt r.root hc.length && hdr2 σ h r i hc 0 && hdr1 σ h hc l (i+1)
def pinC (σ:List (Option Nat)):Nat → Bool
 |0=>true
 |n+1=>(match oget σ n with
  |some (some b)=>Nat.beq b n
  |_=>false) && pinC σ n
theorem oget_is:∀ (l:List (Option Nat)) (i:Nat),oget l i=l[i]?
 |[],_=>by simp [oget]
 |_ :: _,0=>by simp [oget]
 |_ :: l,i+1=>by simp [oget,oget_is l i]
def cutν (ν:Nu) (σ:List (Option Nat)):Nu:=fun i=>match oget σ i with
 |some (some b)=>ν b
 |some none=>some .nil
 |none=>none
theorem renC_ok {σ:List (Option Nat)} {x y:SC} {v:Value} (e:renC σ x=some y) (d:DC ν y v):DC (cutν ν σ) x v:=by
 cases x with
 |ptr b i sz j =>
  simp only [renC] at e
  split at e
  ·rename_i b' hb;cases e;obtain ⟨blk,base,cap,h1,h2⟩:=d;exact ⟨blk,base,cap,by unfold cutν;rw [hb];exact h1,h2⟩
  ·cases e
 |sl b n =>
  simp only [renC] at e
  split at e
  ·rename_i b' hb;cases e;(have hc:cutν ν σ b=ν b':=by unfold cutν;rw [hb])
   rcases d with ⟨q,r⟩ | ⟨a,q,r⟩ | ⟨blk,base,cap,q,r⟩
   ·exact .inl ⟨hc.trans q,r⟩
   ·exact .inr (.inl ⟨a,hc.trans q,r⟩)
   ·exact .inr (.inr ⟨blk,base,cap,hc.trans q,r⟩)
  ·rename_i hb
   split at e
   ·cases e;exact .inl ⟨by unfold cutν;rw [hb],rfl,d⟩
   ·cases e
  ·cases e
 |_=>cases e;exact d
theorem renC_flat {σ:List (Option Nat)} {x y:SC} (e:renC σ x=some y) (hy:y.flat=true):x.flat=true:=by
 cases x with
 |raw v=>cases e;exact hy
 |_=>rfl
theorem renL_ok {σ:List (Option Nat)}:∀ {l m:List SC} {vs:List Value},renL σ l=some m → DL ν m vs → DL (cutν ν σ) l vs
 |[],m,vs,e,d=>by cases e;cases vs <;> exact d
 |x :: l,m,vs,e,d=>by
  simp only [renL] at e
  split at e
  ·rename_i y m' h1 h2;cases e;cases vs with
   |nil=>exact d.elim
   |cons v vs=>exact ⟨renC_ok h1 d.1,renL_ok h2 d.2⟩
  ·cases e
theorem renL_get {σ:List (Option Nat)}:∀ {l m:List SC},renL σ l=some m → l.length=m.length∧∀ (j:Nat) (x:SC),l[j]?=some x → ∃ y,m[j]?=some y∧renC σ x=some y
 |[],m,e=>by cases e;exact ⟨rfl,fun j x h=>by simp at h⟩
 |x :: l,m,e=>by
  simp only [renL] at e
  split at e
  ·rename_i y m' h1 h2;cases e;obtain ⟨q1,q2⟩:=renL_get h2;refine ⟨by simp [q1],fun j z hz=>?_⟩;cases j with
   |zero=>simp at hz;subst hz;exact ⟨y,rfl,h1⟩
   |succ j=>simpa using q2 j z (by simpa using hz)
  ·cases e
theorem ren1_ok {σ:List (Option Nat)} {x y:SV1} {v:Value} (e:ren1 σ x=some y) (d:D1 ν y v):D1 (cutν ν σ) x v:=by
 cases x with
 |c x =>
  simp only [ren1] at e
  split at e
  ·rename_i y' h1;cases e;exact renC_ok h1 d
  ·cases e
 |agg l =>
  simp only [ren1] at e
  split at e
  ·rename_i m h1;cases e;obtain ⟨cs,h2,h3⟩:=d;exact ⟨cs,h2,renL_ok h1 h3⟩
  ·cases e
theorem ren1L_ok {σ:List (Option Nat)}:∀ {l m:List SV1} {vs:List Value},ren1L σ l=some m → D1L ν m vs → D1L (cutν ν σ) l vs
 |[],m,vs,e,d=>by cases e;cases vs <;> exact d
 |x :: l,m,vs,e,d=>by
  simp only [ren1L] at e
  split at e
  ·rename_i y m' h1 h2;cases e;cases vs with
   |nil=>exact d.elim
   |cons v vs=>exact ⟨ren1_ok h1 d.1,ren1L_ok h2 d.2⟩
  ·cases e
theorem renV_ok {σ:List (Option Nat)} {x y:SV} {v:Value} (e:renV σ x=some y) (d:DV ν y v):DV (cutν ν σ) x v:=by
 cases x with
 |v x =>
  simp only [renV] at e
  split at e
  ·rename_i y' h1;cases e;exact ren1_ok h1 d
  ·cases e
 |t l =>
  simp only [renV] at e
  split at e
  ·rename_i m h1;cases e;obtain ⟨cs,h2,h3⟩:=d;exact ⟨cs,h2,ren1L_ok h1 h3⟩
  ·cases e
 |f g a b =>
  simp only [renV] at e
  split at e
  ·rename_i x y' h1 h2;cases e;obtain ⟨p,q,h3,h4,h5⟩:=d;exact ⟨p,q,h3,ren1L_ok h1 h4,ren1L_ok h2 h5⟩
  ·cases e
theorem rowsC_get {σ:List (Option Nat)}:∀ {hc:List (SR KT)} {i:Nat},rowsC σ h hc i → ∀ (j:Nat) (r:SR KT),hc[j]?=some r → rowC σ h r.row (oget σ (i+j))
 |[],_,_,j,r,e=>by simp at e
 |r0 :: hc,i,k,0,r,e=>by simp at e;subst e;exact k.1
 |r0 :: hc,i,k,j+1,r,e=>by
  have:=rowsC_get k.2 j r (by simpa using e);rw [show i+1+j=i+(j+1) by omega] at this;exact this
theorem hdr2_get {σ : List (Option Nat)} {r : SR KT} {i : Nat} : ∀ {l : List (SR KT)} {i0 : Nat}, hdr2 σ h r i l i0 = true → ∀ (j : Nat) (r' : SR KT), l[j]? = some r' → ∀ a ea b eb, hdrAt h (oget σ i) = some (a, ea) → hdrAt h (oget σ (i0 + j)) = some (b, eb) →
  r.root ≠ r'.root → (r.ex=true ∨ r'.ex=true) → a ≠ b
 |[],_,_,j,r',e=>by simp at e
 |r0 :: l,i0,k,j,r',e=>by
  unfold hdr2 at k;simp only [Bool.and_eq_true] at k;cases j with
  |succ j =>
   intro a ea b eb h1 h2;exact hdr2_get k.2 j r' (by simpa using e) a ea b eb h1 (by rw [show i0+1+j=i0+(j+1) by omega];exact h2)
  |zero =>
   simp at e;subst e;intro a ea b eb h1 h2;rw [Nat.add_zero] at h2;have k1:=k.1;rw [h1,h2] at k1;simp only at k1;intro hne hex q;(have hx:(r.ex || r0.ex)=true:=by rcases hex with q | q <;> simp [q]);rw [Tr.beqf hne,hx] at k1;simp only at k1;rw [Tr.beqt q] at k1;cases k1
theorem hdr1_get {σ : List (Option Nat)} {hc : List (SR KT)} : ∀ {l : List (SR KT)} {i0 : Nat}, hdr1 σ h hc l i0 = true → ∀ (j : Nat) (r : SR KT), l[j]? = some r →
  (r.ex=true → oget σ (i0+j)=some none ∨ ∃ a,hdrAt h (oget σ (i0+j))=some (a,true))∧r.root < hc.length∧hdr2 σ h r (i0+j) hc 0=true
 |[],_,_,j,r,e=>by simp at e
 |r0 :: l,i0,k,j,r,e=>by
  unfold hdr1 at k;simp only [Bool.and_eq_true] at k;cases j with
  |succ j =>
   have:=hdr1_get k.2 j r (by simpa using e);rw [show i0+1+j=i0+(j+1) by omega] at this;exact this
  |zero =>
   simp at e;subst e;rw [Nat.add_zero];refine ⟨fun hx=>?_,Nat.le_of_ble_eq_true k.1.1.2,k.1.2⟩;have k1:=k.1.1.1
   split at k1
   ·rename_i q;rw [hx] at q;cases q
   ·rename_i q;exact .inl q
   ·split at k1
    ·rename_i a b q;subst k1;exact .inr ⟨a,q⟩
    ·cases k1
theorem hdrAt_some {b:Nat} {a:Nat} {ex:Bool} (e:hdrAt h (some (some b))=some (a,ex)):∃ s:SR KT,h[b]?=some s∧s.root=a∧s.ex=ex:=by
 unfold hdrAt at e;simp only at e
 split at e
 ·rename_i s hs;rw [hget_is] at hs;cases e;exact ⟨s,hs,rfl,rfl⟩
 ·cases e
theorem rowAt_some {b:Nat} {r:SRow KT} (e:rowAt h b=some r):∃ s:SR KT,h[b]?=some s∧s.row=r:=by
 unfold rowAt at e
 split at e
 ·rename_i s hs;rw [hget_is] at hs;cases e;exact ⟨s,hs,rfl⟩
 ·cases e
theorem viewAt_some {b:Nat} {r:SRow KT} (e:viewAt h b=some r):∃ s:SR KT,h[b]?=some s∧∃ t xs,r=.view t xs∧(s.row=.own t xs ∨ s.row=.view t xs):=by
 unfold viewAt at e
 split at e
 ·rename_i t xs _ _ hs;rw [hget_is] at hs;cases e;exact ⟨_,hs,t,xs,rfl,.inl rfl⟩
 ·rename_i t xs _ _ hs;rw [hget_is] at hs;cases e;exact ⟨_,hs,t,xs,rfl,.inr rfl⟩
 ·cases e
theorem rowC_at {σ:List (Option Nat)} {row:SRow KT} {b:Nat} (e:rowC σ h row (some (some b))):∃ s:SR KT,h[b]?=some s:=by
 unfold rowC at e;simp only at e
 split at e
 ·obtain ⟨s,hs,_⟩:=viewAt_some e;exact ⟨s,hs⟩
 ·obtain ⟨r,e2⟩:=e;obtain ⟨s,hs,_⟩:=rowAt_some e2;exact ⟨s,hs⟩
 ·obtain ⟨r,_,e2⟩:=e;obtain ⟨s,hs,_⟩:=rowAt_some e2;exact ⟨s,hs⟩
theorem cutν_some {σ:List (Option Nat)} {i b:Nat} (e:oget σ i=some (some b)):cutν ν σ i=ν b:=by unfold cutν;rw [e]
theorem cutν_nil {σ:List (Option Nat)} {i:Nat} (e:oget σ i=some none):cutν ν σ i=some .nil:=by unfold cutν;rw [e]
theorem Emb.cut {A:AW} (em:Emb ν h A) {σ:List (Option Nat)} {hc:List (SR KT)} (hl:σ.length=hc.length) (hr:rowsC σ h hc 0) (hh:hdr1 σ h hc hc 0=true):Emb (cutν ν σ) hc A:=by
 have og:∀ (i:Nat) (r:SR KT),hc[i]?=some r → ∃ x,oget σ i=some x:=fun i r e=>by
  have hi:i < σ.length:=by rw [hl];exact (List.getElem?_eq_some_iff.1 e).1
  exact ⟨σ[i],by rw [oget_is];exact List.getElem?_eq_getElem hi⟩
 have rc:∀ (i:Nat) (r:SR KT),hc[i]?=some r → rowC σ h r.row (oget σ i):=fun i r e=>by
  have:=rowsC_get hr i r e;rwa [Nat.zero_add] at this
 have at_:∀ (i:Nat) (r:SR KT),hc[i]?=some r → ∀ blk base cap,cutν ν σ i=some (.at_ blk base cap) → ∃ b s,oget σ i=some (some b)∧h[b]?=some s∧ν b=some (.at_ blk base cap)∧hdrAt h (oget σ i)=some (s.root,s.ex):=fun i r e blk base cap q=>by
  obtain ⟨x,hx⟩:=og i r e;cases x with
  |none=>rw [cutν_nil hx] at q;cases q
  |some b =>
   rw [cutν_some hx] at q;have:=rc i r e;rw [hx] at this;obtain ⟨s,hs⟩:=rowC_at this;refine ⟨b,s,hx,hs,q,?_⟩;rw [hx];unfold hdrAt;simp only;rw [hget_is,hs]
 refine ⟨fun i r e=>?_,fun i e=>?_,fun i blk base cap e=>?_,fun i r i' r' e e' hne hex blk base cap blk' base' cap' q q'=>?_,fun i r e=>(hdr1_get hh i r e).2.1⟩
 ·obtain ⟨x,hx⟩:=og i r e;have c:=rc i r e;rw [hx] at c;cases x with
  |none =>
   refine ⟨_,cutν_nil hx,?_⟩;unfold rowC at c;simp only at c
   split at c
   ·rename_i heq;rw [heq];exact .inl ⟨rfl,c⟩
   ·rename_i heq;rw [heq];exact .inl ⟨rfl,c⟩
   ·exact c.elim
  |some b =>
   obtain ⟨s,hs⟩:=rowC_at c;obtain ⟨nv,n1,n2⟩:=em.row b s hs;refine ⟨nv,by rw [cutν_some hx];exact n1,?_⟩;unfold rowC at c;simp only at c
   split at c
   ·rename_i t xs heq;obtain ⟨s',hs',t',xs',e1,e2⟩:=viewAt_some c;rw [hs] at hs';cases hs';cases e1;rw [heq]
    rcases e2 with e2 | e2
    ·rw [e2] at n2
     rcases n2 with n2 | ⟨blk,r0,rfl,r1,r2,r3,r4⟩
     ·exact .inl n2
     ·exact .inr (.inr ⟨blk, 0, _, r0, rfl, r1, by rw [r2]; omega, fun i x q j c q2 => by
       obtain ⟨w,w1,w2⟩:=r4 i x q j c q2;exact ⟨w,w1,w2.free (List.all_eq_true.1 ((KT t).fr x) c (List.mem_of_getElem? q2))⟩,.inr rfl⟩)
    ·rw [e2] at n2
     rcases n2 with n2 | n2 | ⟨blk,base,cap,r0,rfl,r1,r2,r4,r5⟩
     ·exact .inl n2
     ·exact .inr (.inl n2)
     ·exact .inr (.inr ⟨blk, base, cap, r0, rfl, r1, r2, fun i x q j c q2 => by
       obtain ⟨w,w1,w2⟩:=r4 i x q j c q2;exact ⟨w,w1,w2.free (List.all_eq_true.1 ((KT t).fr x) c (List.mem_of_getElem? q2))⟩,r5⟩)
   ·rename_i heq;rw [heq];exact trivial
   ·obtain ⟨row',c1_,c2_⟩:=c;obtain ⟨s',hs',e2⟩:=rowAt_some c2_;rw [hs] at hs';cases hs';subst e2;cases hrow:r.row with
    |box l =>
     rw [hrow] at c1_;simp only [renRow] at c1_
     split at c1_
     ·rename_i m hm;simp only [Option.some.injEq] at c1_;rw [← c1_] at n2;obtain ⟨hf,blk,r0,rfl,r1,r2,r3,r4⟩:=n2;obtain ⟨g1,g2⟩:=renL_get hm;refine ⟨fun x hx=>?_,blk,r0,rfl,r1,by rw [r2,g1],r3,fun j c q=>?_⟩
      ·obtain ⟨j,hj⟩:=List.getElem?_of_mem hx;obtain ⟨y,y1,y2⟩:=g2 j x hj;exact renC_flat y2 (hf y (List.mem_of_getElem? y1))
      ·obtain ⟨y,y1,y2⟩:=g2 j c q;obtain ⟨w,w1,w2⟩:=r4 j y y1;exact ⟨w,w1,renC_ok y2 w2⟩
     ·cases c1_
    |own t xs =>
     rw [hrow] at c1_;simp only [renRow,Option.some.injEq] at c1_;rw [← c1_] at n2
     rcases n2 with n2 | ⟨blk,r0,rfl,r1,r2,r3,r4⟩
     ·exact .inl n2
     ·exact .inr ⟨blk, r0, rfl, r1, r2, r3, fun i x q j c q2 => by
       obtain ⟨w,w1,w2⟩:=r4 i x q j c q2;exact ⟨w,w1,w2.free (List.all_eq_true.1 ((KT t).fr x) c (List.mem_of_getElem? q2))⟩⟩
    |view t xs=>rename_i hno _;exact absurd hrow (by intro q;exact hno _ _ q)
    |dead=>trivial
 ·unfold cutν
  have:oget σ i=none:=by
   rw [oget_is];rw [List.getElem?_eq_none_iff] at e ⊢;omega
  rw [this]
 ·unfold cutν at e
  split at e
  ·exact em.lt _ _ _ _ e
  ·cases e
  ·cases e
 ·obtain ⟨b,s,b1,b2,b3,b4⟩:=at_ i r e blk base cap q;obtain ⟨b',s',b1',b2',b3',b4'⟩:=at_ i' r' e' blk' base' cap' q';obtain ⟨x1,_,x3⟩:=hdr1_get hh i r e;rw [Nat.zero_add] at x1 x3;have y:=(hdr2_get x3 i' r' e' _ _ _ _ b4 (by rw [Nat.zero_add];exact b4')) hne hex;refine em.inj b s b' s' b2 b2' y ?_ _ _ _ _ _ _ b3 b3'
  rcases hex with hx | hx
  ·rcases x1 hx with q | ⟨a,q⟩
   ·rw [b1] at q;cases q
   ·rw [b4] at q;simp only [Option.some.injEq,Prod.mk.injEq] at q;exact .inl q.2
  ·obtain ⟨z1,_⟩:=hdr1_get hh i' r' e';rw [Nat.zero_add] at z1
   rcases z1 hx with q | ⟨a,q⟩
   ·rw [b1'] at q;cases q
   ·rw [b4'] at q;simp only [Option.some.injEq,Prod.mk.injEq] at q;exact .inr q.2
theorem pinC_get {σ:List (Option Nat)}:∀ {n:Nat},pinC σ n=true → ∀ j,j < n → oget σ j=some (some j)
 |0,_,j,hj=>by omega
 |n+1,k,j,hj=>by
  unfold pinC at k;simp only [Bool.and_eq_true] at k;by_cases hjn:j=n
  ·subst hjn;have k1:=k.1
   split at k1
   ·rename_i b hb;rw [hb,Nat.eq_of_beq_eq_true k1]
   ·cases k1
  ·exact pinC_get k.2 j (by omega)
theorem SI.cut {A:AW} (s:SI Γ ν h A) {σ:List (Option Nat)} {hc:List (SR KT)} (hl:σ.length=hc.length) (hr:rowsC σ h hc 0) (hh:hdr1 σ h hc hc 0=true) (hp:pinC σ Γ.np=true):SI Γ (cutν ν σ) hc A:=by
 refine ⟨s.emb.cut hl hr hh,s.wf,s.prot,fun i r blk base cap e hex q=>?_,fun j hj=>?_,?_,s.low,s.lwn⟩
 ·obtain ⟨x1,_⟩:=hdr1_get hh i r e;rw [Nat.zero_add] at x1
  rcases x1 hex with x | ⟨a,x⟩
  ·rw [cutν_nil x] at q;cases q
  ·cases ho:oget σ i with
   |none=>rw [ho] at x;cases x
   |some y =>
    cases y with
    |none=>rw [ho] at x;cases x
    |some b =>
     rw [ho] at x;obtain ⟨s',hs,_,hx⟩:=hdrAt_some x;rw [cutν_some ho] at q;exact s.sep b s' _ _ _ hs hx q
 ·rw [cutν_some (pinC_get hp j hj)];exact s.pins j hj
 ·have : ∀ n, pinC σ n = true → n ≤ σ.length := fun n hn => by
   cases n with
   |zero=>omega
   |succ n =>
    have:=pinC_get hn n (by omega);rw [oget_is] at this;have:=(List.getElem?_eq_some_iff.1 this).1;omega
  rw [← hl];exact this _ hp
theorem slots_cut {σ:List (Option Nat)} {ρ:Nat → SV} {tm:Tr Value} (sl:SL ν ρ tm):∀ {live:List (Nat × SV)},slotsC σ ρ live → SL (cutν ν σ) (upds (fun t=>c1 (.raw (tget tm t))) live) tm
 |[],_=>fun t=>rfl
 |(t,v) :: l,k=>fun i=>by
  show DV _ (upd (upds (fun t=>c1 (.raw (tget tm t))) l) t v i) _;unfold upd;by_cases hi:i=t
  ·subst hi;rw [Tr.beqt rfl];exact renV_ok k.1 (sl i)
  ·rw [Tr.beqf hi];exact slots_cut sl k.2 i
theorem WS.cut (σ : List (Option Nat)) (live : List (Nat × SV)) (hc : List (SR KT)) {x : Code} {ρ : Nat → SV} {Q : AEx → (Nat → SV) → List (SR KT) → Prop} (h1 : slotsC σ ρ live) (h2 : rowsC σ h hc 0) (h3 : hdr1 σ h hc hc 0 = true) (h4 : σ.length = hc.length) (h5 : pinC σ Γ.np = true)
  (k:∀ g,WS P O nt Γ x (upds g live) hc Q):WS P O nt Γ x ρ h Q:=fun ν A tm s sl=>k _ _ A tm (s.cut h4 h2 h3 h5) (slots_cut sl h1)
def sres1 (T:TypeId → Option TE) (ρ:Nat → SV) (h:List (SR KT)):ResultVar → Option SV1
 |.tmp t=>match ρ t with
  |.v x=>some x
  |_=>none
 |.cell a t=>match sload T t (ρ a) h with
  |some (.v x,_,_,[])=>some x
  |_=>none
def sresL (T:TypeId → Option TE) (ρ:Nat → SV) (h:List (SR KT)):List ResultVar → Option (List SV1)
 |[]=>some []
 |r :: l=>match sres1 T ρ h r,sresL T ρ h l with
  |some x,some m=>some (x :: m)
  |_,_=>none
def sres (T:TypeId → Option TE) (ρ:Nat → SV) (h:List (SR KT)) (l:List ResultVar):Option SV:=match sresL T ρ h l with
 |some [x]=>some (.v x)
 |some m=>some (.t m)
 |none=>none
def DVs (ν:Nu):List SV → List Value → Prop
 |[],[]=>True
 |x :: l,v :: m=>DV ν x v∧DVs ν l m
 |_,_=>False
def enterOk (P:Program) (f:FuncId):Bool:=match P.funcs[f]? with
 |some fn => fn.body.isSome && !(fn.name == "runtime.NumGoroutine")
 |none=>false
def Sp (P:Program) (O:Orc) (f:FuncId) (as_:List SV) (hc:List (SR KT)) (v:SV) (hr:List (SR KT)):Prop :=
 enterOk P f=true∧∀ Γ ν A args,SI Γ ν hc A → DVs ν as_ args → Γ.np=hc.length → Y P O f args.toArray A fun u A'=>∃ ν',SI Γ ν' hr A'∧DV ν' v u
def argsAt:List SV → Nat → (Nat → SV)
 |[],_=>fun _=>c1 (.raw undef)
 |x :: l,i=>upd (argsAt l (i+1)) i x
theorem args_SL:∀ {as_:List SV} {args:List Value} (i:Nat),DVs ν as_ args → ∀ tm:Tr Value,(∀ t,t < i → True) → (∀ t,i+args.length≤t → tget tm t=undef) → (∀ t,i≤t → t < i+args.length → some (tget tm t)=args[t - i]?) → ∀ t,i≤t → DV ν (argsAt as_ i t) (tget tm t)
 |[],[],i,_,tm,_,h1,_,t,ht=>by rw [h1 t (by simpa using ht)];rfl
 |[],_ :: _,_,h,_,_,_,_,_,_=>h.elim
 |_ :: _,[],_,h,_,_,_,_,_,_=>h.elim
 |x :: as_,v :: args,i,h,tm,h0,h1,h2,t,ht=>by
  show DV ν (upd (argsAt as_ (i+1)) i x t) _;unfold upd;simp only [List.length_cons] at h1 h2;by_cases hi:t=i
  ·subst hi;rw [Tr.beqt rfl];have:=h2 t (Nat.le_refl _) (by omega);rw [Nat.sub_self] at this;simp only [List.getElem?_cons_zero,Option.some.injEq] at this;rw [this];exact h.1
  ·rw [Tr.beqf hi];refine args_SL (i+1) h.2 tm (fun _ _=>trivial) (fun t q=>h1 t (by omega)) (fun t q1 q2=>?_) t (by omega);rw [h2 t (by omega) (by omega),show t - i=(t - (i+1))+1 by omega,List.getElem?_cons_succ]
theorem DVs.len:∀ {as_:List SV} {args:List Value},DVs ν as_ args → as_.length=args.length
 |[],[],_=>rfl
 |[],_ :: _,h=>h.elim
 |_ :: _,[],h=>h.elim
 |_ :: _,_ :: _,h=>congrArg Nat.succ h.2.len
theorem sres_ok (tk:TOK P KT T) {ρ:Nat → SV} {A:AW} {tm:Tr Value} (s:SI Γ ν h A) (sl:SL ν ρ tm) {fn:Func} {v:SV} (e:sres T ρ h fn.results.toList=some v):∃ u,resultsA P fn ⟨tm,A⟩=some u∧DV ν v u:=by
 have one_:∀ (r:ResultVar) (x:SV1),sres1 T ρ h r=some x → ∃ u,results1 P ⟨tm,A⟩ r=some u∧D1 ν x u:=fun r x e=>by
  cases r with
  |tmp t =>
   simp only [sres1] at e
   split at e
   ·rename_i y hy;cases e;refine ⟨_,rfl,?_⟩;have:=sl t;rw [hy] at this;exact this
   ·cases e
  |cell a t =>
   simp only [sres1] at e
   split at e
   ·rename_i y h' k hl;cases e;obtain ⟨ad,u,_,_,_,_,q2,g1,g2,_⟩:=load_core tk s (sl a) hl trivial;exact ⟨u,by simp only [results1,q2,g1],g2⟩
   ·cases e
 have all_:∀ (rs:List ResultVar) (m:List SV1),sresL T ρ h rs=some m → ∃ us,rs.mapM (results1 P ⟨tm,A⟩)=some us∧D1L ν m us:=by
  intro rs
  induction rs with
  |nil=>intro m e;cases e;exact ⟨[],rfl,trivial⟩
  |cons r rs ih =>
   intro m e;simp only [sresL] at e
   split at e
   ·rename_i x m' h1 h2;cases e;obtain ⟨u,u1,u2⟩:=one_ r x h1;obtain ⟨us,v1,v2⟩:=ih m' h2;exact ⟨u :: us,by rw [List.mapM_cons,u1,v1];rfl,u2,v2⟩
   ·cases e
 unfold sres at e;unfold resultsA
 split at e
 ·rename_i x hx;cases e;obtain ⟨us,u1,u2⟩:=all_ _ _ hx;cases us with
  |nil=>exact u2.elim
  |cons u us =>
   cases us with
   |nil=>rw [u1];exact ⟨u,rfl,u2.1⟩
   |cons _ _=>exact u2.2.elim
 ·rename_i m hne hx;cases e;obtain ⟨us,u1,u2⟩:=all_ _ _ hx;rw [u1]
  split
  ·rename_i v hv;cases hv;cases m with
   |nil=>exact u2.elim
   |cons x m =>
    cases m with
    |nil=>exact absurd rfl (hne x)
    |cons _ _=>exact u2.2.elim
  ·rename_i l _ hl;cases hl;exact ⟨_,rfl,_,rfl,by simpa using u2⟩
  ·rename_i hl;cases hl
 ·cases e
end Go.Proofs.Ytpbhkdamkbopkaa.Rs
namespace Go.Proofs.Ytpbhkdamkbopkaa.Rs
open Go Go.RowKit Rf YtpbhkdamkbopkaaW.PrintWords
variable {P:Program} {O:Orc} {KT:TypeId → KD} {T:TypeId → Option TE} {Γ:Gh} {ν:Nu} {h h':List (SR KT)} {nt:Nat}
def Out (T:TypeId → Option TE) (rs:List ResultVar) (n:Nat) (v:SV) (hr:List (SR KT)) (ex:AEx) (ρ:Nat → SV) (h:List (SR KT)):Prop :=
 (match ex with | .exit _=>False | _=>True)∧∃ σ v1,sres T ρ h rs=some v1∧renV σ v=some v1∧rowsC σ h hr 0∧hdr1 σ h hr hr 0=true∧σ.length=hr.length∧pinC σ n=true
theorem Sp.of (tk : TOK P KT T) {f : FuncId} {fn : Func} {x : Code} {as_ : List SV} {hc hr : List (SR KT)} {v : SV} (he : enterOk P f = true) (h1 : P.funcs[f]? = some fn) (h2 : fn.body = some x) (h3 : Nat.ble as_.length fn.ntmps = true)
  (k:∀ Γ:Gh,Γ.np=hc.length → WS P O fn.ntmps Γ x (argsAt as_ 0) hc (Out T fn.results.toList hc.length v hr)) (hf:Nat.beq f orcF=false:=by rfl):Sp P O f as_ hc v hr:=by
 refine ⟨he,fun Γ ν A args s dv hnp=>?_⟩;have hl:=dv.len;refine Y.of h1 h2 (by simpa [← hl] using h3) hf ?_;refine (k Γ hnp ν A (mkCells args.toArray.toList 0 .e) s fun t=>?_).mono ?_
 ·refine args_SL 0 dv _ (fun _ _=>trivial) (fun t ht=>?_) (fun t _ ht=>?_) t (Nat.zero_le _)
  ·unfold tget;rw [get_mkCells,if_neg (by simp at ht ⊢;omega)];rfl
  ·unfold tget;rw [get_mkCells,if_pos (by simp at ht ⊢;omega)];(have:t < args.length:=by omega);simp only [Nat.sub_zero];rw [List.getElem?_eq_getElem this]
 ·rintro ex s' ⟨ν',ρ',h',q1,q2,q3,σ,v1,q4,q5,q6,q7,q8,q9⟩;obtain ⟨u,u1,u2⟩:=sres_ok tk q1 q2 q4;refine ⟨fun i hi=>?_,u,u1,_,q1.cut q8 q6 q7 (by rw [hnp];exact q9),renV_ok q5 u2⟩;rw [hi] at q3;exact q3
def cfind (σ:List (Option Nat)):List (SR KT) → Nat → Nat → Option Nat
 |[],_,_=>none
 |r :: l,i,j=>match r.ex,oget σ i with
  |true,some (some b)=>match Nat.beq b j with
   |true=>some i
   |false=>cfind σ l (i+1) j
  |_,_=>cfind σ l (i+1) j
def ctouch (σ:List (Option Nat)) (h:List (SR KT)):List (SR KT) → Nat → Nat → Bool
 |[],_,_=>false
 |r :: l,i,root=>match r.ex,hdrAt h (oget σ i) with
  |true,some (a,_)=>Nat.beq a root || ctouch σ h l (i+1) root
  |_,_=>ctouch σ h l (i+1) root
def crow (σ σ':List (Option Nat)) (h hc hr:List (SR KT)) (x:SR KT) (j:Nat):Option (SRow KT):=match cfind σ hc 0 j with
 |some i=>match hget hr i with
  |some r=>renRow σ' r.row
  |none=>none
 |none=>match ctouch σ h hc 0 x.root with
  |true=>some .dead
  |false=>some x.row
def crows (σ σ':List (Option Nat)) (h hc hr:List (SR KT)):List (SR KT) → Nat → Option (List (SR KT))
 |[],_=>some []
 |x :: l,j=>match crow σ σ' h hc hr x j,crows σ σ' h hc hr l (j+1) with
  |some row,some m=>some (⟨row,x.root,x.ex⟩ :: m)
  |_,_=>none
def cfirst (root:Nat):List (SR KT) → Nat → Nat
 |[],i=>i
 |r :: l,i=>match Nat.beq r.root root with
  |true=>i
  |false=>cfirst root l (i+1)
def croot (σ:List (Option Nat)) (h hd:List (SR KT)) (n N:Nat) (root:Nat):Option Nat:=match Nat.ble n root with
 |true=>some (N+(root - n))
 |false=>match oget σ root with
  |some none=>some (N+(cfirst root hd n - n))
  |some (some b)=>match hget h b with
   |some s=>match s.ex with
    |true=>some s.root
    |false=>none
   |none=>none
  |none=>none
def cnew (σ σ':List (Option Nat)) (h hd:List (SR KT)) (n N:Nat):List (SR KT) → Option (List (SR KT))
 |[]=>some []
 |r :: l=>match r.ex,renRow σ' r.row,croot σ h hd n N r.root,cnew σ σ' h hd n N l with
  |true,some row,some root,some m=>some (⟨row,root,true⟩ :: m)
  |_,_,_,_=>none
def cdrop:List (SR KT) → Nat → List (SR KT)
 |l,0=>l
 |[],_=>[]
 |_ :: l,n+1=>cdrop l n
def csame:List (SR KT) → List (SR KT) → Nat → Bool
 |[],_,_=>true
 |r :: l,q :: m,i=>Nat.beq r.root q.root && (match r.ex,q.ex with | true,true=>Nat.beq r.root i | false,false=>true | _,_=>false) && csame l m (i+1)
 |_ :: _,[],_=>false
def cmore (N:Nat):Nat → List (Option Nat)
 |0=>[]
 |n+1=>some N :: cmore (N+1) n
def happL.{u,v} {α:Type u} {β:Type v}:List α → List α → (List α → β) → β
 |[],m,k=>k m
 |x :: l,m,k=>happL l m fun l=>k (x :: l)
def anyEx:List (SR KT) → Bool
 |[]=>false
 |r :: l=>match r.ex with
  |true=>true
  |false=>anyEx l
def cmask (σ:List (Option Nat)) (h:List (SR KT)):List (SR KT) → Nat → Nat
 |[],_=>0
 |r :: l,i=>match r.ex,hdrAt h (oget σ i) with
  |true,some (a,_)=>2 ^ a ||| cmask σ h l (i+1)
  |_,_=>cmask σ h l (i+1)
theorem cmask_bit {σ:List (Option Nat)} {h:List (SR KT)}:∀ {l:List (SR KT)} {i0 i:Nat} {r:SR KT} {a:Nat} {ea:Bool},l[i]?=some r → r.ex=true → hdrAt h (oget σ (i0+i))=some (a,ea) → (cmask σ h l i0).testBit a=true
 |[],_,_,_,_,_,e,_,_=>by cases e
 |x :: l,i0,0,r,a,ea,e,hr,hh=>by
  cases e;unfold cmask;rw [Nat.add_zero] at hh;rw [hr,hh];simp only;rw [Nat.testBit_or,Nat.testBit_two_pow];simp
 |x :: l,i0,i+1,r,a,ea,e,hr,hh=>by
  have:=cmask_bit (l:=l) (i0:=i0+1) (i:=i) (r:=r) (a:=a) (ea:=ea) (by simpa using e) hr (by rw [show i0+1+i=i0+(i+1) by omega];exact hh);unfold cmask
  split
  ·rw [Nat.testBit_or,this];simp
  ·exact this
def cafter (σ:List (Option Nat)) (h hc hr:List (SR KT)) (v:SV):Option (SV × List (SR KT) × (Nat × Nat)) :=
 hlen hc 0 fun n=>hlen h 0 fun N=>hlen (cdrop hr n) 0 fun m=>match happL σ (cmore N m) (fun σ'=>match crows σ σ' h hc hr h 0,cnew σ σ' h (cdrop hr n) n N (cdrop hr n),renV σ' v with
  |some l,some l',some v'=>happL l l' fun l=>some (v',l)
  |_,_,_=>none),csame hc hr 0 with
 |some (v',l),true=>some (v',l,match anyEx hc with | true=>(5,cmask σ h hc 0) | false=>(4,0))
 |_,_=>none
def svals (ρ:Nat → SV):List Operand → List SV
 |[]=>[]
 |x :: l=>sev ρ x :: svals ρ l
def vOf:List SV1 → List SV
 |[]=>[]
 |x :: l=>.v x :: vOf l
def appS:List SV → List SV → List SV
 |[],m=>m
 |x :: l,m=>x :: appS l m
def renVs (σ:List (Option Nat)):List SV → Option (List SV)
 |[]=>some []
 |x :: l=>match renV σ x,renVs σ l with
  |some y,some m=>some (y :: m)
  |_,_=>none
theorem crows_get {σ σ':List (Option Nat)} {hc hr:List (SR KT)}:∀ {l m:List (SR KT)} {j0:Nat},crows σ σ' h hc hr l j0=some m → m.length=l.length∧∀ (j:Nat) (x:SR KT),l[j]?=some x → ∃ row,crow σ σ' h hc hr x (j0+j)=some row∧m[j]?=some ⟨row,x.root,x.ex⟩
 |[],m,j0,e=>by simp only [crows,Option.some.injEq] at e;subst e;exact ⟨rfl,fun j x q=>by simp at q⟩
 |y :: l,m,j0,e=>by
  simp only [crows] at e
  split at e
  ·rename_i row m' e1 e2;cases e;obtain ⟨q1,q2⟩:=crows_get e2;refine ⟨by simp [q1],fun j x q=>?_⟩;cases j with
   |zero=>simp at q;subst q;exact ⟨row,e1,rfl⟩
   |succ j =>
    obtain ⟨r,r1,r2⟩:=q2 j x (by simpa using q);exact ⟨r,by rw [show j0+(j+1)=j0+1+j by omega];exact r1,by simpa using r2⟩
  ·cases e
theorem cnew_get {σ σ':List (Option Nat)} {hd:List (SR KT)} {n N:Nat}:∀ {l m:List (SR KT)},cnew σ σ' h hd n N l=some m → m.length=l.length∧∀ (j:Nat) (r:SR KT),l[j]?=some r → ∃ row root,renRow σ' r.row=some row∧croot σ h hd n N r.root=some root∧m[j]?=some ⟨row,root,true⟩∧r.ex=true
 |[],m,e=>by simp only [cnew,Option.some.injEq] at e;subst e;exact ⟨rfl,fun j x q=>by simp at q⟩
 |y :: l,m,e=>by
  simp only [cnew] at e
  split at e
  ·rename_i row root m' e0 e1 e2 e3;cases e;obtain ⟨q1,q2⟩:=cnew_get e3;refine ⟨by simp [q1],fun j x q=>?_⟩;cases j with
   |zero=>simp at q;subst q;exact ⟨row,root,e1,e2,rfl,e0⟩
   |succ j =>
    obtain ⟨r,r1,r2,r3,r4,r5⟩:=q2 j x (by simpa using q);exact ⟨r,r1,r2,r3,by simpa using r4,r5⟩
  ·cases e
theorem cfirst_lt {root:Nat}:∀ {l:List (SR KT)} {i:Nat} {j:Nat} {r:SR KT},l[j]?=some r → r.root=root → i≤cfirst root l i∧cfirst root l i < i+l.length
 |[],_,_,_,e,_=>by simp at e
 |x :: l,i,j,r,e,hr=>by
  simp only [cfirst,List.length_cons]
  split
  ·omega
  ·rename_i hx;cases j with
   |zero=>simp at e;subst e;rw [Tr.beqt hr] at hx;cases hx
   |succ j =>
    have:=cfirst_lt (i:=i+1) (l:=l) (j:=j) (by simpa using e) hr;omega
theorem cdrop_is:∀ (l:List (SR KT)) (n:Nat),cdrop l n=l.drop n
 |l,0=>by simp [cdrop]
 |[],n+1=>by simp [cdrop]
 |_ :: l,n+1=>by simp [cdrop,cdrop_is l n]
theorem cmore_len:∀ (N n:Nat),(cmore N n).length=n
 |_,0=>rfl
 |N,n+1=>by simp [cmore,cmore_len]
theorem cmore_get:∀ (N n i:Nat),i < n → (cmore N n)[i]?=some (some (N+i))
 |_,0,_,h=>by omega
 |N,n+1,0,_=>by simp [cmore]
 |N,n+1,i+1,h=>by simp [cmore,cmore_get (N+1) n i (by omega)];omega
theorem happL_is.{u,v} {α:Type u} {β:Type v}:∀ (l m:List α) (k:List α → β),happL l m k=k (l ++ m)
 |[],_,_=>rfl
 |x :: l,m,k=>happL_is l m fun l=>k (x :: l)
theorem cfind_some {σ:List (Option Nat)}:∀ {l:List (SR KT)} {i0 j i:Nat},cfind σ l i0 j=some i → i0≤i∧∃ r:SR KT,l[i - i0]?=some r∧r.ex=true∧oget σ i=some (some j)
 |[],_,_,_,e=>by cases e
 |r :: l,i0,j,i,e=>by
  have more:cfind σ l (i0+1) j=some i → i0≤i∧∃ r':SR KT,(r :: l)[i - i0]?=some r'∧r'.ex=true∧oget σ i=some (some j):=fun e=>by
   obtain ⟨q1,r',q2,q3,q4⟩:=cfind_some e;exact ⟨by omega,r',by rw [show i - i0=(i - (i0+1))+1 by omega,List.getElem?_cons_succ];exact q2,q3,q4⟩
  simp only [cfind] at e
  split at e
  ·rename_i b hx hb
   split at e
   ·rename_i hj;cases e;exact ⟨Nat.le_refl _,r,by simp,hx,by rw [hb,Nat.eq_of_beq_eq_true hj]⟩
   ·exact more e
  ·exact more e
theorem ctouch_no {σ:List (Option Nat)}:∀ {l:List (SR KT)} {i0 root:Nat},ctouch σ h l i0 root=false → ∀ (i:Nat) (r:SR KT),l[i]?=some r → r.ex=true → ∀ a ea,hdrAt h (oget σ (i0+i))=some (a,ea) → a ≠ root
 |[],_,_,_,i,r,q=>by simp at q
 |y :: l,i0,root,e,i,r,q=>by
  intro hx a ea ho;simp only [ctouch] at e;cases i with
  |zero =>
   simp at q;subst q;rw [Nat.add_zero] at ho;rw [hx,ho] at e;simp only [Bool.or_eq_false_iff] at e;intro hq;rw [Tr.beqt hq] at e;cases e.1
  |succ i =>
   have e2:ctouch σ h l (i0+1) root=false:=by
    split at e
    ·simp only [Bool.or_eq_false_iff] at e;exact e.2
    ·exact e
   exact ctouch_no e2 i r (by simpa using q) hx a ea (by rw [show i0+1+i=i0+(i+1) by omega];exact ho)
theorem csame_get:∀ {l m:List (SR KT)} {i0:Nat},csame l m i0=true → ∀ (i:Nat) (r:SR KT),l[i]?=some r → ∃ q:SR KT,m[i]?=some q∧q.root=r.root∧q.ex=r.ex∧(r.ex=true → r.root=i0+i)
 |[],_,_,_,i,r,e=>by simp at e
 |_ :: _,[],_,h,_,_,_=>by cases h
 |x :: l,y :: m,i0,h,i,r,e=>by
  simp only [csame,Bool.and_eq_true] at h;cases i with
  |zero =>
   simp at e;subst e;have h2:=h.1.2;refine ⟨y,rfl,(Nat.eq_of_beq_eq_true h.1.1).symm,?_,?_⟩
   ·split at h2
    ·rename_i a b;rw [a,b]
    ·rename_i a b;rw [a,b]
    ·cases h2
   ·intro hx
    split at h2
    ·exact Nat.eq_of_beq_eq_true h2
    ·rename_i a b;rw [hx] at a;cases a
    ·cases h2
  |succ i =>
   obtain ⟨q,q1,q2,q3,q4⟩:=csame_get h.2 i r (by simpa using e);exact ⟨q,by simpa using q1,q2,q3,fun hx=>by rw [q4 hx];omega⟩
theorem anyEx_no:∀ {l:List (SR KT)},anyEx l=false → ∀ (i:Nat) (r:SR KT),l[i]?=some r → r.ex=false
 |[],_,i,r,e=>by simp at e
 |x :: l,h,i,r,e=>by
  simp only [anyEx] at h
  split at h
  ·cases h
  ·rename_i hx;cases i with
   |zero=>simp at e;subst e;exact hx
   |succ i=>exact anyEx_no h i r (by simpa using e)
section
variable {ν' ν'':Nu} {σ':List (Option Nat)} (he:∀ b b',oget σ' b=some (some b') → ∀ nv,ν' b=some nv → ν'' b'=some nv) (hn:∀ b,oget σ' b=some none → ν' b=some .nil)
include he hn
theorem fwdC {x y:SC} {v:Value} (e:renC σ' x=some y) (d:DC ν' x v):DC ν'' y v:=by
 cases x with
 |ptr b i sz j =>
  simp only [renC] at e
  split at e
  ·rename_i b' hb;cases e;obtain ⟨blk,base,cap,h1,h2⟩:=d;exact ⟨blk,base,cap,he _ _ hb _ h1,h2⟩
  ·cases e
 |sl b n =>
  simp only [renC] at e
  split at e
  ·rename_i b' hb;cases e
   rcases d with ⟨q,r⟩ | ⟨a,q,r⟩ | ⟨blk,base,cap,q,r⟩
   ·exact .inl ⟨he _ _ hb _ q,r⟩
   ·exact .inr (.inl ⟨a,he _ _ hb _ q,r⟩)
   ·exact .inr (.inr ⟨blk,base,cap,he _ _ hb _ q,r⟩)
  ·rename_i hb
   split at e
   ·cases e
    rcases d with ⟨_,_,r⟩ | ⟨_,q,_⟩ | ⟨_,_,_,q,_⟩
    ·exact r
    ·rw [hn _ hb] at q;cases q
    ·rw [hn _ hb] at q;cases q
   ·cases e
  ·cases e
 |_=>cases e;exact d
theorem fwdL:∀ {l m:List SC} {vs:List Value},renL σ' l=some m → DL ν' l vs → DL ν'' m vs
 |[],m,vs,e,d=>by cases e;cases vs <;> exact d
 |x :: l,m,vs,e,d=>by
  simp only [renL] at e
  split at e
  ·rename_i y m' h1 h2;cases e;cases vs with
   |nil=>exact d.elim
   |cons v vs=>exact ⟨fwdC he hn h1 d.1,fwdL h2 d.2⟩
  ·cases e
theorem fwd1 {x y:SV1} {v:Value} (e:ren1 σ' x=some y) (d:D1 ν' x v):D1 ν'' y v:=by
 cases x with
 |c x =>
  simp only [ren1] at e
  split at e
  ·rename_i y' h1;cases e;exact fwdC he hn h1 d
  ·cases e
 |agg l =>
  simp only [ren1] at e
  split at e
  ·rename_i m h1;cases e;obtain ⟨cs,h2,h3⟩:=d;exact ⟨cs,h2,fwdL he hn h1 h3⟩
  ·cases e
theorem fwd1L:∀ {l m:List SV1} {vs:List Value},ren1L σ' l=some m → D1L ν' l vs → D1L ν'' m vs
 |[],m,vs,e,d=>by cases e;cases vs <;> exact d
 |x :: l,m,vs,e,d=>by
  simp only [ren1L] at e
  split at e
  ·rename_i y m' h1 h2;cases e;cases vs with
   |nil=>exact d.elim
   |cons v vs=>exact ⟨fwd1 he hn h1 d.1,fwd1L h2 d.2⟩
  ·cases e
theorem fwdV {x y:SV} {v:Value} (e:renV σ' x=some y) (d:DV ν' x v):DV ν'' y v:=by
 cases x with
 |v x =>
  simp only [renV] at e
  split at e
  ·rename_i y' h1;cases e;exact fwd1 he hn h1 d
  ·cases e
 |t l =>
  simp only [renV] at e
  split at e
  ·rename_i m h1;cases e;obtain ⟨cs,h2,h3⟩:=d;exact ⟨cs,h2,fwd1L he hn h1 h3⟩
  ·cases e
 |f g a b =>
  simp only [renV] at e
  split at e
  ·rename_i x y' h1 h2;cases e;obtain ⟨p,q,h3,h4,h5⟩:=d;exact ⟨p,q,h3,fwd1L he hn h1 h4,fwd1L he hn h2 h5⟩
  ·cases e
theorem fwd_flat {x y:SC} (e:renC σ' x=some y) (hx:x.flat=true):y.flat=true:=by
 cases x with
 |raw v=>cases e;exact hx
 |ptr b i sz j =>
  simp only [renC] at e
  split at e
  ·cases e;rfl
  ·cases e
 |sl b n =>
  simp only [renC] at e
  split at e
  ·cases e;rfl
  ·split at e
   ·cases e;rfl
   ·cases e
  ·cases e
 |_=>cases e;rfl
theorem fwd_mem:∀ {l m:List SC},renL σ' l=some m → (∀ x ∈ l,x.flat=true) → ∀ y ∈ m,y.flat=true
 |[],m,e,_=>by cases e;intro y hy;cases hy
 |x :: l,m,e,hf=>by
  simp only [renL] at e
  split at e
  ·rename_i y m' h1 h2;cases e;intro z hz;cases hz with
   |head=>exact fwd_flat he hn h1 (hf x (List.mem_cons_self ..))
   |tail _ hz=>exact fwd_mem h2 (fun w hw=>hf w (List.mem_cons_of_mem _ hw)) z hz
  ·cases e
theorem fwd_get:∀ {l m:List SC},renL σ' l=some m → ∀ (j:Nat) (y:SC),m[j]?=some y → ∃ x,l[j]?=some x∧renC σ' x=some y
 |[],m,e,j,y,q=>by cases e;simp at q
 |x :: l,m,e,j,y,q=>by
  simp only [renL] at e
  split at e
  ·rename_i z m' h1 h2;cases e;cases j with
   |zero=>simp at q;subst q;exact ⟨x,rfl,h1⟩
   |succ j=>simpa using fwd_get h2 j y (by simpa using q)
  ·cases e
theorem fwdRow {A:AW} {row row':SRow KT} {nv:NV} (r:RowOk ν' A row nv) (e:renRow σ' row=some row'):RowOk ν'' A row' nv:=by
 cases row with
 |box l =>
  simp only [renRow] at e
  split at e
  ·rename_i m hm;cases e;obtain ⟨hf,blk,r0,rfl,r1,r2,r3,r4⟩:=r;refine ⟨fwd_mem he hn hm hf,blk,r0,rfl,r1,by rw [r2,(renL_get hm).1],r3,fun j y q=>?_⟩;obtain ⟨x,x1,x2⟩:=fwd_get he hn hm j y q;obtain ⟨w,w1,w2⟩:=r4 j x x1;exact ⟨w,w1,fwdC he hn x2 w2⟩
  ·cases e
 |own t xs =>
  cases e
  rcases r with r | ⟨blk,r0,rfl,r1,r2,r3,r4⟩
  ·exact .inl r
  ·exact .inr ⟨blk, r0, rfl, r1, r2, r3, fun i x q j c q2 => by
    obtain ⟨w,w1,w2⟩:=r4 i x q j c q2;exact ⟨w,w1,w2.free (List.all_eq_true.1 ((KT t).fr x) c (List.mem_of_getElem? q2))⟩⟩
 |view t xs =>
  cases e
  rcases r with r | r | ⟨blk,base,cap,r0,rfl,r1,r2,r4,r5⟩
  ·exact .inl r
  ·exact .inr (.inl r)
  ·exact .inr (.inr ⟨blk, base, cap, r0, rfl, r1, r2, fun i x q j c q2 => by
    obtain ⟨w,w1,w2⟩:=r4 i x q j c q2;exact ⟨w,w1,w2.free (List.all_eq_true.1 ((KT t).fr x) c (List.mem_of_getElem? q2))⟩,r5⟩)
 |dead=>cases e;trivial
end
def callG (Γ:Gh) (ν:Nu) (σ:List (Option Nat)) (hc:List (SR KT)) (A:AW):Gh where
 F b:=b < A.next∧∀ (i:Nat) (r:SR KT) (base cap:Nat),hc[i]?=some r → r.ex=true → cutν ν σ i ≠ some (.at_ b base cap)
 H b:=A.heap.get b
 np:=hc.length
 ν0:=cutν ν σ
 W b:=A.next≤b ∨ A.ts.testBit b=true ∨ ∃ (i:Nat) (r:SR KT) (base cap:Nat),hc[i]?=some r∧r.ex=true∧cutν ν σ i=some (.at_ b base cap)
theorem callG_row {σ : List (Option Nat)} {hc : List (SR KT)} {A : AW} (s : SI Γ ν h A) (hh : hdr1 σ h hc hc 0 = true) {i : Nat} {r : SR KT} {b base cap : Nat} (m1 : hc[i]? = some r) (m2 : r.ex = true) (m3 : cutν ν σ i = some (.at_ b base cap)) :
  ∃ (b':Nat) (z:SR KT),oget σ i=some (some b')∧h[b']?=some z∧z.ex=true∧ν b'=some (.at_ b base cap)∧hdrAt h (oget σ i)=some (z.root,z.ex):=by
 obtain ⟨x1,_⟩:=hdr1_get hh i r m1;rw [Nat.zero_add] at x1
 rcases x1 m2 with w | ⟨a,w⟩
 ·rw [cutν_nil w] at m3;cases m3
 ·cases ho:oget σ i with
  |none=>rw [ho] at w;cases w
  |some y =>
   cases y with
   |none=>rw [ho] at w;cases w
   |some b' =>
    rw [ho] at w;obtain ⟨z,z1,z2,z3⟩:=hdrAt_some w;rw [cutν_some ho] at m3;exact ⟨b',z,rfl,z1,z3,m3,by rw [w,z2,z3]⟩
theorem callG_sub {σ:List (Option Nat)} {hc:List (SR KT)} {A:AW} (s:SI Γ ν h A) (hh:hdr1 σ h hc hc 0=true) {b:Nat} (q:(callG Γ ν σ hc A).W b):Γ.W b:=by
 rcases q with q | q | ⟨i,r,base,cap,m1,m2,m3⟩
 ·exact s.lwn b q
 ·exact s.low b q
 ·obtain ⟨b',z,_,z1,z2,z3,_⟩:=callG_row s hh m1 m2 m3;exact (s.sep b' z _ _ _ z1 z2 z3).2
theorem SI.callG {σ:List (Option Nat)} {hc:List (SR KT)} {A:AW} (s:SI Γ ν h A) (hl:σ.length=hc.length) (hr:rowsC σ h hc 0) (hh:hdr1 σ h hc hc 0=true):SI (callG Γ ν σ hc A) (cutν ν σ) hc A:=by
 refine ⟨s.emb.cut hl hr hh,s.wf,fun b hb=>⟨hb.1,rfl⟩,fun i r blk base cap e hex q=>⟨fun hf=>hf.2 i r base cap e hex q,.inr (.inr ⟨i,r,base,cap,e,hex,q⟩)⟩,fun _ _=>rfl,Nat.le_refl _,fun b q=>.inr (.inl q),fun b q=>.inl q⟩
def joinν (ν ν':Nu) (N n:Nat):Nu:=fun i=>if i < N then ν i else ν' (n+(i - N))
theorem SI.after {σ : List (Option Nat)} {hc hr h1 : List (SR KT)} {A A' : AW} {v v' : SV} {k : Nat × Nat} {ν' : Nu} {u : Value} (s : SI Γ ν h A) (hl : σ.length = hc.length) (hrows : rowsC σ h hc 0) (hh : hdr1 σ h hc hc 0 = true)
  (ha:cafter σ h hc hr v=some (v',h1,k)) (s':SI (Rs.callG Γ ν σ hc A) ν' hr A') (hst:A.next≤A'.next) (dv:DV ν' v u) :
  ∃ ν'',SI Γ ν'' h1 A'∧Rs.Ext ν ν''∧HX h h1∧DV ν'' v' u∧k=(match anyEx hc with | true=>(5,cmask σ h hc 0) | false=>(4,0)):=by
 have sc:=s.callG hl hrows hh;unfold cafter at ha;simp only [hlen_is,Nat.zero_add,cdrop_is,happL_is,List.length_drop] at ha
 split at ha
 ·rename_i v2 l2 heq hcs
  split at heq
  ·rename_i l l' v3 e1 e2 e3;simp only [Option.some.injEq,Prod.mk.injEq] at heq ha;obtain ⟨rfl,rfl⟩:=heq;obtain ⟨rfl,rfl,rfl⟩:=ha;obtain ⟨g1,g2⟩:=crows_get e1;obtain ⟨g3,g4⟩:=cnew_get e2;rw [List.length_drop] at g3;have hn_le:hc.length≤hr.length:=s'.npl
   have om:∀ b,b < hc.length → oget (σ ++ cmore h.length (hr.length - hc.length)) b=oget σ b:=fun b hb=>by
    rw [oget_is,oget_is,List.getElem?_append_left (by omega)]
   have on_:∀ b,hc.length≤b → b < hr.length → oget (σ ++ cmore h.length (hr.length - hc.length)) b=some (some (h.length+(b - hc.length))):=fun b hb hb2=>by
    rw [oget_is,List.getElem?_append_right (by omega),hl,cmore_get _ _ _ (by omega)]
   have oo:∀ b,hr.length≤b → oget (σ ++ cmore h.length (hr.length - hc.length)) b=none:=fun b hb=>by
    rw [oget_is,List.getElem?_eq_none (by rw [List.length_append,cmore_len];omega)]
   have pin:∀ i,i < hc.length → ν' i=cutν ν σ i:=fun i hi=>s'.pins i hi
   have ltN:∀ b nv,ν b=some nv → b < h.length:=fun b nv e=>by
    rcases Nat.lt_or_ge b h.length with q | q
    ·exact q
    ·rw [s.emb.out b (List.getElem?_eq_none q)] at e;cases e
   have he:∀ b b',oget (σ ++ cmore h.length (hr.length - hc.length)) b=some (some b') → ∀ nv,ν' b=some nv → joinν ν ν' h.length hc.length b'=some nv:=fun b b' e nv q=>by
    show (if b' < h.length then ν b' else ν' (hc.length+(b' - h.length)))=some nv
    rcases Nat.lt_or_ge b hc.length with hb | hb
    ·rw [om b hb] at e;rw [pin b hb,cutν_some e] at q;rw [if_pos (ltN _ _ q)];exact q
    ·rcases Nat.lt_or_ge b hr.length with hb2 | hb2
     ·rw [on_ b hb hb2] at e;cases e;rw [if_neg (by omega),show hc.length+(h.length+(b - hc.length) - h.length)=b by omega];exact q
     ·rw [oo b hb2] at e;cases e
   have hnil:∀ b,oget (σ ++ cmore h.length (hr.length - hc.length)) b=some none → ν' b=some .nil:=fun b e=>by
    rcases Nat.lt_or_ge b hc.length with hb | hb
    ·rw [om b hb] at e;rw [pin b hb,cutν_nil e]
    ·rcases Nat.lt_or_ge b hr.length with hb2 | hb2
     ·rw [on_ b hb hb2] at e;cases e
     ·rw [oo b hb2] at e;cases e
   have ext:Rs.Ext ν (joinν ν ν' h.length hc.length):=fun i nv e=>by
    show (if i < h.length then ν i else _)=_;rw [if_pos (ltN _ _ e)];exact e
   have old:∀ (j:Nat) (x1:SR KT),j < h.length → (l ++ l')[j]?=some x1 → ∃ x:SR KT,h[j]?=some x∧x1.root=x.root∧x1.ex=x.ex∧crow σ (σ ++ cmore h.length (hr.length - hc.length)) h hc hr x j=some x1.row:=fun j x1 hj e=>by
    rw [List.getElem?_append_left (by omega)] at e;obtain ⟨row,c1_,c2_⟩:=g2 j _ (List.getElem?_eq_getElem hj);rw [e] at c2_;cases c2_;rw [Nat.zero_add] at c1_;exact ⟨_,List.getElem?_eq_getElem hj,rfl,rfl,c1_⟩
   have new:∀ (j:Nat) (x1:SR KT),h.length≤j → (l ++ l')[j]?=some x1 → ∃ r:SR KT,hr[hc.length+(j - h.length)]?=some r∧renRow (σ ++ cmore h.length (hr.length - hc.length)) r.row=some x1.row∧croot σ h (hr.drop hc.length) hc.length h.length r.root=some x1.root∧x1.ex=true∧r.ex=true∧(hr.drop hc.length)[j - h.length]?=some r:=fun j x1 hj e=>by
    rw [List.getElem?_append_right (by omega),g1] at e;have hlt:j - h.length < l'.length:=(List.getElem?_eq_some_iff.1 e).1
    have hd:(hr.drop hc.length)[j - h.length]?=some (hr[hc.length+(j - h.length)]'(by omega)):=by
     rw [List.getElem?_drop];exact List.getElem?_eq_getElem _
    obtain ⟨row,root,q1,q2,q3,q4⟩:=g4 _ _ hd;rw [e] at q3;cases q3;exact ⟨_,List.getElem?_eq_getElem _,q1,q2,rfl,q4,hd⟩
   have nuN:∀ j,h.length≤j → joinν ν ν' h.length hc.length j=ν' (hc.length+(j - h.length)):=fun j hj=>if_neg (by omega);have nuO:∀ j,j < h.length → joinν ν ν' h.length hc.length j=ν j:=fun j hj=>if_pos hj
   have apart:∀ (j:Nat) (x1:SR KT),h.length≤j → (l ++ l')[j]?=some x1 → ∀ blk base cap,ν' (hc.length+(j - h.length))=some (.at_ blk base cap) → ∀ (i:Nat) (x:SR KT),h[i]?=some x → x1.root ≠ x.root → ∀ base' cap',ν i ≠ some (.at_ blk base' cap'):=fun j x1 hj e blk base cap q i x ex hne base' cap' q'=>by
    obtain ⟨r,r1,r2,r3,r4,r5,_⟩:=new j x1 hj e;have nf:=(s'.sep _ r _ _ _ r1 r5 q).1;refine nf ⟨s.emb.lt i _ _ _ q',fun i1 r' base1 cap1 m1 m2 m3=>?_⟩;have hi1:i1 < hc.length:=(List.getElem?_eq_some_iff.1 m1).1;obtain ⟨q1,n1,n2,n3,n4⟩:=csame_get hcs i1 r' m1;have n4:=n4 m2;rw [Nat.zero_add] at n4;by_cases hr1:r.root=i1;rotate_left
    ·exact s'.emb.inj i1 q1 _ r n1 r1 (by rw [n2,n4];exact fun z=>hr1 z.symm) (.inr r5) _ _ _ _ _ _ (by rw [pin i1 hi1];exact m3) q rfl
    unfold croot at r3
    split at r3
    ·rename_i hb;have:=Nat.le_of_ble_eq_true hb;omega
    ·rw [hr1] at r3
     split at r3
     ·rename_i ho;rw [cutν_nil ho] at m3;cases m3
     ·rename_i b ho
      split at r3
      ·rename_i sb hsb;rw [hget_is] at hsb
       split at r3
       ·rename_i hbx;simp only [Option.some.injEq] at r3;rw [cutν_some ho] at m3;exact s.emb.inj b sb i x hsb ex (by rw [r3];exact hne) (.inl hbx) _ _ _ _ _ _ m3 q' rfl
       ·cases r3
      ·cases r3
     ·cases r3
   have kept:∀ (j:Nat) (x:SR KT),h[j]?=some x → cfind σ hc 0 j=none → ctouch σ h hc 0 x.root=false → ∀ blk base cap,ν j=some (.at_ blk base cap) → A'.heap.get blk=A.heap.get blk:=fun j x e f1 f2 blk base cap q=>by
    refine (s'.prot blk ⟨s.emb.lt j _ _ _ q,fun i r base1 cap1 m1 m2 m3=>?_⟩).2;obtain ⟨x1,_⟩:=hdr1_get hh i r m1;rw [Nat.zero_add] at x1
    rcases x1 m2 with w | ⟨a,w⟩
    ·rw [cutν_nil w] at m3;cases m3
    ·cases ho:oget σ i with
     |none=>rw [ho] at w;cases w
     |some y =>
      cases y with
      |none=>rw [ho] at w;cases w
      |some b =>
       have w':=w;rw [ho] at w;obtain ⟨z,z1,z2,z3⟩:=hdrAt_some w;rw [cutν_some ho] at m3;have hne:a ≠ x.root:=ctouch_no f2 i r m1 m2 a true (by rw [Nat.zero_add];exact w');exact s.emb.inj b z j x z1 e (by rw [z2];exact hne) (.inl z3) _ _ _ _ _ _ m3 q rfl
   (have hlen:(l ++ l').length=h.length+(hr.length - hc.length):=by rw [List.length_append,g1,g3]);refine ⟨_,⟨⟨?_,?_,?_,?_,?_⟩,s'.wf,?_,?_,?_,?_,?_,?_⟩,ext,?_,fwdV he hnil e3 dv,rfl⟩
   ·intro j x1 e
    rcases Nat.lt_or_ge j h.length with hj | hj
    ·obtain ⟨x,p1,p2,p3,p4⟩:=old j x1 hj e;obtain ⟨nv,n1,n2⟩:=s.emb.row j x p1;refine ⟨nv,by rw [nuO j hj];exact n1,?_⟩;unfold crow at p4
     split at p4
     ·rename_i i hi;obtain ⟨_,r,f1,f2,f3⟩:=cfind_some hi;rw [Nat.sub_zero] at f1
      split at p4
      ·rename_i q hq;rw [hget_is] at hq;have hi1:i < hc.length:=(List.getElem?_eq_some_iff.1 f1).1;obtain ⟨nv2,m1,m2⟩:=s'.emb.row i q hq;rw [pin i hi1,cutν_some f3,n1] at m1;cases m1;exact fwdRow he hnil m2 p4
      ·cases p4
     ·rename_i hf
      split at p4
      ·simp only [Option.some.injEq] at p4;rw [← p4];exact trivial
      ·rename_i ht;simp only [Option.some.injEq] at p4;rw [← p4];exact n2.up ext fun blk base cap q=>kept j x p1 hf ht blk base cap (by rw [n1,q])
    ·obtain ⟨r,p1,p2,_⟩:=new j x1 hj e;obtain ⟨nv,n1,n2⟩:=s'.emb.row _ r p1;exact ⟨nv,by rw [nuN j hj];exact n1,fwdRow he hnil n2 p2⟩
   ·intro j e;rw [List.getElem?_eq_none_iff,hlen] at e;rw [nuN j (by omega)];exact s'.emb.out _ (List.getElem?_eq_none (by omega))
   ·intro j blk base cap e
    rcases Nat.lt_or_ge j h.length with hj | hj
    ·rw [nuO j hj] at e;exact Nat.lt_of_lt_of_le (s.emb.lt j _ _ _ e) hst
    ·rw [nuN j hj] at e;exact s'.emb.lt _ _ _ _ e
   ·intro i x1 i' x2 e1 e2 hne hex blk base cap blk' base' cap' q1 q2
    rcases Nat.lt_or_ge i h.length with hi | hi
    ·rw [nuO i hi] at q1;obtain ⟨y1,p1,p2,p3,_⟩:=old i x1 hi e1
     rcases Nat.lt_or_ge i' h.length with hi' | hi'
     ·rw [nuO i' hi'] at q2;obtain ⟨y2,p1',p2',p3',_⟩:=old i' x2 hi' e2;exact s.emb.inj i y1 i' y2 p1 p1' (by rw [← p2,← p2'];exact hne) (by rw [← p3,← p3'];exact hex) _ _ _ _ _ _ q1 q2
     ·rw [nuN i' hi'] at q2;intro hb;subst hb;exact apart i' x2 hi' e2 _ _ _ q2 i y1 p1 (by rw [← p2];exact fun z=>hne z.symm) _ _ q1
    ·rw [nuN i hi] at q1
     rcases Nat.lt_or_ge i' h.length with hi' | hi'
     ·rw [nuO i' hi'] at q2;obtain ⟨y2,p1',p2',_⟩:=old i' x2 hi' e2;intro hb;subst hb;exact apart i x1 hi e1 _ _ _ q1 i' y2 p1' (by rw [← p2'];exact hne) _ _ q2
     ·rw [nuN i' hi'] at q2;obtain ⟨r1,a1,a2,a3,a4,a5,_⟩:=new i x1 hi e1;obtain ⟨r2,b1,b2,b3,b4,b5,_⟩:=new i' x2 hi' e2;exact s'.emb.inj _ r1 _ r2 a1 b1 (by intro q;apply hne;rw [q] at a3;rw [a3] at b3;exact Option.some.inj b3) (.inl a5) _ _ _ _ _ _ q1 q2
   ·intro j x1 e;rw [hlen]
    rcases Nat.lt_or_ge j h.length with hj | hj
    ·obtain ⟨y1,p1,p2,_⟩:=old j x1 hj e;have:=s.emb.rt j y1 p1;rw [p2];omega
    ·obtain ⟨r1,a1,a2,a3,a4,a5,a6⟩:=new j x1 hj e;have rt:=s'.emb.rt _ r1 a1;unfold croot at a3
     split at a3
     ·rename_i hb;have:=Nat.le_of_ble_eq_true hb;simp only [Option.some.injEq] at a3;omega
     ·split at a3
      ·simp only [Option.some.injEq] at a3;have:=cfirst_lt (i:=hc.length) a6 rfl;rw [List.length_drop] at this;omega
      ·split at a3
       ·rename_i sb hsb;rw [hget_is] at hsb
        split at a3
        ·simp only [Option.some.injEq] at a3;have:=s.emb.rt _ sb hsb;omega
        ·cases a3
       ·cases a3
      ·cases a3
   ·intro b hb;obtain ⟨p1,p2⟩:=s.prot b hb;refine ⟨by omega,?_⟩;rw [← p2];refine (s'.prot b ⟨p1,fun i r base cap m1 m2 m3=>?_⟩).2;obtain ⟨x1,_⟩:=hdr1_get hh i r m1;rw [Nat.zero_add] at x1
    rcases x1 m2 with w | ⟨a,w⟩
    ·rw [cutν_nil w] at m3;cases m3
    ·cases ho:oget σ i with
     |none=>rw [ho] at w;cases w
     |some y =>
      cases y with
      |none=>rw [ho] at w;cases w
      |some b' =>
       rw [ho] at w;obtain ⟨z,z1,z2,z3⟩:=hdrAt_some w;rw [cutν_some ho] at m3;exact (s.sep b' z _ _ _ z1 z3 m3).1 hb
   ·intro j x1 blk base cap e hex q
    rcases Nat.lt_or_ge j h.length with hj | hj
    ·rw [nuO j hj] at q;obtain ⟨y1,p1,p2,p3,_⟩:=old j x1 hj e;exact s.sep j y1 _ _ _ p1 (by rw [← p3];exact hex) q
    ·rw [nuN j hj] at q;obtain ⟨r1,a1,a2,a3,a4,a5,a6⟩:=new j x1 hj e;obtain ⟨w1,w2⟩:=s'.sep _ r1 _ _ _ a1 a5 q;refine ⟨fun hf=>w1 ⟨(s.prot _ hf).1,fun i r base1 cap1 m1 m2 m3=>?_⟩,callG_sub s hh w2⟩;obtain ⟨x1,_⟩:=hdr1_get hh i r m1;rw [Nat.zero_add] at x1
     rcases x1 m2 with w | ⟨a,w⟩
     ·rw [cutν_nil w] at m3;cases m3
     ·cases ho:oget σ i with
      |none=>rw [ho] at w;cases w
      |some y =>
       cases y with
       |none=>rw [ho] at w;cases w
       |some b' =>
        rw [ho] at w;obtain ⟨z,z1,z2,z3⟩:=hdrAt_some w;rw [cutν_some ho] at m3;exact (s.sep b' z _ _ _ z1 z3 m3).1 hf
   ·intro j hj;have:=s.npl;rw [nuO j (by omega)];exact s.pins j hj
   ·have:=s.npl;rw [hlen];omega
   ·exact fun b q=>callG_sub s hh (s'.low b q)
   ·exact fun b q=>s.lwn b (by omega)
   ·intro j x e;have hj:j < h.length:=(List.getElem?_eq_some_iff.1 e).1;have e2:(l ++ l')[j]?=l[j]?:=List.getElem?_append_left (by omega);obtain ⟨row,_,c2_⟩:=g2 j x e;exact ⟨⟨row,x.root,x.ex⟩,by rw [e2];exact c2_,rfl,rfl⟩
  ·cases heq
 ·cases ha
theorem renVs_ok {σ:List (Option Nat)}:∀ {as_ m:List SV} {vs:List Value},renVs σ as_=some m → DVs ν m vs → DVs (cutν ν σ) as_ vs
 |[],m,vs,e,d=>by cases e;cases vs <;> exact d
 |x :: l,m,vs,e,d=>by
  simp only [renVs] at e
  split at e
  ·rename_i y m' h1 h2;cases e;cases vs with
   |nil=>exact d.elim
   |cons v vs=>exact ⟨renV_ok h1 d.1,renVs_ok h2 d.2⟩
  ·cases e
theorem DVs.app:∀ {l:List SV} {m:List Value},DVs ν l m → ∀ {l':List SV} {m':List Value},DVs ν l' m' → DVs ν (appS l l') (m ++ m')
 |[],[],_,_,_,d=>d
 |[],_ :: _,d,_,_,_=>d.elim
 |_ :: _,[],d,_,_,_=>d.elim
 |_ :: _,_ :: _,d,_,_,e=>⟨d.1,d.2.app e⟩
theorem vOf_ok:∀ {l:List SV1} {m:List Value},D1L ν l m → DVs ν (vOf l) m
 |[],[],_=>trivial
 |[],_ :: _,d=>d.elim
 |_ :: _,[],d=>d.elim
 |_ :: _,_ :: _,d=>⟨d.1,vOf_ok d.2⟩
theorem svals_ok {ρ:Nat → SV} {tm:Tr Value} (sl:SL ν ρ tm):∀ (l:List Operand),DVs ν (svals ρ l) (l.map (ev tm))
 |[]=>trivial
 |x :: l=>⟨sev_ok sl x,svals_ok sl l⟩
theorem One.call {ops : Array Oper} {o : Oper} {ρ : Nat → SV} {h1 : List (SR KT)} {v v' : SV} {k : Nat × Nat} {f : Operand} {args : Array Operand} {ts : Array TypeId} {g : FuncId} {a b : List SV1} {as_ : List SV} {hc hr : List (SR KT)}
  (hg:sguard ρ ops.toList o=some true) (hcl:opClean o.op=true) (ho:o.op=.call ⟨.value f,args,ts⟩) (hf:sev ρ f=.f g a b) (sp:Sp P O g as_ hc v hr) (σ:List (Option Nat))
  (h2:renVs σ as_=some (appS (vOf a) (appS (svals ρ args.toList) (vOf b)))) (h3:rowsC σ h hc 0) (h4:hdr1 σ h hc hc 0=true) (h5:σ.length=hc.length) (h6:cafter σ h hc hr v=some (v',h1,k)) (hd:dstOk nt o.dst) :
  One P O nt ops Γ o ρ h k (updO ρ o.dst v') h1:=by
 intro ν A tm s sl;have hw:=awanted_of sl hg;have fv:DV ν (.f g a b) (ev tm f):=by have:=sev_ok sl f;rw [hf] at this;exact this
 obtain ⟨x,y,f1,f2,f3⟩:=fv;obtain ⟨he,sp⟩:=sp;have dargs:=renVs_ok h2 ((vOf_ok f2).app ((svals_ok sl args.toList).app (vOf_ok f3)));obtain ⟨n,u,A',e1,ν',s',dv⟩:=sp (callG Γ ν σ hc A) (cutν ν σ) A _ (s.callG h5 h3 h4) dargs rfl;have st:=runF_step P O.m n n g _ A u A' s.wf e1;obtain ⟨ν'',q1,q2,q3,q4,q5⟩:=s.after h5 h3 h4 h6 s' st.next dv;obtain ⟨tm',p1,p2⟩:=put_ok hd (sl.ext q2) q4
 have ar:(x.toList ++ (args.toList.map (ev tm) ++ y.toList)).toArray=x ++ args.map (ev tm) ++ y:=by
  apply Array.ext';simp
 rw [ar] at e1
 have hao:aop P (ev tm) o A=some (.enter g (x ++ args.map (ev tm) ++ y) A):=by
  unfold aop;rw [ho];simp only [f1];unfold enterOk at he
  split at he
  ·rename_i fn hfn;rw [hfn];simp only [he,cond_true]
  ·cases he
 have run:stepOp P (cl P O n) nt ops o ⟨tm,A⟩=some ⟨tm',A'⟩:=by
  unfold stepOp;simp only [hw,hcl,cond_true,hao,e1,p1,Option.map_some]
 refine ⟨n,_,run,ν'',q1,p2,q2,q3,fun hlow=>?_⟩;rw [hw];subst q5;show KR ν'' h1 _ (kindOf (ev tm) o.op A A')
 have hkE:kindOf (ev tm) o.op A A'=kindE A A':=by
  rw [ho];unfold kindOf;simp only [pureOp,cond_false]
 rw [hkE]
 have bits:∀ b,b < A.next → A'.ts.testBit b=true → ∃ (i:Nat) (r:SR KT) (base cap:Nat),hc[i]?=some r∧r.ex=true∧cutν ν σ i=some (.at_ b base cap):=fun b hb q=>by
  rcases s'.low b q with q | q | q
  ·omega
  ·rw [hlow,Nat.zero_testBit] at q;cases q
  ·exact q
 cases hx:anyEx hc with
 |true =>
  simp only;unfold kindE;cases hz:Nat.beq (A'.ts % 2 ^ A.next) 0 with
  |true=>exact .inr (.inr (.inl rfl))
  |false =>
   refine .inr (.inr (.inr ⟨rfl,fun b hb=>?_⟩));simp only [cond_false] at hb;rw [Nat.testBit_mod_two_pow,Bool.and_eq_true] at hb;obtain ⟨i,r,base,cap,m1,m2,m3⟩:=bits b (of_decide_eq_true hb.1) hb.2;obtain ⟨b',z,_,z1,z2,z3,z4⟩:=callG_row s h4 m1 m2 m3;obtain ⟨z',y1,y2,y3⟩:=q3 b' z z1;exact ⟨b',z',base,cap,y1,y3.trans z2,by rw [y2];exact cmask_bit (i0:=0) m1 m2 (by rw [Nat.zero_add];exact z4),q2 _ _ z3⟩
 |false =>
  simp only;refine .inr (.inr ?_);unfold kindE
  have hz:A'.ts % 2 ^ A.next=0:=Nat.eq_of_testBit_eq fun b=>by
   rw [Nat.testBit_mod_two_pow,Nat.zero_testBit];by_cases hb:b < A.next
   ·cases hq:A'.ts.testBit b with
    |false=>simp
    |true =>
     obtain ⟨i,r,_,_,m1,m2,_⟩:=bits b hb hq;rw [anyEx_no hx i r m1] at m2;cases m2
   ·rw [decide_eq_false hb];rfl
  rw [hz];rfl
theorem WR.call {ops : Array Oper} {draw : Bool} {o : Oper} {l : List Oper} {ks : List (Nat × Nat)} {Q : (Nat → SV) → List (SR KT) → Prop} {ρ : Nat → SV} {h1 : List (SR KT)} {v v' : SV} {k : Nat × Nat} {f : Operand} {args : Array Operand} {ts : Array TypeId} {g : FuncId} {a b : List SV1} {as_ : List SV} {hc hr : List (SR KT)} {t : Nat}
  (sp:Sp P O g as_ hc v hr) (σ:List (Option Nat)) (hg:sguard ρ ops.toList o=some true) (hcl:opClean o.op=true) (ho:o.op=.call ⟨.value f,args,ts⟩) (hf:sev ρ f=.f g a b)
  (h2:renVs σ as_=some (appS (vOf a) (appS (svals ρ args.toList) (vOf b)))) (h3:rowsC σ h hc 0) (h4:hdr1 σ h hc hc 0=true) (h5:σ.length=hc.length) (h6:cafter σ h hc hr v=some (v',h1,k)) (hd:o.dst=some t) (hb:Nat.blt t nt=true)
  (r:WR P O nt ops draw Γ l (upd ρ t v') h1 (k :: ks) Q):WR P O nt ops draw Γ (o :: l) ρ h ks Q:=by
 refine WR.step (One.call hg hcl ho hf sp σ h2 h3 h4 h5 h6 fun t' q=>?_) ?_
 ·rw [hd] at q;cases q;exact hb
 ·rw [hd];exact r
end Go.Proofs.Ytpbhkdamkbopkaa.Rs
namespace Go.Proofs.Ytpbhkdamkbopkaa.Rs
open Go Go.RowKit Rf YtpbhkdamkbopkaaW.PrintWords
variable {α:Type}
theorem ifP {p:Prop} [Decidable p] {a b:α} (h:decide p=true):(if p then a else b)=a:=if_pos (of_decide_eq_true h)
theorem ifN {p:Prop} [Decidable p] {a b:α} (h:decide p=false):(if p then a else b)=b:=if_neg (of_decide_eq_false h)
theorem ifE {x y:Int} {a b:α} (h:(x == y)=true):(if x=y then a else b)=a:=if_pos (eq_of_beq h)
theorem ifEn {x y:Int} {a b:α} (h:(x == y)=false):(if x=y then a else b)=b:=if_neg (beq_eq_false_iff_ne.1 h)
theorem ifX {x y:Int} {a b:α} (h:(x != y)=true):(if x=y then a else b)=b:=if_neg (bne_iff_ne.1 h)
theorem ifXn {x y:Int} {a b:α} (h:(x != y)=false):(if x=y then a else b)=a:=if_pos (bne_eq_false_iff_eq.1 h)
theorem ifB {x:Bool} {a b:α} (h:x=true):(if x=true then a else b)=a:=if_pos h
theorem ifBn {x:Bool} {a b:α} (h:x=false):(if x=true then a else b)=b:=if_neg (by rw [h];decide)
theorem ifZ {x:Bool} {a b:α} (h:(!x)=true):(if x=true then a else b)=b:=by cases x <;> simp_all
theorem ifZn {x:Bool} {a b:α} (h:(!x)=false):(if x=true then a else b)=a:=by cases x <;> simp_all
theorem ifT {a b:α}:(if True then a else b)=a:=if_pos trivial
theorem gd {p:Prop} [Decidable p] {x:Option α} {r:α} (h:(if p then x else none)=some r):p∧x=some r:=by
 by_cases hp:p
 ·rw [if_pos hp] at h;exact ⟨hp,h⟩
 ·rw [if_neg hp] at h;cases h
theorem bd {β:Type} {x:Option β} {f:β → Option α} {r:α} (h:x.bind f=some r):∃ y,x=some y∧f y=some r:=Option.bind_eq_some_iff.1 h
theorem sl_ {σ:List (Option Nat)} {b b' n n':Nat} {v:SV} (h:oget σ b=some (some b')) (e:v=c1 (.sl b' n)) (hn:n'=n):renV σ (c1 (.sl b n'))=some v:=by
 subst e;subst hn;simp only [renV,ren1,renC,h]
theorem ap1 {p:Prop} (h:p):AllP [p]:=h
theorem ap2 {p q:Prop} {l:List Prop} (h:p) (t:AllP (q :: l)):AllP (p :: q :: l):=⟨h,t⟩
theorem pp0:AllPP []:=trivial
theorem pp1 {c:List Prop} {l:List (List Prop)} (h:AllP c) (t:AllPP l):AllPP (c :: l):=⟨h,t⟩
theorem rd_ {KT:TypeId → KD} {h:List (SR KT)} {r:SRow KT} {b:Nat} (h2:rowAt h b=some r):∃ r,rowAt h b=some r:=⟨r,h2⟩
theorem rw_ {KT:TypeId → KD} {σ:List (Option Nat)} {h:List (SR KT)} {row r:SRow KT} {b:Nat} (h1:renRow σ row=some r) (h2:rowAt h b=some r):∃ r,renRow σ row=some r∧rowAt h b=some r:=⟨r,h1,h2⟩
abbrev SC.n (x:Int):SC:=.int .i64 x
theorem n2 {p q:Prop} (a:p) (b:q):p∧q:=⟨a,b⟩
theorem tv:True:=True.intro
theorem dT {p:Prop} [inst:Decidable p] (h:decide p=true):p:=of_decide_eq_true h
theorem dF {p:Prop} [inst:Decidable p] (h:decide p=false):¬p:=of_decide_eq_false h
theorem bF {x y:Int} (h:(x == y)=false):x ≠ y:=beq_eq_false_iff_ne.1 h
theorem nT {x y:Int} (h:(x != y)=true):x ≠ y:=bne_iff_ne.1 h
theorem nF {x y:Int} (h:(x != y)=false):x=y:=bne_eq_false_iff_eq.1 h
theorem nn {r:α} {p:Prop} (h:none=some r):p:=nomatch h
end Go.Proofs.Ytpbhkdamkbopkaa.Rs
namespace Go.Proofs.Ytpbhkdamkbopkaa.GPix
open Go.RowKit YtpbhkdamkbopkaaW.PrintWords YtpbhkdamkbopkaaW.PrintLast YtpbhkdamkbopkaaW.PrintMore
structure S89 where
 f0:Int
 f1:Int
 f2:Int
 f3:Int
def z89:S89:=⟨(0:Int),(0:Int),(0:Int),(0:Int)⟩
def rd_T89 (xs:List S89) (i:Int):S89:=xs.getD i.toNat z89
def bits_right.f (a0_0:ByteArray) (a0_1:Int):Option (Bool):=if a0_1 ≥ 0 then (some (decide (a0_1≤(wrap64 (8*(a0_0.size:Int)))))) else (some false)
def bits_Align.f (a0_0:ByteArray) (a0_1:Int):Option (ByteArray × Int):=(bits_right.f a0_0 a0_1).bind fun t218=>(if t218=true then (some (a0_0,wrap64 ((wrap64 (Int.tdiv (wrap64 (a0_1+7)) 8))*8))) else (some (a0_0,a0_1)))
def bits_Bytes.j0:Nat → Int → Bool → ByteArray → Int → Option (ByteArray × ByteArray × Int × Int)
 |0,_,_,_,_=>none
 |k+1,x1,x14,x220000,x220001=>if x14=true then (some ((⟨#[]⟩:ByteArray),(⟨#[]⟩:ByteArray),0,1)) else ((bits_Align.f x220000 x220001).bind fun bt222=>(if x1 > (wrap64 ((x220000.size:Int) - (wrap64 (Int.tdiv bt222.2 8)))) then (some ((⟨#[]⟩:ByteArray),(⟨#[]⟩:ByteArray),0,2)) else (if 0≤(wrap64 (Int.tdiv bt222.2 8)) then (if (wrap64 (Int.tdiv bt222.2 8))≤(wrap64 ((wrap64 (Int.tdiv bt222.2 8))+x1)) then (if (wrap64 ((wrap64 (Int.tdiv bt222.2 8))+x1))≤(x220000.size:Int) then (some (x220000.extract ((wrap64 (Int.tdiv bt222.2 8)):Int).toNat ((wrap64 ((wrap64 (Int.tdiv bt222.2 8))+x1)):Int).toNat,x220000,wrap64 (8*(wrap64 ((wrap64 (Int.tdiv bt222.2 8))+x1))),0)) else (none)) else (none)) else (none))))
def bits_Bytes.f (k:Nat) (a0_0:ByteArray) (a0_1:Int) (a1:Int):Option (ByteArray × ByteArray × Int × Int):=(bits_right.f a0_0 a0_1).bind fun t221=>(if t221=true then (bits_Bytes.j0 k a1 (decide (a1 < 0)) a0_0 a0_1) else (bits_Bytes.j0 k a1 true a0_0 a0_1))
mutual
def bits_Little.j0:Nat → Int → Bool → ByteArray → Int → Option (Int × ByteArray × Int × Int)
 |0,_,_,_,_=>none
 |k+1,x1,x17,x225000,x225001=>if x17=true then (some (0,(⟨#[]⟩:ByteArray),0,1)) else ((bits_Bytes.f k x225000 x225001 x1).bind fun bt226=>(bits_Little.l0 k bt226.1 bt226.2.2.2 0 (wrap64 ((bt226.1.size:Int) - 1)) bt226.2.1 bt226.2.2.1))
def bits_Little.l0:Nat → ByteArray → Int → Int → Int → ByteArray → Int → Option (Int × ByteArray × Int × Int)
 |0,_,_,_,_,_,_=>none
 |k+1,x7,x9,x10,x11,x231000,x231001=>if x11 ≥ 0 then (if 0≤x11 then (if x11 < (x7.size:Int) then (bits_Little.l0 k x7 x9 (Go.bits .or .i64 (wrap64 (x10*256)) (wrap64 (bt x7 x11))) (wrap64 (x11 - 1)) x231000 x231001) else (none)) else (none)) else (some (x10,x231000,x231001,x9))
end
def bits_Little.f (k:Nat) (a0_0:ByteArray) (a0_1:Int) (a1:Int):Option (Int × ByteArray × Int × Int):=if a1 < 1 then (bits_Little.j0 k a1 true a0_0 a0_1) else (bits_Little.j0 k a1 (decide (a1 > 4)) a0_0 a0_1)
def pixel_head.j0:Nat → Int → Int → Bool → ByteArray → Int → Int → Int → Int → Option (Int × Int × Int × (List (S89)) × Int × ByteArray × Int)
 |0,_,_,_,_,_,_,_,_=>none
 |k+1,x7,x8,x36,x232000,x232001,x234000,x234001,x234002=>if x36=true then (some (x234000,x234001,x234002,([]:List (S89)),0,(⟨#[]⟩:ByteArray),3)) else ((bits_Little.f k x232000 x232001 2).bind fun bt242=>(if bt242.2.2.2=0 then ((bits_Little.f k bt242.2.1 bt242.2.2.1 2).bind fun bt246=>(if bt246.2.2.2=0 then (if x7=3 then ((bits_Little.f k bt246.2.1 bt246.2.2.1 1).bind fun bt250=>(if bt250.2.2.2=0 then (if (mn bt242.1 bt246.1) < 1 then (some (x234000,bt242.1,bt246.1,([]:List (S89)),0,(⟨#[]⟩:ByteArray),7)) else (if (mx bt242.1 bt246.1) > 64 then (some (x234000,bt242.1,bt246.1,([]:List (S89)),0,(⟨#[]⟩:ByteArray),7)) else (if 0≤(wrap64 (Int.tdiv bt250.2.2.1 8)) then (if (wrap64 (Int.tdiv bt250.2.2.1 8))≤(bt250.2.1.size:Int) then (some (x234000,bt242.1,bt246.1,([]:List (S89)),wrap64 (bt250.1+1),bt250.2.1.extract ((wrap64 (Int.tdiv bt250.2.2.1 8)):Int).toNat bt250.2.1.size,0)) else (none)) else (none)))) else (some (x234000,bt242.1,bt246.1,([]:List (S89)),0,(⟨#[]⟩:ByteArray),bt250.2.2.2)))) else (if (mn bt242.1 bt246.1) < 1 then (some (x234000,bt242.1,bt246.1,([]:List (S89)),0,(⟨#[]⟩:ByteArray),7)) else (if (mx bt242.1 bt246.1) > 64 then (some (x234000,bt242.1,bt246.1,([]:List (S89)),0,(⟨#[]⟩:ByteArray),7)) else (if 0≤(wrap64 (Int.tdiv bt246.2.2.1 8)) then (if (wrap64 (Int.tdiv bt246.2.2.1 8))≤(bt246.2.1.size:Int) then (some (x234000,bt242.1,bt246.1,([]:List (S89)),x8,bt246.2.1.extract ((wrap64 (Int.tdiv bt246.2.2.1 8)):Int).toNat bt246.2.1.size,0)) else (none)) else (none))))) else (some (x234000,bt242.1,bt246.1,([]:List (S89)),0,(⟨#[]⟩:ByteArray),bt246.2.2.2)))) else (some (x234000,bt242.1,x234002,([]:List (S89)),0,(⟨#[]⟩:ByteArray),bt242.2.2.2))))
def pixel_head.f (k:Nat) (a0_0:ByteArray) (a0_1:Int):Option (Int × Int × Int × (List (S89)) × Int × ByteArray × Int):=(bits_Little.f k a0_0 a0_1 2).bind fun bt234=>(if bt234.2.2.2=0 then ((bits_Little.f k bt234.2.1 bt234.2.2.1 1).bind fun bt238=>(if bt238.2.2.2=0 then (if bt238.1=3 then (pixel_head.j0 k bt238.1 0 false bt238.2.1 bt238.2.2.1 bt234.1 0 0) else (pixel_head.j0 k bt238.1 0 (bt238.1 != 5) bt238.2.1 bt238.2.2.1 bt234.1 0 0)) else (some (bt234.1,0,0,([]:List (S89)),0,(⟨#[]⟩:ByteArray),bt238.2.2.2)))) else (some (bt234.1,0,0,([]:List (S89)),0,(⟨#[]⟩:ByteArray),bt234.2.2.2)))
def pixel_four.f (a0:ByteArray):Option (Int × Int × Int × Int):=if 0 < (a0.size:Int) then (if 1 < (a0.size:Int) then (if 2 < (a0.size:Int) then (if 3 < (a0.size:Int) then (some (wrap64 (bt a0 0),wrap64 (bt a0 1),wrap64 (bt a0 2),wrap64 (bt a0 3))) else (none)) else (none)) else (none)) else (none)
mutual
def pixel_numbered.l0:Nat → ByteArray → Int → Int → Int → List (S89) → Int → Int → Option ((List (S89)) × Bool)
 |0,_,_,_,_,_,_,_=>none
 |k+1,x0,x1,x2,x10,x11,x28,x29=>if x29 < x28 then (pixel_numbered.l1 k x0 x1 x2 x10 x11 x29 x28 x29 x2 0) else (some (x11,true))
def pixel_numbered.l1:Nat → ByteArray → Int → Int → Int → List (S89) → Int → Int → Int → Int → Int → Option ((List (S89)) × Bool)
 |0,_,_,_,_,_,_,_,_,_,_=>none
 |k+1,x0,x1,x2,x10,x11,x12,x28,x29,x32,x33=>if x33 < x32 then (if 0≤(wrap64 ((wrap64 ((wrap64 (4*x1))+(wrap64 (x12*x10))))+x33)) then (if (wrap64 ((wrap64 ((wrap64 (4*x1))+(wrap64 (x12*x10))))+x33)) < (x0.size:Int) then (if (wrap64 (bt x0 (wrap64 ((wrap64 ((wrap64 (4*x1))+(wrap64 (x12*x10))))+x33)))) ≥ x1 then (some (([]:List (S89)),false)) else (if 0≤(wrap64 (4*(wrap64 (bt x0 (wrap64 ((wrap64 ((wrap64 (4*x1))+(wrap64 (x12*x10))))+x33)))))) then (if (wrap64 (4*(wrap64 (bt x0 (wrap64 ((wrap64 ((wrap64 (4*x1))+(wrap64 (x12*x10))))+x33))))))≤(wrap64 ((wrap64 (4*(wrap64 (bt x0 (wrap64 ((wrap64 ((wrap64 (4*x1))+(wrap64 (x12*x10))))+x33))))))+4)) then (if (wrap64 ((wrap64 (4*(wrap64 (bt x0 (wrap64 ((wrap64 ((wrap64 (4*x1))+(wrap64 (x12*x10))))+x33))))))+4))≤(x0.size:Int) then ((pixel_four.f (x0.extract ((wrap64 (4*(wrap64 (bt x0 (wrap64 ((wrap64 ((wrap64 (4*x1))+(wrap64 (x12*x10))))+x33)))))):Int).toNat ((wrap64 ((wrap64 (4*(wrap64 (bt x0 (wrap64 ((wrap64 ((wrap64 (4*x1))+(wrap64 (x12*x10))))+x33))))))+4)):Int).toNat)).bind fun bt255=>(if x11.length < 4398046511104 then (pixel_numbered.l1 k x0 x1 x2 x10 (x11 ++ [(⟨bt255.1,bt255.2.1,bt255.2.2.1,bt255.2.2.2⟩:S89)]) x12 x28 x29 x32 (wrap64 (x33+1))) else (none))) else (none)) else (none)) else (none))) else (none)) else (none)) else (pixel_numbered.l0 k x0 x1 x2 x10 x11 x28 (wrap64 (x29+1)))
end
def pixel_numbered.f (k:Nat) (a0:ByteArray) (a1:Int) (a2:Int) (a3:Int):Option ((List (S89)) × Bool):=if (a0.size:Int)=(wrap64 ((wrap64 (4*a1))+(wrap64 ((wrap64 ((wrap64 (Int.tdiv (wrap64 (a2+3)) 4))*4))*a3)))) then (pixel_numbered.l0 k a0 a1 a2 (wrap64 ((wrap64 (Int.tdiv (wrap64 (a2+3)) 4))*4)) ([]:List (S89)) a3 0) else (some (([]:List (S89)),false))
def pixel_plain.l0:Nat → ByteArray → List (S89) → Int → Int → Option ((List (S89)) × Bool)
 |0,_,_,_,_=>none
 |k+1,x0,x6,x14,x15=>if x15 < x14 then (if 0≤(wrap64 (4*x15)) then (if (wrap64 (4*x15))≤(wrap64 ((wrap64 (4*x15))+4)) then (if (wrap64 ((wrap64 (4*x15))+4))≤(x0.size:Int) then (if 1≤((x0.extract ((wrap64 (4*x15)):Int).toNat ((wrap64 ((wrap64 (4*x15))+4)):Int).toNat).size:Int) then (if 0≤1 then (if ((x0.extract ((wrap64 (4*x15)):Int).toNat ((wrap64 ((wrap64 (4*x15))+4)):Int).toNat).extract (1:Int).toNat (x0.extract ((wrap64 (4*x15)):Int).toNat ((wrap64 ((wrap64 (4*x15))+4)):Int).toNat).size).size+((x0.extract ((wrap64 (4*x15)):Int).toNat ((wrap64 ((wrap64 (4*x15))+4)):Int).toNat).extract 0 (1:Int).toNat).size≤140737488351232 then ((pixel_four.f (((x0.extract ((wrap64 (4*x15)):Int).toNat ((wrap64 ((wrap64 (4*x15))+4)):Int).toNat).extract 1 (x0.extract ((wrap64 (4*x15)):Int).toNat ((wrap64 ((wrap64 (4*x15))+4)):Int).toNat).size) ++ ((x0.extract ((wrap64 (4*x15)):Int).toNat ((wrap64 ((wrap64 (4*x15))+4)):Int).toNat).extract 0 1))).bind fun bt262=>(if x6.length < 4398046511104 then (pixel_plain.l0 k x0 (x6 ++ [(⟨bt262.1,bt262.2.1,bt262.2.2.1,bt262.2.2.2⟩:S89)]) x14 (wrap64 (x15+1))) else (none))) else (none)) else (none)) else (none)) else (none)) else (none)) else (none)) else (some (x6,true))
def pixel_plain.f (k:Nat) (a0:ByteArray) (a1:Int):Option ((List (S89)) × Bool):=if (a0.size:Int)=(wrap64 (4*a1)) then (pixel_plain.l0 k a0 ([]:List (S89)) a1 0) else (some (([]:List (S89)),false))
def l11_ref.f (a0_0:Int) (a0_1:Int) (a0_2:Int) (l0_3:List (S89)):Option (Int × Int × Int × (List (S89))):=some (a0_0,a0_1,a0_2,l0_3)
mutual
def c11_Equal.j0:Nat → Bool → Int → Int → Int → List (S89) → Int → Int → Int → List (S89) → Option (Bool)
 |0,_,_,_,_,_,_,_,_,_=>none
 |k+1,x33,x295000,x295001,x295002,x295003,x296000,x296001,x296002,x296003=>if x33=true then (some false) else (c11_Equal.l0 k 0 x295000 x295001 x295002 x295003 x296000 x296001 x296002 x296003)
def c11_Equal.l0:Nat → Int → Int → Int → Int → List (S89) → Int → Int → Int → List (S89) → Option (Bool)
 |0,_,_,_,_,_,_,_,_,_=>none
 |k+1,x5,x295000,x295001,x295002,x295003,x296000,x296001,x296002,x296003=>if x5 < (x295003.length:Int) then (if 0≤x5 then (if x5 < (x296003.length:Int) then (if (!(((rd_T89 x295003 x5).f0) == ((rd_T89 x296003 x5).f0)) || (!(((rd_T89 x295003 x5).f1) == ((rd_T89 x296003 x5).f1)) || (!(((rd_T89 x295003 x5).f2) == ((rd_T89 x296003 x5).f2)) || (!(((rd_T89 x295003 x5).f3) == ((rd_T89 x296003 x5).f3))))))=true then (some false) else (c11_Equal.l0 k (wrap64 (x5+1)) x295000 x295001 x295002 x295003 x296000 x296001 x296002 x296003)) else (none)) else (none)) else (some true)
end
def c11_Equal.f (k:Nat) (a0_0:Int) (a0_1:Int) (a0_2:Int) (l0_3:List (S89)) (a1_0:Int) (a1_1:Int) (a1_2:Int) (l1_3:List (S89)):Option (Bool):=if a0_0=a1_0 then (if a0_1=a1_1 then (if a0_2=a1_2 then (c11_Equal.j0 k ((l0_3.length:Int) != (l1_3.length:Int)) a0_0 a0_1 a0_2 l0_3 a1_0 a1_1 a1_2 l1_3) else (c11_Equal.j0 k true a0_0 a0_1 a0_2 l0_3 a1_0 a1_1 a1_2 l1_3)) else (c11_Equal.j0 k true a0_0 a0_1 a0_2 l0_3 a1_0 a1_1 a1_2 l1_3)) else (c11_Equal.j0 k true a0_0 a0_1 a0_2 l0_3 a1_0 a1_1 a1_2 l1_3)
mutual
def c11_Right.j0:Nat → Bool → Int → Int → Int → List (S89) → Option (Bool)
 |0,_,_,_,_,_=>none
 |k+1,x43,x299000,x299001,x299002,x299003=>if x43=true then (some false) else (c11_Right.l0 k 0 x299000 x299001 x299002 x299003)
def c11_Right.l0:Nat → Int → Int → Int → Int → List (S89) → Option (Bool)
 |0,_,_,_,_,_=>none
 |k+1,x3,x299000,x299001,x299002,x299003=>if x3 < (x299003.length:Int) then (if 0≤x3 then (if ((rd_T89 x299003 x3).f3) > 255 then (some false) else (if ((rd_T89 x299003 x3).f0) < 0 then (some false) else (if ((rd_T89 x299003 x3).f1) < 0 then (some false) else (if ((rd_T89 x299003 x3).f2) < 0 then (some false) else (if ((rd_T89 x299003 x3).f0) > ((rd_T89 x299003 x3).f3) then (some false) else (if ((rd_T89 x299003 x3).f1) > ((rd_T89 x299003 x3).f3) then (some false) else (if ((rd_T89 x299003 x3).f2) > ((rd_T89 x299003 x3).f3) then (some false) else (c11_Right.l0 k (wrap64 (x3+1)) x299000 x299001 x299002 x299003)))))))) else (none)) else (some true)
end
def c11_Right.f (k:Nat) (a0_0:Int) (a0_1:Int) (a0_2:Int) (l0_3:List (S89)):Option (Bool):=if a0_0 < 0 then (c11_Right.j0 k true a0_0 a0_1 a0_2 l0_3) else (if a0_0 > 65535 then (c11_Right.j0 k true a0_0 a0_1 a0_2 l0_3) else (if a0_1 < 1 then (c11_Right.j0 k true a0_0 a0_1 a0_2 l0_3) else (if a0_1 > 64 then (c11_Right.j0 k true a0_0 a0_1 a0_2 l0_3) else (if a0_2 < 1 then (c11_Right.j0 k true a0_0 a0_1 a0_2 l0_3) else (if a0_2 > 64 then (c11_Right.j0 k true a0_0 a0_1 a0_2 l0_3) else (c11_Right.j0 k ((l0_3.length:Int) != (wrap64 (a0_1*a0_2))) a0_0 a0_1 a0_2 l0_3))))))
def field_within.l0:Nat → Int → Int → List Int → Int → Int → Option (Bool)
 |0,_,_,_,_,_=>none
 |k+1,x0,x1,x9,x10,x11=>if x11 < x10 then (if 0≤x11 then (if x11 < (x9.length:Int) then (if (rd x9 x11) < x0 then (some false) else (if (rd x9 x11) > x1 then (some false) else (field_within.l0 k x0 x1 x9 x10 (wrap64 (x11+1))))) else (none)) else (none)) else (some true)
def field_within.f (k:Nat) (a0:Int) (a1:Int) (l2:List Int):Option (Bool):=field_within.l0 k a0 a1 l2 (l2.length:Int) 0
def field_RightRGBA.f (k:Nat) (a0_0:Int) (a0_1:Int) (a0_2:Int) (a0_3:Int):Option (Bool):=(field_within.f k 0 255 (([a0_0,a0_1,a0_2,a0_3]:List Int))).bind fun t308=>(some t308)
def pixel_faint.f (k:Nat) (a0_0:Int) (a0_1:Int) (a0_2:Int) (a0_3:Int):Option (Bool):=(field_RightRGBA.f k a0_0 a0_1 a0_2 a0_3).bind fun t310=>(if t310=true then (some (decide ((mx (mx a0_0 a0_1) a0_2)≤a0_3))) else (some false))
end Go.Proofs.Ytpbhkdamkbopkaa.GPix
namespace Go.Proofs.Ytpbhkdamkbopkaa.Rs
open Go Go.RowKit Rf YtpbhkdamkbopkaaW.PrintWords Go.Proofs.Ytpbhkdamkbopkaa
def KI (k:IntKind) (lim:Nat) (ofs:Option (ByteArray → List Int)) (ho:∀ f,ofs=some f → 1=1∧∀ s:ByteArray,((f s).map fun x=>[SC.int k x])=s.data.toList.map fun b=>[.int .u8 b.toNat]) (str:Option (List Int → ByteArray)) (hs:∀ f,str=some f → ∃ g:Int → Int,1=1∧(∀ x:Int,[SC.int k x]=[.int .u8 (g x)])∧∀ xs,f xs=⟨(xs.map fun x=>UInt8.ofNat (g x).toNat).toArray⟩):KD where
 α:=Int
 sz:=1
 enc x:=[.int k x]
 dec l:=match l with
  |[.int k' n]=>if k'=k then some n else none
  |_=>none
 rd:=rd
 wt xs i x:=xs.set i.toNat x
 lim:=lim
 str:=str
 ofs:=ofs
 ofs_is:=ho
 pos:=by decide
 len _:=rfl
 fr _:=rfl
 dec_is l x h:=by
  split at h
  ·split at h
   ·cases h;simp_all
   ·cases h
  ·cases h
 rd_is xs i h:=by
  rw [show rd xs i=xs.getD i.toNat 0 from rfl,List.getD_eq_getElem?_getD,List.getElem?_eq_getElem h];rfl
 wt_is _ _ _:=rfl
 str_is:=hs
def byts (s:ByteArray):List Int:=s.data.toList.map fun b=>(b.toNat:Int)
def KU8:KD:=KI .u8 140737488355328 (some byts) (fun f h=>by cases h;exact ⟨rfl,fun s=>by simp [byts]⟩) (some strOfNums) fun f h=>by
 cases h;exact ⟨id,rfl,fun _=>rfl,fun xs=>rfl⟩
def KI64:KD:=KI .i64 17592186044416 none (fun f h=>nomatch h) none fun f h=>nomatch h
def K89:KD where
 α:=GPix.S89
 sz:=4
 enc x:=[.int .i64 x.f0,.int .i64 x.f1,.int .i64 x.f2,.int .i64 x.f3]
 dec l:=match l with
  |[.int .i64 a,.int .i64 b,.int .i64 c,.int .i64 d]=>some ⟨a,b,c,d⟩
  |_=>none
 rd:=GPix.rd_T89
 wt xs i x:=xs.set i.toNat x
 lim:=4398046511104
 str:=none
 ofs:=none
 ofs_is f h:=nomatch h
 pos:=by decide
 len _:=rfl
 fr _:=rfl
 dec_is l x h:=by
  split at h
  ·cases h;rfl
  ·cases h
 rd_is xs i h:=by
  rw [show GPix.rd_T89 xs i=xs.getD i.toNat GPix.z89 from rfl,List.getD_eq_getElem?_getD,List.getElem?_eq_getElem h];rfl
 wt_is _ _ _:=rfl
 str_is f h:=nomatch h
def kt (t:TypeId):KD:=bif Nat.beq t 5 then KU8 else bif Nat.beq t 89 then K89 else KI64
def T (t:TypeId):Option TE:=match t with
 |3=>some ⟨.int .i64,1,[.int .i64 0]⟩
 |4=>some ⟨.bool,1,[.bool false]⟩
 |5=>some ⟨.int .u8,1,[.int .u8 0]⟩
 |9=>some ⟨.str,1,[.str .empty]⟩
 |22=>some ⟨.slice 3,1,[.nils]⟩
 |24=>some ⟨.array 16 3,16,[.int .i64 0,.int .i64 0,.int .i64 0,.int .i64 0,.int .i64 0,.int .i64 0,.int .i64 0,.int .i64 0,.int .i64 0,.int .i64 0,.int .i64 0,.int .i64 0,.int .i64 0,.int .i64 0,.int .i64 0,.int .i64 0]⟩
 |26=>some ⟨.struct [(0,16,true),(16,1,false)],17,[.int .i64 0,.int .i64 0,.int .i64 0,.int .i64 0,.int .i64 0,.int .i64 0,.int .i64 0,.int .i64 0,.int .i64 0,.int .i64 0,.int .i64 0,.int .i64 0,.int .i64 0,.int .i64 0,.int .i64 0,.int .i64 0,.nils]⟩
 |27=>some ⟨.int .i64,1,[.int .i64 0]⟩
 |40=>some ⟨.slice 5,1,[.nils]⟩
 |43=>some ⟨.int .u64,1,[.int .u64 0]⟩
 |74=>some ⟨.slice 89,1,[.nils]⟩
 |76=>some ⟨.struct [(0,1,false),(1,1,false),(2,1,false),(3,1,false)],4,[.int .i64 0,.int .i64 0,.int .i64 0,.nils]⟩
 |79=>some ⟨.struct [(0,1,false),(1,1,false),(2,1,false),(3,1,false)],4,[.int .i64 0,.int .i64 0,.int .i64 0,.nils]⟩
 |89=>some ⟨.struct [(0,1,false),(1,1,false),(2,1,false),(3,1,false)],4,[.int .i64 0,.int .i64 0,.int .i64 0,.int .i64 0]⟩
 |113=>some ⟨.struct [(0,1,false),(1,1,false),(2,1,false),(3,1,false),(4,1,false)],5,[.str .empty,.int .i64 0,.nils,.int .i64 0,.int .i64 0]⟩
 |133=>some ⟨.struct [(0,1,false),(1,1,false)],2,[.str .empty,.int .i64 0]⟩
 |115=>some ⟨.struct [(0,1,false),(1,1,false),(2,1,false)],3,[.nils,.int .i64 0,.int .i64 0]⟩
 |153=>some ⟨.int .u32,1,[.int .u32 0]⟩
 |163=>some ⟨.int .u64,1,[.int .u64 0]⟩
 |_=>none
theorem tok:TOK Try.prog kt T:=by
 intro t e h;unfold T at h
 split at h <;> cases h <;> kernel_rfl
variable {O:Orc} {Γ:Gh} {h h':List (SR kt)} {nt:Nat}
theorem wrg {id : Nat} {ops : Array Oper} {draw : Bool} {ρ : Nat → SV} {Q : AEx → (Nat → SV) → List (SR kt) → Prop} (k : WR Try.prog O nt ops draw Γ ops.toList ρ h [] (Q .normal))
  (hd:draw=true → drawOk ops=true:=by first | (intro h;cases h;done) | (intro _;kernel_rfl)):WS Try.prog O nt Γ (.region id ops draw) ρ h Q:=WS.region hd k
theorem wcut (σ : List (Option Nat)) (live : List (Nat × SV)) (hc : List (SR kt)) {x : Code} {ρ : Nat → SV} {Q : AEx → (Nat → SV) → List (SR kt) → Prop} (h1 : slotsC σ ρ live) (h2 : rowsC σ h hc 0) (h5 : pinC σ Γ.np = true)
  (k:∀ g,WS Try.prog O nt Γ x (upds g live) hc Q) (h3:hdr1 σ h hc hc 0=true:=by rfl) (h4:σ.length=hc.length:=by rfl):WS Try.prog O nt Γ x ρ h Q:=WS.cut σ live hc h1 h2 h3 h4 h5 k
theorem wr (n : Nat) {ops : Array Oper} {draw : Bool} {Q : (Nat → SV) → List (SR kt) → Prop} {l l' : List Oper} {ρ ρ' : Nat → SV} {ks ks' : List (Nat × Nat)} {cs : List (List Prop)} (r : WR Try.prog O nt ops draw Γ l' ρ' h' ks' Q)
  (e:srun T nt ops.toList n l ρ h ks []=some (l',ρ',h',ks',cs):=by rfl)
  (hc:AllPP cs:=by ((repeat' (with_reducible first | exact pp0 | refine pp1 ?_ ?_ | refine ap2 ?_ ?_ | refine ap1 ?_ | assumption)) <;> (first | decide | omega | rfl | exact Nat.zero_lt_one | (show _+1≤_;omega) | (dsimp only;omega)))):WR Try.prog O nt ops draw Γ l ρ h ks Q:=WR.run tok n e hc r
theorem wn {ops : Array Oper} {draw : Bool} {ρ : Nat → SV} {ks : List (Nat × Nat)} {Q : (Nat → SV) → List (SR kt) → Prop} (hQ : Q ρ h)
  (hk:draw=true → kindsOk (masks ops.toList 0 []) ks.reverse=true:=by first | (intro h;cases h;done) | exact (fun _=>rfl) | (intro _;kernel_rfl)):WR Try.prog O nt ops draw Γ [] ρ h ks Q:=WR.nil hk hQ
end Go.Proofs.Ytpbhkdamkbopkaa.Rs
namespace Go.Proofs.Ytpbhkdamkbopkaa.GHuff
open Go.RowKit YtpbhkdamkbopkaaW.PrintWords YtpbhkdamkbopkaaW.PrintLast YtpbhkdamkbopkaaW.PrintMore
def huff_Bit.f (a0:ByteArray) (a1:Int):Option (Int × Bool):=if a1 < 0 then (some (0,false)) else (if a1 ≥ (wrap64 (8*(a0.size:Int))) then (some (0,false)) else (if 0≤(wrap64 (Int.tdiv a1 8)) then (if (wrap64 (Int.tdiv a1 8)) < (a0.size:Int) then (if 0≤(Int.tmod a1 8) then (some (Go.bits .and .i64 (wrap64 (shr .u8 (bt a0 (wrap64 (Int.tdiv a1 8))) (Int.tmod a1 8))) 1,true)) else (none)) else (none)) else (none)))
mutual
def c04_Error.l0:Nat → List Int → Int → Int → Int → Int → Option (Int)
 |0,_,_,_,_,_=>none
 |k+1,x0,x3,x4,x5,x6=>if x6 < (x0.length:Int) then (if 0≤x6 then (if (rd x0 x6) < 0 then (c04_Error.j1 k x0 x3 x4 x5 x6 true) else (c04_Error.j1 k x0 x3 x4 x5 x6 (decide ((rd x0 x6) > 15)))) else (none)) else (if x3=32768 then (some 0) else (if x4=0 then (some 0) else (if x4=1 then (if x5=1 then (some 0) else (some 4)) else (some 4))))
def c04_Error.j1:Nat → List Int → Int → Int → Int → Int → Bool → Option (Int)
 |0,_,_,_,_,_,_=>none
 |k+1,x0,x3,x4,x5,x6,x29=>if x29=true then (some 1) else (if 0≤x6 then (if x6 < (x0.length:Int) then (if (rd x0 x6) > 0 then (c04_Error.l1 k x0 x3 (wrap64 (x4+1)) x5 x6 32768 0) else (if (rd x0 x6)=1 then (c04_Error.l0 k x0 x3 x4 (wrap64 (x5+1)) (wrap64 (x6+1))) else (c04_Error.l0 k x0 x3 x4 x5 (wrap64 (x6+1))))) else (none)) else (none))
def c04_Error.l1:Nat → List Int → Int → Int → Int → Int → Int → Int → Option (Int)
 |0,_,_,_,_,_,_,_=>none
 |k+1,x0,x3,x4,x5,x6,x7,x8=>if 0≤x6 then (if x6 < (x0.length:Int) then (if x8 < (rd x0 x6) then (c04_Error.l1 k x0 x3 x4 x5 x6 (wrap64 (Int.tdiv x7 2)) (wrap64 (x8+1))) else (if (rd x0 x6)=1 then (c04_Error.l0 k x0 (wrap64 (x3+x7)) x4 (wrap64 (x5+1)) (wrap64 (x6+1))) else (c04_Error.l0 k x0 (wrap64 (x3+x7)) x4 x5 (wrap64 (x6+1))))) else (none)) else (none)
end
def c04_Error.f (k:Nat) (l0:List Int):Option (Int):=if (l0.length:Int) > 320 then (some 1) else (c04_Error.l0 k l0 0 0 0 0)
mutual
def c04_Codes.l0:Nat → List Int → List Int → Int → Option (List Int)
 |0,_,_,_=>none
 |k+1,x0,x3,x4=>if x4 < (x0.length:Int) then (if 0≤x4 then (if (rd x0 x4)=0 then (c04_Codes.l0 k x0 x3 (wrap64 (x4+1))) else (c04_Codes.l1 k x0 x3 x4 0 0)) else (none)) else (some x3)
def c04_Codes.l1:Nat → List Int → List Int → Int → Int → Int → Option (List Int)
 |0,_,_,_,_,_=>none
 |k+1,x0,x3,x4,x5,x6=>if x6 < (x0.length:Int) then (if 0≤x6 then (if (rd x0 x6) > 0 then (if 0≤x4 then (if x4 < (x0.length:Int) then (if (rd x0 x6) < (rd x0 x4) then (c04_Codes.j2 k x0 x3 x4 x5 x6 true) else (if (rd x0 x6)=(rd x0 x4) then (c04_Codes.j2 k x0 x3 x4 x5 x6 (decide (x6 < x4))) else (c04_Codes.j2 k x0 x3 x4 x5 x6 false))) else (none)) else (none)) else (c04_Codes.j2 k x0 x3 x4 x5 x6 false)) else (none)) else (if 0≤x4 then (if x4 < (x0.length:Int) then (c04_Codes.l3 k x0 x3 x4 x5 (rd x0 x4)) else (none)) else (none))
def c04_Codes.j2:Nat → List Int → List Int → Int → Int → Int → Bool → Option (List Int)
 |0,_,_,_,_,_,_=>none
 |k+1,x0,x3,x4,x5,x6,x61=>if x61=true then (c04_Codes.l2 k x0 x3 x4 x5 x6 32768 0) else (c04_Codes.l1 k x0 x3 x4 x5 (wrap64 (x6+1)))
def c04_Codes.l2:Nat → List Int → List Int → Int → Int → Int → Int → Int → Option (List Int)
 |0,_,_,_,_,_,_,_=>none
 |k+1,x0,x3,x4,x5,x6,x7,x8=>if 0≤x6 then (if x6 < (x0.length:Int) then (if x8 < (rd x0 x6) then (c04_Codes.l2 k x0 x3 x4 x5 x6 (wrap64 (Int.tdiv x7 2)) (wrap64 (x8+1))) else (c04_Codes.l1 k x0 x3 x4 (wrap64 (x5+x7)) (wrap64 (x6+1)))) else (none)) else (none)
def c04_Codes.l3:Nat → List Int → List Int → Int → Int → Int → Option (List Int)
 |0,_,_,_,_,_=>none
 |k+1,x0,x3,x4,x5,x9=>if x9 < 15 then (c04_Codes.l3 k x0 x3 x4 (wrap64 (Int.tdiv x5 2)) (wrap64 (x9+1))) else (if 0≤x4 then (if x4 < (x3.length:Int) then (c04_Codes.l0 k x0 (x3.set (x4:Int).toNat x5) (wrap64 (x4+1))) else (none)) else (none))
end
def c04_Codes.f (k:Nat) (l0:List Int):Option (List Int):=if 0≤(l0.length:Int) then (if ((l0.length:Int):Int).toNat≤35184372088832 then (c04_Codes.l0 k l0 (List.replicate ((l0.length:Int):Int).toNat 0) 0) else (none)) else (none)
mutual
def c04_Bit.j0:Nat → ByteArray → Int → Bool → Option (Int)
 |0,_,_,_=>none
 |k+1,x0,x1,x15=>if x15=true then (some (-1)) else (if 0≤(wrap64 (Int.tdiv x1 8)) then (if (wrap64 (Int.tdiv x1 8)) < (x0.size:Int) then (c04_Bit.l0 k x1 (wrap64 (bt x0 (wrap64 (Int.tdiv x1 8)))) 0) else (none)) else (none))
def c04_Bit.l0:Nat → Int → Int → Int → Option (Int)
 |0,_,_,_=>none
 |k+1,x1,x5,x6=>if x6 < (Int.tmod x1 8) then (c04_Bit.l0 k x1 (wrap64 (Int.tdiv x5 2)) (wrap64 (x6+1))) else (some (Int.tmod x5 2))
end
def c04_Bit.f (k:Nat) (a0:ByteArray) (a1:Int):Option (Int):=if a1 < 0 then (c04_Bit.j0 k a0 a1 true) else (c04_Bit.j0 k a0 a1 (decide ((wrap64 (Int.tdiv a1 8)) ≥ (a0.size:Int))))
mutual
def c04_Next.l0:Nat → List Int → ByteArray → Int → List Int → Int → Int → Option (Int × Int × Int)
 |0,_,_,_,_,_,_=>none
 |k+1,x0,x1,x2,x9,x10,x11=>if x11 < 16 then (c04_Next.l1 k x0 x1 x2 x9 x10 x11 false 0) else (some (0,0,4))
def c04_Next.l1:Nat → List Int → ByteArray → Int → List Int → Int → Int → Bool → Int → Option (Int × Int × Int)
 |0,_,_,_,_,_,_,_,_=>none
 |k+1,x0,x1,x2,x9,x10,x11,x12,x13=>if x13 < (x0.length:Int) then (if 0≤x13 then (if (rd x0 x13) < x11 then (c04_Next.j2 k x0 x1 x2 x9 x10 x11 x12 x13 true) else (c04_Next.j2 k x0 x1 x2 x9 x10 x11 x12 x13 ((rd x0 x13) == 0))) else (none)) else (if x12=true then ((c04_Bit.f k x1 (wrap64 (x2+x11))).bind fun t161=>(if t161 < 0 then (some (0,0,2)) else (c04_Next.l0 k x0 x1 x2 x9 (wrap64 ((wrap64 (2*x10))+t161)) (wrap64 (x11+1))))) else (some (0,0,4)))
def c04_Next.j2:Nat → List Int → ByteArray → Int → List Int → Int → Int → Bool → Int → Bool → Option (Int × Int × Int)
 |0,_,_,_,_,_,_,_,_,_=>none
 |k+1,x0,x1,x2,x9,x10,x11,x12,x13,x43=>if x43=true then (c04_Next.l1 k x0 x1 x2 x9 x10 x11 x12 (wrap64 (x13+1))) else (if 0≤x13 then (if x13 < (x9.length:Int) then (c04_Next.l2 k x0 x1 x2 x9 x10 x11 x12 x13 (rd x9 x13) x11) else (none)) else (none))
def c04_Next.l2:Nat → List Int → ByteArray → Int → List Int → Int → Int → Bool → Int → Int → Int → Option (Int × Int × Int)
 |0,_,_,_,_,_,_,_,_,_,_=>none
 |k+1,x0,x1,x2,x9,x10,x11,x12,x13,x14,x15=>if 0≤x13 then (if x13 < (x0.length:Int) then (if x15 < (rd x0 x13) then (c04_Next.l2 k x0 x1 x2 x9 x10 x11 x12 x13 (wrap64 (Int.tdiv x14 2)) (wrap64 (x15+1))) else (if x14=x10 then (if (rd x0 x13)=x11 then (some (x13,wrap64 (x2+x11),0)) else (c04_Next.l1 k x0 x1 x2 x9 x10 x11 true (wrap64 (x13+1)))) else (c04_Next.l1 k x0 x1 x2 x9 x10 x11 x12 (wrap64 (x13+1))))) else (none)) else (none)
end
def c04_Next.f (k:Nat) (l0:List Int) (a1:ByteArray) (a2:Int):Option (Int × Int × Int):=if a2 < 0 then (some (0,0,1)) else ((c04_Codes.f k l0).bind fun t153=>(c04_Next.l0 k l0 a1 a2 t153 0 0))
mutual
def huff_Bits.j0:Nat → ByteArray → Int → Int → Bool → Option (Int × Int × Int)
 |0,_,_,_,_=>none
 |k+1,x0,x1,x2,x13=>if x13=true then (some (0,0,1)) else (if x1 > (wrap64 ((wrap64 (8*(x0.size:Int))) - x2)) then (some (0,0,2)) else (huff_Bits.l0 k x0 x1 x2 0 x2 0))
def huff_Bits.l0:Nat → ByteArray → Int → Int → Int → Int → Int → Option (Int × Int × Int)
 |0,_,_,_,_,_,_=>none
 |k+1,x0,x1,x2,x9,x32,x33=>if x33 < x32 then ((huff_Bit.f x0 (wrap64 (x1+x33))).bind fun bt226=>(if 0≤x33 then (huff_Bits.l0 k x0 x1 x2 (Go.bits .or .i64 x9 (wrap64 (bt226.1*2 ^ (min (x33).toNat 64)))) x32 (wrap64 (x33+1))) else (none))) else (some (x9,wrap64 (x1+x2),0))
end
def huff_Bits.f (k:Nat) (a0:ByteArray) (a1:Int) (a2:Int):Option (Int × Int × Int):=if a1 < 0 then (huff_Bits.j0 k a0 a1 a2 true) else (if a2 < 0 then (huff_Bits.j0 k a0 a1 a2 true) else (huff_Bits.j0 k a0 a1 a2 (decide (a2 > 16))))
mutual
def c04_Bits.j0:Nat → ByteArray → Int → Int → Bool → Option (Int × Int × Int)
 |0,_,_,_,_=>none
 |k+1,x0,x1,x2,x22=>if x22=true then (some (0,0,1)) else (c04_Bits.l0 k x0 x1 x2 0 1 0)
def c04_Bits.l0:Nat → ByteArray → Int → Int → Int → Int → Int → Option (Int × Int × Int)
 |0,_,_,_,_,_,_=>none
 |k+1,x0,x1,x2,x9,x10,x11=>if x11 < x2 then ((c04_Bit.f k x0 (wrap64 (x1+x11))).bind fun t228=>(if t228 < 0 then (some (0,0,2)) else (c04_Bits.l0 k x0 x1 x2 (wrap64 (x9+(wrap64 (x10*t228)))) (wrap64 (x10*2)) (wrap64 (x11+1))))) else (if x2=0 then (if x1 > (wrap64 (8*(x0.size:Int))) then (some (0,0,2)) else (some (x9,wrap64 (x1+x2),0))) else (some (x9,wrap64 (x1+x2),0)))
end
def c04_Bits.f (k:Nat) (a0:ByteArray) (a1:Int) (a2:Int):Option (Int × Int × Int):=if a1 < 0 then (c04_Bits.j0 k a0 a1 a2 true) else (if a2 < 0 then (c04_Bits.j0 k a0 a1 a2 true) else (c04_Bits.j0 k a0 a1 a2 (decide (a2 > 16))))
end Go.Proofs.Ytpbhkdamkbopkaa.GHuff
namespace Go.Proofs.Ytpbhkdamkbopkaa.Ext
def cnt (l:List Int) (n:Nat):Int:=((l.filter fun x=>decide (x=(n:Int))).length:Int)
def cntsAll (l:List Int):List Int:=(List.range 16).map (cnt l)
def cnts (l:List Int):List Int:=(cntsAll l).set 0 0
def roomN (cs:List Int):Nat → Int
 |0=>32768
 |n+1=>roomN cs n - cs.getD n 0*2 ^ (15 - n)
def manyN (cs:List Int):Nat → Int
 |0=>0
 |n+1=>manyN cs n+cs.getD n 0
def idxN (l:List Int) (n:Nat) (k:Nat):List Int:=((List.range k).filter fun i=>decide (l.getD i 0=(n:Int))).map Int.ofNat
def symsN (l:List Int):Nat → List Int
 |0=>[]
 |n+1=>symsN l n ++ idxN l (n+1) l.length
def syms (l:List Int):List Int:=symsN l 15
def okL (l:List Int):Bool:=l.all fun n=>decide (0≤n) && decide (n≤15)
def badSum (l:List Int):Bool :=
 let r:=roomN (cnts l) 16
 let m:=manyN (cnts l) 16
 decide (r < 0) || (decide (0 < r) && decide (0 < m) && (decide (m ≠ 1) || decide (cnt l 1 ≠ 1)))
def errOf (l:List Int):Int:=if 320 < l.length then 1 else if okL l=false then 1 else if badSum l=true then 4 else 0
theorem cnt_nonneg (l:List Int) (n:Nat):0≤cnt l n:=Int.natCast_nonneg _
theorem cnt_le (l:List Int) (n:Nat):cnt l n≤l.length:=by
 unfold cnt;have:=List.length_filter_le (fun x=>decide (x=(n:Int))) l;omega
theorem cnt_snoc (l:List Int) (x:Int) (n:Nat):cnt (l ++ [x]) n=cnt l n+if x=(n:Int) then 1 else 0:=by
 unfold cnt;rw [List.filter_append,List.length_append];by_cases h:x=(n:Int) <;> simp [List.filter_cons,h]
theorem cntsAll_length (l:List Int):(cntsAll l).length=16:=by simp [cntsAll]
theorem cntsAll_get (l:List Int) (n:Nat) (h:n < 16):(cntsAll l)[n]?=some (cnt l n):=by simp [cntsAll,h]
theorem cnts_length (l:List Int):(cnts l).length=16:=by simp [cnts,cntsAll]
theorem cntsAll_snoc (l:List Int) (x:Nat) (hx:x < 16):cntsAll (l ++ [(x:Int)])=(cntsAll l).set x (cnt l x+1):=by
 apply List.ext_getElem?;intro i;by_cases hi:i < 16
 ·rw [cntsAll_get _ _ hi,List.getElem?_set,cnt_snoc];by_cases e:x=i
  ·subst e;simp [cntsAll_length,hi]
  ·have e':¬ ((x:Int)=(i:Int)):=by omega
   rw [if_neg e,cntsAll_get _ _ hi];simp [e']
 ·rw [List.getElem?_eq_none (by rw [cntsAll_length];omega),List.getElem?_eq_none (by rw [List.length_set,cntsAll_length];omega)]
theorem cnts_get (l:List Int) (n:Nat) (h:n < 16):(cnts l)[n]?=some (if n=0 then 0 else cnt l n):=by
 unfold cnts;rw [List.getElem?_set];by_cases e:0=n
 ·subst e;simp [cntsAll_length]
 ·rw [if_neg e,cntsAll_get _ _ h,if_neg (by omega)]
theorem cnts_rng (l:List Int) (n:Nat):0≤(cnts l).getD n 0∧(cnts l).getD n 0≤l.length:=by
 rw [List.getD_eq_getElem?_getD];by_cases h:n < 16
 ·rw [cnts_get l n h];have:=cnt_nonneg l n;have:=cnt_le l n;simp only [Option.getD_some]
  split <;> omega
 ·rw [List.getElem?_eq_none (by rw [cnts_length];omega)];simp
theorem take_snoc' (l:List Int) (k:Nat) (h:k < l.length):l.take (k+1)=l.take k ++ [l.getD k 0]:=by
 rw [List.take_succ_eq_append_getElem h];simp [List.getD_eq_getElem?_getD,h]
theorem idxN_succ (l:List Int) (n k:Nat):idxN l n (k+1)=idxN l n k ++ if l.getD k 0=(n:Int) then [(k:Int)] else []:=by
 unfold idxN;rw [List.range_succ,List.filter_append,List.map_append]
 congr 1
 by_cases h:l.getD k 0=(n:Int)
 ·rw [if_pos h,List.filter_cons_of_pos (by simpa using h)];rfl
 ·rw [if_neg h,List.filter_cons_of_neg (by simpa using h)];rfl
theorem idxN_length (l:List Int) (n k:Nat):(idxN l n k).length≤k:=by
 unfold idxN;rw [List.length_map];have:=List.length_filter_le (fun i=>decide (l.getD i 0=(n:Int))) (List.range k);rw [List.length_range] at this;exact this
theorem symsN_length (l:List Int) (n:Nat):(symsN l n).length≤n*l.length:=by
 induction n with
 |zero=>simp [symsN]
 |succ n ih =>
  have:=idxN_length l (n+1) l.length;simp only [symsN,List.length_append];rw [Nat.succ_mul];omega
theorem pow_rng (n:Nat):(1:Int)≤2 ^ (15 - n)∧(2:Int) ^ (15 - n)≤32768:=by
 have h1:2 ^ (15 - n)≤2 ^ 15:=Nat.pow_le_pow_right (by decide) (by omega);have h2:1≤2 ^ (15 - n):=Nat.one_le_two_pow;have e:((2 ^ (15 - n):Nat):Int)=(2:Int) ^ (15 - n):=by rw [Int.natCast_pow];rfl
 rw [← e];omega
theorem roomN_rng (cs:List Int) (m:Int) (h:∀ n,0≤cs.getD n 0∧cs.getD n 0≤m) (hm:m≤320) (n:Nat):roomN cs n≤32768∧32768 - (n:Int)*10485760≤roomN cs n:=by
 induction n with
 |zero=>show (32768:Int)≤32768∧32768 - ((0:Nat):Int)*10485760≤(32768:Int);omega
 |succ n ih =>
  have hc:=h n;have hp:=pow_rng n;have h1:0≤cs.getD n 0*2 ^ (15 - n):=Int.mul_nonneg hc.1 (by omega);have h2:cs.getD n 0*2 ^ (15 - n)≤320*32768:=Int.mul_le_mul (by omega) hp.2 (by omega) (by omega);simp only [roomN];omega
theorem manyN_rng (cs:List Int) (m:Int) (h:∀ n,0≤cs.getD n 0∧cs.getD n 0≤m) (hm:m≤320) (n:Nat):0≤manyN cs n∧manyN cs n≤n*320:=by
 induction n with
 |zero=>show 0≤(0:Int)∧(0:Int)≤((0:Nat):Int)*320;omega
 |succ n ih =>
  have hc:=h n;simp only [manyN];omega
end Go.Proofs.Ytpbhkdamkbopkaa.Ext
namespace Go.Proofs.Ytpbhkdamkbopkaa.Ext
def cz (l:List Int) (n:Nat):Int:=(cnts l).getD n 0
def firstC (l:List Int):Nat → Int
 |0=>0
 |n+1=>2*(firstC l n+cz l n)
def rank (l:List Int) (i:Nat):Nat:=(idxN l (l.getD i 0).toNat i).length
def codeAt (l:List Int) (i:Nat):Int:=firstC l (l.getD i 0).toNat+rank l i
def codesOf (l:List Int):List Int:=(List.range l.length).map fun i=>if l.getD i 0≤0 then 0 else codeAt l i
theorem cz_rng (l:List Int) (n:Nat):0≤cz l n∧cz l n≤l.length:=cnts_rng l n
theorem cz_is (l:List Int) (n:Nat) (h0:1≤n) (h:n < 16):cz l n=cnt l n:=by
 unfold cz;rw [List.getD_eq_getElem?_getD,cnts_get l n h,if_neg (by omega)];rfl
theorem firstC_rng (l:List Int) (h:l.length≤320) (n:Nat):0≤firstC l n∧firstC l n+640≤640*2 ^ n:=by
 induction n with
 |zero=>exact ⟨Int.le_refl _,by simp [firstC]⟩
 |succ n ih =>
  have:=cz_rng l n;have e:(2:Int) ^ (n+1)=2*2 ^ n:=by rw [Int.pow_succ,Int.mul_comm]
  simp only [firstC];rw [e];generalize (2:Int) ^ n=p at ih;omega
theorem firstC_le (l:List Int) (h:l.length≤320) (n:Nat) (hn:n≤16):0≤firstC l n∧firstC l n≤41943040:=by
 have h1:=firstC_rng l h n;have h2:2 ^ n≤2 ^ 16:=Nat.pow_le_pow_right (by decide) hn;have e:((2 ^ n:Nat):Int)=(2:Int) ^ n:=by rw [Int.natCast_pow];rfl
 rw [← e] at h1;omega
theorem idxN_cnt (l:List Int) (n:Nat):∀ k,k≤l.length → ((idxN l n k).length:Int)=cnt (l.take k) n:=by
 intro k
 induction k with
 |zero=>intro _;simp [idxN,cnt]
 |succ k ih =>
  intro hk;rw [idxN_succ,take_snoc' l k (by omega),cnt_snoc,List.length_append,Int.natCast_add,ih (by omega)];by_cases h:l.getD k 0=(n:Int)
  ·rw [if_pos h,if_pos h];rfl
  ·rw [if_neg h,if_neg h];rfl
theorem idxN_cz (l:List Int) (n:Nat) (h0:1≤n) (h:n < 16):((idxN l n l.length).length:Int)=cz l n:=by
 rw [idxN_cnt l n _ (Nat.le_refl _),List.take_length,cz_is l n h0 h]
theorem idxN_at (l:List Int) (n:Nat):∀ (k j:Nat) (x:Int),(idxN l n k)[j]?=some x → ∃ i:Nat,x=i∧i < k∧l.getD i 0=n∧(idxN l n i).length=j:=by
 intro k
 induction k with
 |zero=>intro j x h;simp [idxN] at h
 |succ k ih =>
  intro j x h;rw [idxN_succ] at h;by_cases hj:j < (idxN l n k).length
  ·rw [List.getElem?_append_left hj] at h;obtain ⟨i,h1,h2,h3⟩:=ih j x h;exact ⟨i,h1,by omega,h3⟩
  rw [List.getElem?_append_right (by omega)] at h;by_cases he:l.getD k 0=(n:Int);rotate_left
  ·rw [if_neg he] at h;simp at h
  rw [if_pos he] at h
  have h1:j - (idxN l n k).length < 1:=by
   have:=(List.getElem?_eq_some_iff.1 h).1
   simpa using this
  rw [show j - (idxN l n k).length=0 by omega] at h;simp at h;exact ⟨k,h.symm,by omega,he,by omega⟩
theorem idxN_of (l:List Int) (n:Nat):∀ (k i:Nat),i < k → l.getD i 0=n → (idxN l n k)[(idxN l n i).length]?=some (i:Int):=by
 intro k
 induction k with
 |zero=>intro i h;omega
 |succ k ih =>
  intro i hi he;rw [idxN_succ];by_cases h:i < k
  ·have:=ih i h he;rw [List.getElem?_append_left (List.getElem?_eq_some_iff.1 this).1];exact this
  ·obtain rfl:i=k:=by omega
   rw [List.getElem?_append_right (Nat.le_refl _),if_pos he,Nat.sub_self];rfl
theorem rank_n (l:List Int) (i n:Nat) (h:l.getD i 0=(n:Int)):rank l i=(idxN l n i).length:=by
 unfold rank;rw [h,Int.toNat_natCast]
theorem syms_at (l : List Int) (n j : Nat) (m : Nat) (hm : n + 1 ≤ m) (hj : j < (idxN l (n + 1) l.length).length) :
  (symsN l m)[(symsN l n).length+j]?=(idxN l (n+1) l.length)[j]?:=by
 induction m with
 |zero=>omega
 |succ m ih =>
  simp only [symsN];by_cases h:m=n
  ·subst h;rw [List.getElem?_append_right (by omega),Nat.add_sub_cancel_left]
  ·have h1:=ih (by omega);have h2:(idxN l (n+1) l.length)[j]?=some ((idxN l (n+1) l.length)[j]):=List.getElem?_eq_getElem hj;rw [h2] at h1;rw [List.getElem?_append_left (List.getElem?_eq_some_iff.1 h1).1,h1,h2]
theorem errOf_ok (l:List Int) (h:errOf l=0):l.length≤320∧okL l=true∧badSum l=false:=by
 unfold errOf at h
 split at h
 ·cases h
 split at h
 ·cases h
 split at h
 ·cases h
 ·rename_i h1 h2 h3;exact ⟨by omega,by simpa using h2,by simpa using h3⟩
end Go.Proofs.Ytpbhkdamkbopkaa.Ext
namespace Go.Proofs.Ytpbhkdamkbopkaa.Ext
open Go.RowKit GHuff YtpbhkdamkbopkaaW.PrintWords YtpbhkdamkbopkaaW.PrintLast YtpbhkdamkbopkaaW.PrintMore
def badLen (n:Int):Bool:=decide (n < 0) || decide (15 < n)
theorem first_bad (l:List Int) (n:Nat):(∀ i:Nat,i < n → badLen (rd l i)=false) ∨ ∃ m,m < n∧badLen (rd l m)=true∧∀ i:Nat,i < m → badLen (rd l i)=false:=by
 induction n with
 |zero=>exact .inl fun i hi=>absurd hi (Nat.not_lt_zero i)
 |succ n ih =>
  rcases ih with h | ⟨m,h0,h1,h2⟩
  ·cases hb:badLen (rd l n) with
   |false =>
    refine .inl fun i hi=>?_
    rcases Nat.lt_or_ge i n with h' | h'
    ·exact h i h'
    ·obtain rfl:i=n:=by omega
     exact hb
   |true=>exact .inr ⟨n,by omega,hb,h⟩
  ·exact .inr ⟨m,by omega,h1,h2⟩
def zero16:List Int:=List.replicate 16 0
theorem good_is (l:List Int) (k:Nat) (h:badLen (rd l k)=false):∃ n:Nat,rd l k=n∧n < 16:=by
 simp [badLen] at h;exact ⟨(rd l k).toNat,by omega,by omega⟩
theorem rd_nat (l:List Int) (k:Nat):rd l k=l.getD k 0:=by unfold rd;rw [Int.toNat_natCast]
set_option maxRecDepth 100000 in
set_option maxHeartbeats 4000000 in
def newCs (l:List Int):List Int:=if errOf l=0 then cnts l else zero16
def newSs (l:List Int):List Int:=if errOf l=0 then syms l else []
theorem bad_is (n:Int):badLen n=false ↔ (decide (0≤n) && decide (n≤15))=true:=by
 simp [badLen]
theorem ok_is (l:List Int):(∀ i:Nat,i < l.length → badLen (rd l i)=false) ↔ okL l=true:=by
 unfold okL;rw [List.all_eq_true];constructor
 ·intro h x hx;obtain ⟨i,hi,rfl⟩:=List.getElem_of_mem hx;have:=h i hi;rw [rd_nat,List.getD_eq_getElem?_getD,List.getElem?_eq_getElem hi,Option.getD_some,bad_is] at this;exact this
 ·intro h i hi;rw [rd_nat,List.getD_eq_getElem?_getD,List.getElem?_eq_getElem hi,Option.getD_some,bad_is];exact h _ (List.getElem_mem hi)
def nxt (cs ss:List Int) (s:ByteArray):Nat → Int → Int → Int → Int → Option (Int × Int × Int)
 |0,_,_,_,_=>some (0,0,4)
 |d+1,pos,code,first,index =>
  (huff_Bit.f s pos).bind fun p =>
   if p.2=false then some (0,0,2)
   else if 2*code+p.1 < 2*first+cs.getD (15 - d) 0 then
    (if 0≤index+(2*code+p.1) - 2*first∧index+(2*code+p.1) - 2*first < ss.length then some (ss.getD (index+(2*code+p.1) - 2*first).toNat 0,wrap64 (pos+1),0) else none)
   else if index+cs.getD (15 - d) 0=ss.length then some (0,0,4)
   else nxt cs ss s d (wrap64 (pos+1)) (2*code+p.1) (2*first+cs.getD (15 - d) 0) (index+cs.getD (15 - d) 0)
theorem or_01 {x b:Int} (h0:0≤x) (h1:x < 1048576) (hb0:0≤b) (hb1:b≤1):bits .or .i64 (x*2) b=x*2+b :=
 bits_join .i64 40 (by decide) (fun n h₀ h₁=>by rw [IntKind.wrap_i64];omega) 1 _ _ (by omega) (by omega) (by omega) hb0 (by omega) (by omega)
theorem and_1 {x:Int} (h0:0≤x) (h1:x < 1048576):bits .and .i64 x 1=x % 2 :=
 bits_mask .i64 40 (by decide) (fun n h₀ h₁=>by rw [IntKind.wrap_i64];omega) 1 (by decide) x h0 (by omega)
theorem bit_rng {s:ByteArray} {pos:Int} {p:Int × Bool} (h:huff_Bit.f s pos=some p):0≤p.1∧p.1≤1:=by
 unfold huff_Bit.f at h
 split at h
 ·cases h;simp
 split at h
 ·cases h;simp
 split at h
 ·split at h
  ·split at h
   ·injection h with h
    subst h;have hb:=bt_range s (wrap64 (Int.tdiv pos 8))
    have h8:0≤shr .u8 (bt s (wrap64 (Int.tdiv pos 8))) (Int.tmod pos 8)∧shr .u8 (bt s (wrap64 (Int.tdiv pos 8))) (Int.tmod pos 8)≤255:=by
     unfold shr;exact ⟨Int.ediv_nonneg hb.1 (Int.le_of_lt (Int.pow_pos (by decide))),Int.le_trans (Int.ediv_le_self _ hb.1) hb.2⟩
    generalize shr .u8 (bt s (wrap64 (Int.tdiv pos 8))) (Int.tmod pos 8)=z at h8;(have e:wrap64 z=z:=by unfold wrap64;omega);show 0≤bits .and .i64 (wrap64 z) 1∧bits .and .i64 (wrap64 z) 1≤1;rw [e,and_1 h8.1 (by omega)];omega
   ·cases h
  ·cases h
 ·cases h
theorem pstep {P:Int} {d:Nat} (h:P*2 ^ (d+1)=32768) (h1:1≤P):2*P*2 ^ d=32768∧P≤16384:=by
 have e:2*P*2 ^ d=32768:=by rw [← h,Int.pow_succ,Int.mul_comm 2 P,Int.mul_assoc,Int.mul_comm 2]
 have h2:(1:Int)≤2 ^ d:=Int.pow_pos (by decide);have h3:2*P*1≤2*P*2 ^ d:=Int.mul_le_mul_of_nonneg_left h2 (by omega);exact ⟨e,by omega⟩
def nextOf (cs ss:List Int) (s:ByteArray) (pos:Int):Option (Int × Int × Int) :=
 if pos < 0 then some (0,0,1) else if ss.length=0 then some (0,0,4)
 else if cs.length=16∧ss.length≤6000∧∀ x ∈ cs,0≤x∧x≤320 then nxt cs ss s 15 pos 0 0 0 else none
end Go.Proofs.Ytpbhkdamkbopkaa.Ext
namespace Go.Proofs.Ytpbhkdamkbopkaa.Ext
open Go.RowKit GHuff YtpbhkdamkbopkaaW.PrintWords YtpbhkdamkbopkaaW.PrintLast YtpbhkdamkbopkaaW.PrintMore
theorem wrap_in {n:Int} (h0:-9223372036854775808≤n) (h1:n≤9223372036854775807):wrap64 n=n:=by unfold wrap64;omega
def bitN (s:ByteArray) (p:Int):Int:=bt s (p / 8) / 2 ^ (p % 8).toNat % 2
theorem bitN_rng (s:ByteArray) (p:Int):0≤bitN s p∧bitN s p≤1:=by unfold bitN;omega
theorem bit_is (s : ByteArray) (hs : s.size ≤ 140737488351232) (p : Int) (h0 : 0 ≤ p) (hp : p ≤ 9223372036854775807) :
  huff_Bit.f s p=if p < 8*s.size then some (bitN s p,true) else some (0,false):=by
 unfold huff_Bit.f;rw [if_neg (by omega),wrap_in (n:=8*(s.size:Int)) (by omega) (by omega)];by_cases h:p < 8*s.size;rotate_left
 ·rw [if_pos (by omega),if_neg h]
 rw [if_neg (by omega),if_pos h,Int.tdiv_eq_ediv_of_nonneg h0,Int.tmod_eq_emod_of_nonneg h0,wrap_in (n:=p / 8) (by omega) (by omega),
  if_pos (by omega),if_pos (by omega),if_pos (by omega)]
 have e:shr .u8 (bt s (p / 8)) (p % 8)=bt s (p / 8) / 2 ^ (p % 8).toNat:=by
  unfold shr;rw [Nat.min_eq_left (by show (p % 8).toNat≤8;omega)]
 rw [e];have hb:=bt_range s (p / 8);have h1:0≤bt s (p / 8) / 2 ^ (p % 8).toNat:=Int.ediv_nonneg hb.1 (Int.le_of_lt (Int.pow_pos (by decide)));have h2:bt s (p / 8) / 2 ^ (p % 8).toNat≤255:=Int.le_trans (Int.ediv_le_self _ hb.1) hb.2;unfold bitN;generalize bt s (p / 8) / 2 ^ (p % 8).toNat=z at h1 h2;rw [wrap_in (n:=z) (by omega) (by omega),and_1 h1 (by omega)]
def Vn (s:ByteArray) (pos:Int):Nat → Int
 |0=>0
 |n+1=>2*Vn s pos n+bitN s (pos+n)
theorem Vn_rng (s:ByteArray) (pos:Int) (n:Nat):0≤Vn s pos n∧Vn s pos n < 2 ^ n:=by
 induction n with
 |zero=>simp [Vn]
 |succ n ih =>
  have:=bitN_rng s (pos+n);simp only [Vn];rw [Int.pow_succ];omega
def Gn (l:List Int) (n:Nat):Int:=firstC l n+cz l n
def Sn (l:List Int) (n:Nat):Int:=((symsN l n).length:Int)
theorem firstC_succ (l:List Int) (n:Nat):firstC l (n+1)=2*Gn l n:=rfl
theorem Gn_zero (l:List Int):Gn l 0=0:=by
 unfold Gn cz;rw [List.getD_eq_getElem?_getD,cnts_get l 0 (by decide)];rfl
theorem Sn_succ (l:List Int) (n:Nat) (h:n+1 < 16):Sn l (n+1)=Sn l n+cz l (n+1):=by
 unfold Sn;rw [← idxN_cz l (n+1) (by omega) h];simp only [symsN,List.length_append];omega
theorem nxt_step (l : List Int) (hl : l.length ≤ 320) (s : ByteArray) (hs : s.size ≤ 140737488351232) (pos : Int) (h0 : 0 ≤ pos) (hp : pos ≤ 4611686018427387904) (n d : Nat) (hn : n + d = 14) (hV : Gn l n ≤ Vn s pos n) :
    nxt (cnts l) (syms l) s (d+1) (pos+n) (Vn s pos n) (Gn l n) (Sn l n) =
      if pos+n < 8*s.size then
        (if Vn s pos (n+1) < Gn l (n+1) then some ((idxN l (n+1) l.length).getD (Vn s pos (n+1) - firstC l (n+1)).toNat 0,pos+(n+1:Nat),0)
         else if Sn l (n+1)=(syms l).length then some (0,0,4)
         else nxt (cnts l) (syms l) s d (pos+(n+1:Nat)) (Vn s pos (n+1)) (Gn l (n+1)) (Sn l (n+1)))
      else some (0,0,2):=by
  have hc:(cnts l).getD (15 - d) 0=cz l (n+1):=by rw [show 15 - d=n+1 by omega];rfl
  have hS:=Sn_succ l n (by omega);have hF:firstC l (n+1)=2*Gn l n:=rfl;have hG:Gn l (n+1)=2*Gn l n+cz l (n+1):=rfl;have hV1:Vn s pos (n+1)=2*Vn s pos n+bitN s (pos+n):=rfl;have hbr:=bitN_rng s (pos+n);have hq0:0≤pos+n:=by omega
  have hq1:pos+n≤9223372036854775807:=by omega
  simp only [nxt];rw [bit_is s hs (pos+n) hq0 hq1];by_cases hb:pos+n < 8*s.size;rotate_left
  · rw [if_neg hb,if_neg hb];rfl
  rw [if_pos hb,if_pos hb];simp only [Option.bind_some];have hw:wrap64 (pos+n+1)=pos+(n+1:Nat):=by rw [wrap_in (by omega) (by omega)];omega
  rw [if_neg (by simp),hc,hw,← hV1,← hG];clear hw;by_cases hlt:Vn s pos (n+1) < Gn l (n+1);rotate_left
  · rw [if_neg hlt,if_neg hlt,hS]
  rw [if_pos hlt,if_pos hlt,← hF]
  have hj:∃ j:Nat,Vn s pos (n+1) - firstC l (n+1)=j∧(j:Int) < cz l (n+1):=by
    rw [hV1,hF];rw [hV1,hG] at hlt;generalize Vn s pos n=v at hV hlt;generalize Gn l n=g at hV hlt;generalize bitN s (pos+n)=b at hbr hlt;exact ⟨(2*v+b - 2*g).toNat,by omega,by omega⟩
  obtain ⟨j,ej,hjc⟩:=hj;have hji:j < (idxN l (n+1) l.length).length:=by have:=idxN_cz l (n+1) (by omega) (by omega);omega
  have hsy:=syms_at l n j 15 (by omega) hji
  have hlen:(symsN l n).length+j < (syms l).length:=by
    rw [List.getElem?_eq_getElem hji] at hsy;exact (List.getElem?_eq_some_iff.1 hsy).1
  have e1:Sn l n+Vn s pos (n+1) - firstC l (n+1)=((symsN l n).length+j:Nat):=by
    unfold Sn;generalize Vn s pos (n+1)=v at ej;generalize firstC l (n+1)=f at ej;omega
  have e2:(syms l).getD ((symsN l n).length+j) 0=(idxN l (n+1) l.length).getD j 0:=by
    rw [List.getD_eq_getElem?_getD,List.getD_eq_getElem?_getD];unfold syms;rw [hsy]
  rw [e1,if_pos ⟨Int.natCast_nonneg _,Int.ofNat_lt.2 hlen⟩,ej,Int.toNat_natCast,Int.toNat_natCast,e2]
theorem pow_split (n:Nat) (h:n+1≤15):(2:Int) ^ (15 - n)=2*2 ^ (15 - (n+1)):=by
 rw [show 15 - n=(15 - (n+1))+1 by omega,Int.pow_succ,Int.mul_comm]
theorem Gn_succ (l:List Int) (n:Nat):Gn l (n+1)=2*Gn l n+cz l (n+1):=rfl
theorem Gn_room (l:List Int):∀ n,n≤15 → Gn l n*2 ^ (15 - n)=32768 - roomN (cnts l) (n+1):=by
 intro n
 induction n with
 |zero =>
  intro _;rw [Gn_zero];have h0:cz l 0=0:=by have:=Gn_zero l;unfold Gn firstC at this;omega
  show 0*2 ^ 15=32768 - (32768 - cz l 0*2 ^ (15 - 0));rw [h0];simp
 |succ n ih =>
  intro hn;have h1:=ih (by omega);rw [pow_split n hn] at h1;have h2:roomN (cnts l) (n+1+1)=roomN (cnts l) (n+1) - cz l (n+1)*2 ^ (15 - (n+1)):=rfl;rw [h2,Gn_succ,Int.add_mul]
  have h3:2*Gn l n*2 ^ (15 - (n+1))=Gn l n*(2*2 ^ (15 - (n+1))):=by
   rw [Int.mul_comm 2,Int.mul_assoc]
  rw [h3];omega
theorem many_Sn (l:List Int):∀ n,n≤15 → manyN (cnts l) (n+1)=Sn l n:=by
 intro n
 induction n with
 |zero =>
  intro _;have h0:cz l 0=0:=by have:=Gn_zero l;unfold Gn firstC at this;omega
  show 0+cz l 0=((symsN l 0).length:Int);rw [h0];rfl
 |succ n ih =>
  intro hn;rw [Sn_succ l n (by omega),← ih (by omega)];rfl
theorem syms_Sn (l:List Int):((syms l).length:Int)=Sn l 15:=rfl
theorem good_sum (l:List Int) (h:badSum l=false):Gn l 15=32768 ∨ Sn l 15=0∧Gn l 15≤32768 ∨ Sn l 15=1∧cz l 1=1∧Gn l 15≤32768:=by
 have h1:=Gn_room l 15 (Nat.le_refl _);have h2:=many_Sn l 15 (Nat.le_refl _);have h3:cz l 1=cnt l 1:=cz_is l 1 (by decide) (by decide);unfold badSum at h;rw [show (15:Nat)+1=16 from rfl] at h1 h2;rw [h2] at h;rw [h3];simp only [Nat.sub_self,Int.pow_zero,Int.mul_one] at h1;have hs:0≤Sn l 15:=Int.natCast_nonneg _;simp only [Bool.or_eq_false_iff,Bool.and_eq_false_iff,decide_eq_false_iff_not] at h;obtain ⟨ha,hb⟩:=h
 rcases hb with (hb | hb) | ⟨hb,hc⟩
 ·left;omega
 ·right;left;omega
 ·right;right
  have e1:Sn l 15=1:=by omega
  have e2:cnt l 1=1:=by omega
  exact ⟨e1,e2,by omega⟩
theorem Sn_mono (l:List Int) (n m:Nat) (h:n≤m) (hm:m≤15):Sn l n≤Sn l m:=by
 induction m with
 |zero=>obtain rfl:n=0:=(by omega);exact Int.le_refl _
 |succ m ih =>
  by_cases e:n=m+1
  ·subst e;exact Int.le_refl _
  ·have h1:=ih (by omega) (by omega);have:=cz_rng l (m+1);rw [Sn_succ l m (by omega)];omega
theorem Gn_stop (l:List Int) (n m:Nat) (h:n≤m) (hm:m≤15) (hs:Sn l n=Sn l m):Gn l m=Gn l n*2 ^ (m - n):=by
 induction m with
 |zero=>obtain rfl:n=0:=(by omega);simp
 |succ m ih =>
  by_cases e:n=m+1
  ·subst e;simp
  ·have h1:=Sn_mono l n m (by omega) (by omega);have h2:=Sn_succ l m (by omega);have h3:=cz_rng l (m+1);have h4:=ih (by omega) (by omega) (by omega);rw [Gn_succ,show m+1 - n=(m - n)+1 by omega,Int.pow_succ,← Int.mul_assoc,h4];omega
theorem symbol_is (l : List Int) (n : Nat) (h0 : 1 ≤ n) (h : n < 16) (v : Int) (h1 : firstC l n ≤ v) (h2 : v < Gn l n) :
  ∃ i:Nat,(idxN l n l.length).getD (v - firstC l n).toNat 0=i∧i < l.length∧l.getD i 0=n∧codeAt l i=v:=by
 obtain ⟨j,ej⟩:∃ j:Nat,v - firstC l n=j:=⟨(v - firstC l n).toNat,by omega⟩;have hc:=idxN_cz l n h0 h;have hj:j < (idxN l n l.length).length:=by unfold Gn at h2;omega
 obtain ⟨i,e,hi,he,hr⟩:=idxN_at l n _ j _ (List.getElem?_eq_getElem hj);refine ⟨i,?_,hi,he,?_⟩
 ·rw [ej,Int.toNat_natCast,List.getD_eq_getElem?_getD,List.getElem?_eq_getElem hj];exact e
 ·unfold codeAt;rw [rank_n l i n he,hr,he,Int.toNat_natCast];omega
theorem symbol_at (l : List Int) (i n : Nat) (h0 : 1 ≤ n) (h : n < 16) (hi : i < l.length) (he : l.getD i 0 = n) :
  firstC l n≤codeAt l i∧codeAt l i < Gn l n∧(idxN l n l.length).getD (codeAt l i - firstC l n).toNat 0=i:=by
 have h1:=idxN_of l n l.length i hi he;have h2:=(List.getElem?_eq_some_iff.1 h1).1;have h3:=idxN_cz l n h0 h;unfold codeAt Gn;rw [rank_n l i n he,he,Int.toNat_natCast];refine ⟨by omega,by omega,?_⟩;rw [show firstC l n+((idxN l n i).length:Int) - firstC l n=((idxN l n i).length:Int) by omega,Int.toNat_natCast,List.getD_eq_getElem?_getD,h1];rfl
theorem code_inj (l:List Int) (i j n:Nat) (h0:1≤n) (h:n < 16) (hi:i < l.length) (hj:j < l.length) (he:l.getD i 0=n) (hf:l.getD j 0=n) (hc:codeAt l i=codeAt l j):i=j:=by
 have h1:=(symbol_at l i n h0 h hi he).2.2;have h2:=(symbol_at l j n h0 h hj hf).2.2;rw [hc,h2] at h1;omega
end Go.Proofs.Ytpbhkdamkbopkaa.Ext
namespace Go.Proofs.Ytpbhkdamkbopkaa.Stage
open Go.RowKit Ext YtpbhkdamkbopkaaW.PrintWords YtpbhkdamkbopkaaW.PrintLast YtpbhkdamkbopkaaW.PrintMore
def stageOf (l:List Int) (s:ByteArray) (pos:Int) (n:Nat):Option (Int × Int × Int) :=
 if Vn s pos n < Gn l n then some ((idxN l n l.length).getD (Vn s pos n - firstC l n).toNat 0,pos+n,0)
 else if Sn l n=(syms l).length then some (0,0,4)
 else nxt (cnts l) (syms l) s (15 - n) (pos+n) (Vn s pos n) (Gn l n) (Sn l n)
theorem stage_step (l : List Int) (hl : l.length ≤ 320) (s : ByteArray) (hs : s.size ≤ 140737488351232) (pos : Int) (h0 : 0 ≤ pos) (hp : pos ≤ 4611686018427387904) (n : Nat) (hn : n ≤ 14) (hV : Gn l n ≤ Vn s pos n) (hS : Sn l n ≠ (syms l).length) :
  stageOf l s pos n=if pos+n < 8*s.size then stageOf l s pos (n+1) else some (0,0,2):=by
 unfold stageOf;rw [if_neg (Int.not_lt.2 hV),if_neg hS,show 15 - n=(15 - (n+1))+1 by omega,nxt_step l hl s hs pos h0 hp n (15 - (n+1)) (by omega) hV]
theorem nextOf_good (l:List Int) (he:errOf l=0) (s:ByteArray) (pos:Int) (h0:0≤pos):nextOf (newCs l) (newSs l) s pos=if (syms l).length=0 then some (0,0,4) else nxt (cnts l) (syms l) s 15 pos 0 0 0:=by
 obtain ⟨hl,_,_⟩:=errOf_ok l he;unfold nextOf newCs newSs;rw [if_pos he,if_pos he,if_neg (by omega)];by_cases ht:(syms l).length=0
 ·rw [if_pos ht,if_pos ht]
 rw [if_neg ht,if_neg ht,if_pos];refine ⟨cnts_length l,?_,fun x hx=>?_⟩
 ·have:=symsN_length l 15;have h2:15*l.length≤15*320:=Nat.mul_le_mul_left _ hl;unfold syms;omega
 ·obtain ⟨i,hi,rfl⟩:=List.getElem_of_mem hx;have:=cnts_rng l i;rw [List.getD_eq_getElem?_getD,List.getElem?_eq_getElem hi,Option.getD_some] at this;omega
theorem ok_at (l:List Int) (h:okL l=true) (i:Nat) (hi:i < l.length):∃ n:Nat,l.getD i 0=n∧n≤15:=by
 obtain ⟨n,e,hn⟩:=good_is l i ((ok_is l).2 h i hi);exact ⟨n,by rw [← rd_nat];exact e,by omega⟩
theorem codesOf_length (l:List Int):(codesOf l).length=l.length:=by simp [codesOf]
theorem codesOf_get (l:List Int) (i:Nat) (hi:i < l.length):(codesOf l)[i]?=some (if l.getD i 0≤0 then 0 else codeAt l i):=by simp [codesOf,hi]
end Go.Proofs.Ytpbhkdamkbopkaa.Stage
namespace Go.Proofs.Ytpbhkdamkbopkaa.RefP
open Go.RowKit Ext GHuff YtpbhkdamkbopkaaW.PrintWords YtpbhkdamkbopkaaW.PrintLast YtpbhkdamkbopkaaW.PrintMore
theorem bit_is' (s : ByteArray) (hs : s.size ≤ 140737488351232) (p : Int) (h0 : 0 ≤ p) (hp : p ≤ 9223372036854775807) :
  huff_Bit.f s p=if p < 8*s.size then some (bitN s p,true) else some (0,false):=bit_is s hs p h0 hp
def Bn (s:ByteArray) (pos:Int):Nat → Int
 |0=>0
 |i+1=>Bn s pos i+2 ^ i*bitN s (pos+i)
theorem Bn_rng (s:ByteArray) (pos:Int) (n:Nat):0≤Bn s pos n∧Bn s pos n < 2 ^ n:=by
 induction n with
 |zero=>simp [Bn]
 |succ n ih =>
  have hb:=bitN_rng s (pos+n);have hp:(0:Int) < 2 ^ n:=Int.pow_pos (by decide);simp only [Bn];rw [Int.pow_succ]
  rcases (by omega:bitN s (pos+n)=0 ∨ bitN s (pos+n)=1) with h | h <;> rw [h] <;> omega
theorem pow_16 (n:Nat) (h:n≤16):(1:Int)≤2 ^ n∧(2:Int) ^ n≤65536:=by
 have h1:2 ^ n≤2 ^ 16:=Nat.pow_le_pow_right (by decide) h;have h2:1≤2 ^ n:=Nat.one_le_two_pow;have e:((2 ^ n:Nat):Int)=(2:Int) ^ n:=by rw [Int.natCast_pow];rfl
 rw [← e];omega
def bitsOf (s:ByteArray) (pos n:Int):Int × Int × Int :=
 if pos < 0 ∨ n < 0 ∨ 16 < n then (0,0,1) else if pos+n≤8*s.size then (Bn s pos n.toNat,pos+n,0) else (0,0,2)
theorem or_comm64 (x y:Int):Go.bits .or .i64 x y=Go.bits .or .i64 y x:=by unfold Go.bits;simp only;rw [BitVec.or_comm]
theorem or_shl (v b:Int) (i:Nat) (hi:i < 16) (hv0:0≤v) (hv:v < 2 ^ i) (hb0:0≤b) (hb:b≤1):Go.bits .or .i64 v (wrap64 (b*2 ^ (min (i:Int).toNat 64)))=v+2 ^ i*b:=by
 have hpw:=pow_16 i (by omega);have hm0:0≤b*2 ^ i:=Int.mul_nonneg hb0 (by omega);have hm1:b*2 ^ i≤1*65536:=Int.mul_le_mul hb hpw.2 (by omega) (by omega)
 have e:wrap64 (b*2 ^ (min (i:Int).toNat 64))=b*2 ^ i:=by
  rw [Int.toNat_natCast,Nat.min_eq_left (by omega)];unfold wrap64;omega
 rw [e,or_comm64];have hw:∀ n:Int,0≤n → n < 2 ^ 40 → IntKind.i64.wrap n=n:=fun n h₀ h₁=>by rw [IntKind.wrap_i64];omega
 rw [Go.bits_join .i64 40 (by decide) hw i (b*2 ^ i) v hm0 (Int.mul_emod_left _ _) (by omega) hv0 hv (by omega),Int.mul_comm b];omega
theorem bits_l (s : ByteArray) (hs : s.size ≤ 140737488351232) (pos : Int) (h0 : 0 ≤ pos) (n : Nat) (hn : n ≤ 16) (hb : pos + n ≤ 8 * s.size) (d : Nat) : ∀ (i : Nat), i + d = n →
  Ev (fun k=>huff_Bits.l0 k s pos n (Bn s pos i) n i) (Bn s pos n,pos+n,0):=by
 induction d with
 |zero =>
  intro i hi;obtain rfl:i=n:=by omega
  refine Ev.step (f:=fun _=>some (Bn s pos i,pos+i,0)) (fun k=>?_) (Ev.now _);simp only [huff_Bits.l0];rw [if_neg (by omega),wrap_in (n:=pos+i) (by omega) (by omega)]
 |succ d ih =>
  intro i hi;obtain ⟨K,h⟩:=ih (i+1) (by omega)
  dsimp only at h
  have hbr:=bitN_rng s (pos+i);have hBr:=Bn_rng s pos i;have hwp:wrap64 (pos+i)=pos+i:=wrap_in (by omega) (by omega);have e3:wrap64 ((i:Int)+1)=((i+1:Nat):Int):=by rw [wrap_in (by omega) (by omega)];rfl
  have e1:Bn s pos (i+1)=Bn s pos i+2 ^ i*bitN s (pos+i):=rfl;have hin:(i:Int) < n:=by omega
  have hbt:=bit_is' s hs (pos+i) (by omega) (by omega);rw [if_pos (by omega)] at hbt;refine ⟨K+1,fun k hk=>?_⟩;obtain ⟨k,rfl⟩:∃ m,k=m+1:=⟨k - 1,by omega⟩;simp only [huff_Bits.l0];rw [if_pos hin,hwp,hbt];simp only [Option.bind_some];rw [if_pos (Int.natCast_nonneg _),or_shl _ _ i (by omega) hBr.1 hBr.2 hbr.1 hbr.2,e3,← e1];exact h k (by omega)
theorem bits_is (s:ByteArray) (hs:s.size≤140737488351232) (pos n:Int) (hp:pos≤9223372036854775807):Ev (fun k=>huff_Bits.f k s pos n) (bitsOf s pos n):=by
 have herr:Ev (fun k=>huff_Bits.j0 k s pos n true) (0,0,1):=Ev.step (fun k=>by simp only [huff_Bits.j0];rw [if_pos trivial]) (Ev.now _);unfold bitsOf;by_cases h0:pos < 0
 ·rw [if_pos (.inl h0)];exact Ev.congr (fun k=>by unfold huff_Bits.f;rw [if_pos h0]) herr
 by_cases h1:n < 0
 ·rw [if_pos (.inr (.inl h1))];exact Ev.congr (fun k=>by unfold huff_Bits.f;rw [if_neg h0,if_pos h1]) herr
 by_cases h2:n > 16
 ·rw [if_pos (.inr (.inr h2))];exact Ev.congr (fun k=>by unfold huff_Bits.f;rw [if_neg h0,if_neg h1,decide_eq_true h2]) herr
 rw [if_neg (by omega)];have e8:wrap64 (8*(s.size:Int))=8*s.size:=wrap_in (by omega) (by omega);have e9:wrap64 (8*(s.size:Int) - n)=8*s.size - n:=wrap_in (by omega) (by omega);obtain ⟨m,rfl⟩:∃ m:Nat,n=m:=⟨n.toNat,by omega⟩;rw [Int.toNat_natCast];by_cases hb:pos+m≤8*s.size;rotate_left
 ·rw [if_neg hb];refine ⟨1,fun k hk=>?_⟩;obtain ⟨k,rfl⟩:∃ q,k=q+1:=⟨k - 1,by omega⟩
  dsimp only
  unfold huff_Bits.f;rw [if_neg h0,if_neg h1,decide_eq_false h2];simp only [huff_Bits.j0];rw [if_neg (by simp),e8,e9,if_pos (by omega)]
 rw [if_pos hb];obtain ⟨K,h⟩:=bits_l s hs pos (by omega) m (by omega) hb m 0 (by omega)
 dsimp only at h
 refine ⟨K+1,fun k hk=>?_⟩;obtain ⟨k,rfl⟩:∃ q,k=q+1:=⟨k - 1,by omega⟩
 dsimp only
 unfold huff_Bits.f;rw [if_neg h0,if_neg h1,decide_eq_false h2];simp only [huff_Bits.j0];rw [if_neg (by simp),e8,e9,if_neg (by omega)];exact h k (by omega)
end Go.Proofs.Ytpbhkdamkbopkaa.RefP
namespace Go.Proofs.Ytpbhkdamkbopkaa.Inf
open Go.RowKit Ext RefP YtpbhkdamkbopkaaW.PrintWords YtpbhkdamkbopkaaW.PrintLast YtpbhkdamkbopkaaW.PrintMore
structure St where
 p:Int
 o:List Int
 e:Int
def fail (x:St) (e:Int):St:=if x.e=0 then ⟨x.p,x.o,e⟩ else x
def tak (x:St) (r:Int × Int × Int):Int × St:=if x.e=0 then (if r.2.2=0 then (r.1,⟨r.2.1,x.o,x.e⟩) else (0,⟨x.p,x.o,r.2.2⟩)) else (0,x)
def nextL (l:List Int) (s:ByteArray) (p:Int):Int × Int × Int:=(nextOf (newCs l) (newSs l) s p).getD (0,0,0)
def bits (s:ByteArray) (n:Int) (x:St):Int × St:=tak x (bitsOf s x.p n)
def next (l:List Int) (s:ByteArray) (x:St):Int × St:=tak x (nextL l s x.p)
def table (l:List Int) (x:St):St:=fail x (errOf l)
def cut (s:ByteArray) (at_ n:Nat):List Int:=(List.range n).map fun i=>bt s ((at_+i:Nat):Int)
def stored (s:ByteArray) (mx:Int) (x:St):St :=
 let a:=bits s 16 ⟨(x.p+7) / 8*8,x.o,x.e⟩
 let b:=bits s 16 a.2
 if b.2.e=0 then
  (if Go.bits .xor .i64 a.1 b.1=65535 then
   (if (b.2.o.length:Int)+a.1≤mx then
    (if a.1≤s.size - b.2.p / 8 then ⟨b.2.p+8*a.1,b.2.o ++ cut s (b.2.p / 8).toNat a.1.toNat,b.2.e⟩ else fail b.2 2)
   else fail b.2 7)
  else fail b.2 3)
 else b.2
def lengthen (s:ByteArray) (l:List Int) (y:Int) (x:St):List Int × St :=
 if x.e=0 then
  (if y=16 then (if l.length=0 then (l,fail x 3) else (l ++ List.replicate (3+(bits s 2 x).1).toNat (l.getD (l.length - 1) 0),(bits s 2 x).2))
  else if y=17 then (l ++ List.replicate (3+(bits s 3 x).1).toNat 0,(bits s 3 x).2)
  else if y=18 then (l ++ List.replicate (11+(bits s 7 x).1).toNat 0,(bits s 7 x).2)
  else (l ++ [y],x))
 else (l,x)
def owns (s:ByteArray):List Nat → List Int → St → List Int × St
 |[],own,x=>(own,x)
 |i :: t,own,x=>owns s t (own.set i (bits s 3 x).1) (bits s 3 x).2
def order:List Nat:=[16,17,18,0,8,7,9,6,10,5,11,4,12,3,13,2,14,1,15]
def many (s:ByteArray) (own:List Int) (all:Int):Nat → List Int → St → List Int × St
 |0,l,x=>(l,x)
 |k+1,l,x=>if (l.length:Int) < all then (if x.e=0 then many s own all k (lengthen s l (next own s x).1 (next own s x).2).1 (lengthen s l (next own s x).1 (next own s x).2).2 else (l,x)) else (l,x)
def left (s:ByteArray) (x:St):Nat:=(8*(s.size:Int)+1 - x.p).toNat+1
def lengths (s:ByteArray) (x:St):List Int × List Int × St :=
 let a:=bits s 5 x
 let b:=bits s 5 a.2
 let c:=bits s 4 b.2
 let x1:=if c.2.e=0∧(a.1+257 > 286 ∨ b.1+1 > 30) then fail c.2 3 else c.2
 let w:=owns s (order.take (c.1+4).toNat) (List.replicate 19 0) x1
 let x2:=table w.1 w.2
 let z:=many s w.1 (a.1+257+(b.1+1)) (left s x2) [] x2
 if z.2.e=0 then
  (if (z.1.length:Int) > a.1+257+(b.1+1) ∨ z.1.getD 256 0=0 then ([],[],fail z.2 3) else (z.1.take (a.1+257).toNat,z.1.drop (a.1+257).toNat,z.2))
 else ([],[],z.2)
def lenB:List Int:=[3,4,5,6,7,8,9,10,11,13,15,17,19,23,27,31,35,43,51,59,67,83,99,115,131,163,195,227,258]
def lenM:List Int:=[0,0,0,0,0,0,0,0,1,1,1,1,2,2,2,2,3,3,3,3,4,4,4,4,5,5,5,5,0]
def disB:List Int:=[1,2,3,4,5,7,9,13,17,25,33,49,65,97,129,193,257,385,513,769,1025,1537,2049,3073,4097,6145,8193,12289,16385,24577]
def disM:List Int:=[0,0,0,0,1,1,2,2,3,3,4,4,5,5,6,6,7,7,8,8,9,9,10,10,11,11,12,12,13,13]
def again (o:List Int) (d:Nat):Nat → List Int
 |0=>o
 |n+1=>again o d n ++ [(again o d n).getD ((again o d n).length - d) 0]
def copy (mx:Int) (x:St) (n d:Int):St:=if d≤x.o.length then (if (x.o.length:Int)+n≤mx then ⟨x.p,again x.o d.toNat n.toNat,x.e⟩ else fail x 7) else fail x 3
def far (s:ByteArray) (mx:Int) (lb:List Int) (x:St) (y:Int):St :=
 let m:=bits s (lenM.getD (y - 257).toNat 0) x
 let d:=next lb s m.2
 let x1:=if d.2.e=0∧d.1 ≥ 30 then fail d.2 3 else d.2
 if x1.e=0 then
  (let q:=bits s (disM.getD d.1.toNat 0) x1
  if q.2.e=0 then copy mx q.2 (lenB.getD (y - 257).toNat 0+m.1) (disB.getD d.1.toNat 0+q.1) else q.2)
 else x1
def one (s:ByteArray) (mx:Int) (la lb:List Int) (x:St):Bool × St :=
 let a:=next la s x
 if a.2.e ≠ 0 ∨ a.1=256 then (true,a.2)
 else if a.1 < 256 then (if (a.2.o.length:Int)=mx then (true,fail a.2 7) else (false,⟨a.2.p,a.2.o ++ [a.1 % 256],a.2.e⟩))
 else if a.1 ≥ 286 then (true,fail a.2 3)
 else (false,far s mx lb a.2 a.1)
def codes (s:ByteArray) (mx:Int) (la lb:List Int):Nat → St → St
 |0,x=>x
 |k+1,x=>if x.e=0 then (if (one s mx la lb x).1=true then (one s mx la lb x).2 else codes s mx la lb k (one s mx la lb x).2) else x
def plainA:List Int:=(List.range 288).map fun i=>if i < 144 then 8 else if i < 256 then 9 else if i < 280 then 7 else 8
def plainB:List Int:=List.replicate 32 5
def both (s:ByteArray) (mx:Int) (la lb:List Int) (x:St):St:=codes s mx la lb (left s x) (table lb (table la x))
def block (s:ByteArray) (mx:Int) (x:St):Bool × St :=
 let a:=bits s 1 x
 let b:=bits s 2 a.2
 (decide (a.1=1),
  if b.1=0 then (if b.2.e=0 then stored s mx b.2 else b.2)
  else if b.1=1 then both s mx plainA plainB b.2
  else if b.1=2 then both s mx (lengths s b.2).1 (lengths s b.2).2.1 (lengths s b.2).2.2
  else fail b.2 3)
def blocks (s:ByteArray) (mx:Int):Nat → St → St
 |0,x=>x
 |k+1,x=>if (block s mx x).1=true then (block s mx x).2 else if (block s mx x).2.e=0 then blocks s mx k (block s mx x).2 else (block s mx x).2
def raw (s:ByteArray) (mx:Int):ByteArray × Int × Int :=
 if mx < 0 ∨ mx > 262144 then (⟨#[]⟩,0,1)
 else
  let x:=blocks s mx (8*s.size+2) ⟨0,[],0⟩
  if x.e=0 then (strOfNums x.o,(x.p+7) / 8,0) else (⟨#[]⟩,0,x.e)
end Go.Proofs.Ytpbhkdamkbopkaa.Inf
namespace Go.Proofs.Ytpbhkdamkbopkaa.GInfl
open Go.RowKit GHuff Rs Inf YtpbhkdamkbopkaaW.PrintWords
def z16:List Int:=[0,0,0,0,0,0,0,0,0,0,0,0,0,0,0,0]
def m64w (x y:Int):Int:=IntKind.u64.wrap (IntKind.u64.wrap ((x / 2 ^ (min (32:Int).toNat 64))*(Go.bits .and .u64 y 4294967295))+(IntKind.u64.wrap ((Go.bits .and .u64 x 4294967295)*(Go.bits .and .u64 y 4294967295))) / 2 ^ (min (32:Int).toNat 64))
def m64hi (x y:Int):Int:=IntKind.u64.wrap (IntKind.u64.wrap (IntKind.u64.wrap ((x / 2 ^ (min (32:Int).toNat 64))*(y / 2 ^ (min (32:Int).toNat 64)))+(m64w x y) / 2 ^ (min (32:Int).toNat 64))+(IntKind.u64.wrap ((Go.bits .and .u64 (m64w x y) 4294967295)+IntKind.u64.wrap ((Go.bits .and .u64 x 4294967295)*(y / 2 ^ (min (32:Int).toNat 64))))) / 2 ^ (min (32:Int).toNat 64))
def bits_Mul64.f (a0:Int) (a1:Int):Option (Int × Int):=some (m64hi a0 a1,IntKind.u64.wrap (a0*a1))
def bits_Mul.f (a0:Int) (a1:Int):Option (Int × Int):=(bits_Mul64.f a0 a1).bind fun t25=>(some (t25.1,t25.2))
def infl_rep.f (v:Int) (n:Int):Option (List Int):=if 1≤n∧n≤1000000 then some (List.replicate n.toNat v) else none
def infl_bad.f (a0:Int):Option (Bool):=if a0 < 0 then (some (true)) else (some (decide (a0 > 15)))
def infl_idx.l0:Nat → List Int → Int → Int → Option (Int)
 |0,_,_,_=>none
 |k+1,x0,x7,x8=>if x8 < x7 then (if 0≤x8 then (if x8 < (x0.length:Int) then ((infl_bad.f (rd x0 x8)).bind fun t16=>(if t16=true then (some (x8)) else (infl_idx.l0 k x0 x7 (wrap64 (x8+1))))) else (none)) else (none)) else (some (-1))
def infl_idx.f (k:Nat) (l0:List Int):Option (Int):=infl_idx.l0 k l0 (l0.length:Int) 0
def infl_has.f (k:Nat) (l0:List Int):Option (Bool):=(infl_idx.f k l0).bind fun t7=>(some (decide (t7 ≥ 0)))
mutual
def infl_hNew.l0:Nat → List Int → List Int → Int → Int → Int → Int → Int → Int → Int → Int → Int → Int → Int → Int → Int → Int → Int → Int → Int → Int → Option (List Int × List Int × Int)
 |0,_,_,_,_,_,_,_,_,_,_,_,_,_,_,_,_,_,_,_,_=>none
 |k+1,x0,x22,x23,x24,x4000,x4001,x4002,x4003,x4004,x4005,x4006,x4007,x4008,x4009,x4010,x4011,x4012,x4013,x4014,x4015=>if x24 < x23 then (if 0≤x24 then (if x24 < (x22.length:Int) then (if 0≤(rd x22 x24) then (if (rd x22 x24) < 16 then (infl_hNew.l0 k x0 x22 x23 (wrap64 (x24+1)) (([x4000,x4001,x4002,x4003,x4004,x4005,x4006,x4007,x4008,x4009,x4010,x4011,x4012,x4013,x4014,x4015].set (rd x22 x24).toNat (wrap64 ((rd [x4000,x4001,x4002,x4003,x4004,x4005,x4006,x4007,x4008,x4009,x4010,x4011,x4012,x4013,x4014,x4015] (rd x22 x24))+1))).getD 0 0) (([x4000,x4001,x4002,x4003,x4004,x4005,x4006,x4007,x4008,x4009,x4010,x4011,x4012,x4013,x4014,x4015].set (rd x22 x24).toNat (wrap64 ((rd [x4000,x4001,x4002,x4003,x4004,x4005,x4006,x4007,x4008,x4009,x4010,x4011,x4012,x4013,x4014,x4015] (rd x22 x24))+1))).getD 1 0) (([x4000,x4001,x4002,x4003,x4004,x4005,x4006,x4007,x4008,x4009,x4010,x4011,x4012,x4013,x4014,x4015].set (rd x22 x24).toNat (wrap64 ((rd [x4000,x4001,x4002,x4003,x4004,x4005,x4006,x4007,x4008,x4009,x4010,x4011,x4012,x4013,x4014,x4015] (rd x22 x24))+1))).getD 2 0) (([x4000,x4001,x4002,x4003,x4004,x4005,x4006,x4007,x4008,x4009,x4010,x4011,x4012,x4013,x4014,x4015].set (rd x22 x24).toNat (wrap64 ((rd [x4000,x4001,x4002,x4003,x4004,x4005,x4006,x4007,x4008,x4009,x4010,x4011,x4012,x4013,x4014,x4015] (rd x22 x24))+1))).getD 3 0) (([x4000,x4001,x4002,x4003,x4004,x4005,x4006,x4007,x4008,x4009,x4010,x4011,x4012,x4013,x4014,x4015].set (rd x22 x24).toNat (wrap64 ((rd [x4000,x4001,x4002,x4003,x4004,x4005,x4006,x4007,x4008,x4009,x4010,x4011,x4012,x4013,x4014,x4015] (rd x22 x24))+1))).getD 4 0) (([x4000,x4001,x4002,x4003,x4004,x4005,x4006,x4007,x4008,x4009,x4010,x4011,x4012,x4013,x4014,x4015].set (rd x22 x24).toNat (wrap64 ((rd [x4000,x4001,x4002,x4003,x4004,x4005,x4006,x4007,x4008,x4009,x4010,x4011,x4012,x4013,x4014,x4015] (rd x22 x24))+1))).getD 5 0) (([x4000,x4001,x4002,x4003,x4004,x4005,x4006,x4007,x4008,x4009,x4010,x4011,x4012,x4013,x4014,x4015].set (rd x22 x24).toNat (wrap64 ((rd [x4000,x4001,x4002,x4003,x4004,x4005,x4006,x4007,x4008,x4009,x4010,x4011,x4012,x4013,x4014,x4015] (rd x22 x24))+1))).getD 6 0) (([x4000,x4001,x4002,x4003,x4004,x4005,x4006,x4007,x4008,x4009,x4010,x4011,x4012,x4013,x4014,x4015].set (rd x22 x24).toNat (wrap64 ((rd [x4000,x4001,x4002,x4003,x4004,x4005,x4006,x4007,x4008,x4009,x4010,x4011,x4012,x4013,x4014,x4015] (rd x22 x24))+1))).getD 7 0) (([x4000,x4001,x4002,x4003,x4004,x4005,x4006,x4007,x4008,x4009,x4010,x4011,x4012,x4013,x4014,x4015].set (rd x22 x24).toNat (wrap64 ((rd [x4000,x4001,x4002,x4003,x4004,x4005,x4006,x4007,x4008,x4009,x4010,x4011,x4012,x4013,x4014,x4015] (rd x22 x24))+1))).getD 8 0) (([x4000,x4001,x4002,x4003,x4004,x4005,x4006,x4007,x4008,x4009,x4010,x4011,x4012,x4013,x4014,x4015].set (rd x22 x24).toNat (wrap64 ((rd [x4000,x4001,x4002,x4003,x4004,x4005,x4006,x4007,x4008,x4009,x4010,x4011,x4012,x4013,x4014,x4015] (rd x22 x24))+1))).getD 9 0) (([x4000,x4001,x4002,x4003,x4004,x4005,x4006,x4007,x4008,x4009,x4010,x4011,x4012,x4013,x4014,x4015].set (rd x22 x24).toNat (wrap64 ((rd [x4000,x4001,x4002,x4003,x4004,x4005,x4006,x4007,x4008,x4009,x4010,x4011,x4012,x4013,x4014,x4015] (rd x22 x24))+1))).getD 10 0) (([x4000,x4001,x4002,x4003,x4004,x4005,x4006,x4007,x4008,x4009,x4010,x4011,x4012,x4013,x4014,x4015].set (rd x22 x24).toNat (wrap64 ((rd [x4000,x4001,x4002,x4003,x4004,x4005,x4006,x4007,x4008,x4009,x4010,x4011,x4012,x4013,x4014,x4015] (rd x22 x24))+1))).getD 11 0) (([x4000,x4001,x4002,x4003,x4004,x4005,x4006,x4007,x4008,x4009,x4010,x4011,x4012,x4013,x4014,x4015].set (rd x22 x24).toNat (wrap64 ((rd [x4000,x4001,x4002,x4003,x4004,x4005,x4006,x4007,x4008,x4009,x4010,x4011,x4012,x4013,x4014,x4015] (rd x22 x24))+1))).getD 12 0) (([x4000,x4001,x4002,x4003,x4004,x4005,x4006,x4007,x4008,x4009,x4010,x4011,x4012,x4013,x4014,x4015].set (rd x22 x24).toNat (wrap64 ((rd [x4000,x4001,x4002,x4003,x4004,x4005,x4006,x4007,x4008,x4009,x4010,x4011,x4012,x4013,x4014,x4015] (rd x22 x24))+1))).getD 13 0) (([x4000,x4001,x4002,x4003,x4004,x4005,x4006,x4007,x4008,x4009,x4010,x4011,x4012,x4013,x4014,x4015].set (rd x22 x24).toNat (wrap64 ((rd [x4000,x4001,x4002,x4003,x4004,x4005,x4006,x4007,x4008,x4009,x4010,x4011,x4012,x4013,x4014,x4015] (rd x22 x24))+1))).getD 14 0) (([x4000,x4001,x4002,x4003,x4004,x4005,x4006,x4007,x4008,x4009,x4010,x4011,x4012,x4013,x4014,x4015].set (rd x22 x24).toNat (wrap64 ((rd [x4000,x4001,x4002,x4003,x4004,x4005,x4006,x4007,x4008,x4009,x4010,x4011,x4012,x4013,x4014,x4015] (rd x22 x24))+1))).getD 15 0)) else (none)) else (none)) else (none)) else (none)) else (infl_hNew.l1 k x0 32768 0 0 0 x4001 x4002 x4003 x4004 x4005 x4006 x4007 x4008 x4009 x4010 x4011 x4012 x4013 x4014 x4015)
def infl_hNew.l1:Nat → List Int → Int → Int → Int → Int → Int → Int → Int → Int → Int → Int → Int → Int → Int → Int → Int → Int → Int → Int → Int → Option (List Int × List Int × Int)
 |0,_,_,_,_,_,_,_,_,_,_,_,_,_,_,_,_,_,_,_,_=>none
 |k+1,x0,x7,x8,x40,x4000,x4001,x4002,x4003,x4004,x4005,x4006,x4007,x4008,x4009,x4010,x4011,x4012,x4013,x4014,x4015=>if x40 < 16 then (if 0≤x40 then (if x40 < 16 then (if 0≤(wrap64 (15 - x40)) then (infl_hNew.l1 k x0 (wrap64 (x7 - (wrap64 ((rd [x4000,x4001,x4002,x4003,x4004,x4005,x4006,x4007,x4008,x4009,x4010,x4011,x4012,x4013,x4014,x4015] x40)*2 ^ (min (wrap64 (15 - x40)).toNat 64))))) (wrap64 (x8+(rd [x4000,x4001,x4002,x4003,x4004,x4005,x4006,x4007,x4008,x4009,x4010,x4011,x4012,x4013,x4014,x4015] x40))) (wrap64 (x40+1)) x4000 x4001 x4002 x4003 x4004 x4005 x4006 x4007 x4008 x4009 x4010 x4011 x4012 x4013 x4014 x4015) else (none)) else (none)) else (none)) else (if x7 < 0 then (some (z16,[],4)) else (if x7 > 0 then (if x8 > 0 then (if x8=1 then (if (rd [x4000,x4001,x4002,x4003,x4004,x4005,x4006,x4007,x4008,x4009,x4010,x4011,x4012,x4013,x4014,x4015] 1)=1 then (infl_hNew.l2 k x0 1 x4000 x4001 x4002 x4003 x4004 x4005 x4006 x4007 x4008 x4009 x4010 x4011 x4012 x4013 x4014 x4015 ([]:List Int)) else (some (z16,[],4))) else (some (z16,[],4))) else (infl_hNew.l2 k x0 1 x4000 x4001 x4002 x4003 x4004 x4005 x4006 x4007 x4008 x4009 x4010 x4011 x4012 x4013 x4014 x4015 ([]:List Int))) else (infl_hNew.l2 k x0 1 x4000 x4001 x4002 x4003 x4004 x4005 x4006 x4007 x4008 x4009 x4010 x4011 x4012 x4013 x4014 x4015 ([]:List Int))))
def infl_hNew.l2:Nat → List Int → Int → Int → Int → Int → Int → Int → Int → Int → Int → Int → Int → Int → Int → Int → Int → Int → Int → List Int → Option (List Int × List Int × Int)
 |0,_,_,_,_,_,_,_,_,_,_,_,_,_,_,_,_,_,_,_=>none
 |k+1,x0,x11,x4000,x4001,x4002,x4003,x4004,x4005,x4006,x4007,x4008,x4009,x4010,x4011,x4012,x4013,x4014,x4015,x4016=>if x11≤15 then (infl_hNew.l3 k x0 x11 x0 (x0.length:Int) 0 x4000 x4001 x4002 x4003 x4004 x4005 x4006 x4007 x4008 x4009 x4010 x4011 x4012 x4013 x4014 x4015 x4016) else (some ([x4000,x4001,x4002,x4003,x4004,x4005,x4006,x4007,x4008,x4009,x4010,x4011,x4012,x4013,x4014,x4015],x4016,0))
def infl_hNew.l3:Nat → List Int → Int → List Int → Int → Int → Int → Int → Int → Int → Int → Int → Int → Int → Int → Int → Int → Int → Int → Int → Int → Int → List Int → Option (List Int × List Int × Int)
 |0,_,_,_,_,_,_,_,_,_,_,_,_,_,_,_,_,_,_,_,_,_,_=>none
 |k+1,x0,x11,x79,x80,x81,x4000,x4001,x4002,x4003,x4004,x4005,x4006,x4007,x4008,x4009,x4010,x4011,x4012,x4013,x4014,x4015,x4016=>if x81 < x80 then (if 0≤x81 then (if x81 < (x79.length:Int) then (if (rd x79 x81)=x11 then (if x4016.length < 17592186044416 then (infl_hNew.l3 k x0 x11 x79 x80 (wrap64 (x81+1)) x4000 x4001 x4002 x4003 x4004 x4005 x4006 x4007 x4008 x4009 x4010 x4011 x4012 x4013 x4014 x4015 (x4016 ++ [x81])) else (none)) else (infl_hNew.l3 k x0 x11 x79 x80 (wrap64 (x81+1)) x4000 x4001 x4002 x4003 x4004 x4005 x4006 x4007 x4008 x4009 x4010 x4011 x4012 x4013 x4014 x4015 x4016)) else (none)) else (none)) else (infl_hNew.l2 k x0 (wrap64 (x11+1)) x4000 x4001 x4002 x4003 x4004 x4005 x4006 x4007 x4008 x4009 x4010 x4011 x4012 x4013 x4014 x4015 x4016)
end
def infl_hNew.f (k:Nat) (l0:List Int):Option (List Int × List Int × Int):=if (l0.length:Int) > 320 then (some (z16,[],1)) else ((infl_has.f k l0).bind fun t19=>(if t19=true then (some (z16,[],1)) else (infl_hNew.l0 k l0 l0 (l0.length:Int) 0 0 0 0 0 0 0 0 0 0 0 0 0 0 0 0 0)))
def infl_hNext.l0:Nat → ByteArray → Int → Int → Int → Int → Int → Int → Int → Int → Int → Int → Int → Int → Int → Int → Int → Int → Int → Int → Int → Int → Int → List Int → Option (Int × Int × Int)
 |0,_,_,_,_,_,_,_,_,_,_,_,_,_,_,_,_,_,_,_,_,_,_,_=>none
 |k+1,x1,x2,x9,x10,x11,x12,x3000,x3001,x3002,x3003,x3004,x3005,x3006,x3007,x3008,x3009,x3010,x3011,x3012,x3013,x3014,x3015,x3016=>if x12≤15 then ((huff_Bit.f x1 x2).bind fun t28=>(if t28.2=true then (if 0≤x12 then (if x12 < 16 then (if (Go.bits .or .i64 (wrap64 (x9*2 ^ (min (1:Int).toNat 64))) t28.1) < (wrap64 ((wrap64 (x10*2 ^ (min (1:Int).toNat 64)))+(rd [x3000,x3001,x3002,x3003,x3004,x3005,x3006,x3007,x3008,x3009,x3010,x3011,x3012,x3013,x3014,x3015] x12))) then (if 0≤(wrap64 ((wrap64 (x11+(Go.bits .or .i64 (wrap64 (x9*2 ^ (min (1:Int).toNat 64))) t28.1))) - (wrap64 (x10*2 ^ (min (1:Int).toNat 64))))) then (if (wrap64 ((wrap64 (x11+(Go.bits .or .i64 (wrap64 (x9*2 ^ (min (1:Int).toNat 64))) t28.1))) - (wrap64 (x10*2 ^ (min (1:Int).toNat 64))))) < (x3016.length:Int) then (some (rd x3016 (wrap64 ((wrap64 (x11+(Go.bits .or .i64 (wrap64 (x9*2 ^ (min (1:Int).toNat 64))) t28.1))) - (wrap64 (x10*2 ^ (min (1:Int).toNat 64))))),wrap64 (x2+1),0)) else (none)) else (none)) else (if (wrap64 (x11+(rd [x3000,x3001,x3002,x3003,x3004,x3005,x3006,x3007,x3008,x3009,x3010,x3011,x3012,x3013,x3014,x3015] x12)))=(x3016.length:Int) then (some (0,0,4)) else (infl_hNext.l0 k x1 (wrap64 (x2+1)) (Go.bits .or .i64 (wrap64 (x9*2 ^ (min (1:Int).toNat 64))) t28.1) (wrap64 ((wrap64 (x10*2 ^ (min (1:Int).toNat 64)))+(rd [x3000,x3001,x3002,x3003,x3004,x3005,x3006,x3007,x3008,x3009,x3010,x3011,x3012,x3013,x3014,x3015] x12))) (wrap64 (x11+(rd [x3000,x3001,x3002,x3003,x3004,x3005,x3006,x3007,x3008,x3009,x3010,x3011,x3012,x3013,x3014,x3015] x12))) (wrap64 (x12+1)) x3000 x3001 x3002 x3003 x3004 x3005 x3006 x3007 x3008 x3009 x3010 x3011 x3012 x3013 x3014 x3015 x3016))) else (none)) else (none)) else (some (0,0,2)))) else (some (0,0,4))
def infl_hNext.f (k:Nat) (x3000:Int) (x3001:Int) (x3002:Int) (x3003:Int) (x3004:Int) (x3005:Int) (x3006:Int) (x3007:Int) (x3008:Int) (x3009:Int) (x3010:Int) (x3011:Int) (x3012:Int) (x3013:Int) (x3014:Int) (x3015:Int) (x3016:List Int) (a1:ByteArray) (a2:Int):Option (Int × Int × Int):=if a2 < 0 then (some (0,0,1)) else (if (x3016.length:Int)=0 then (some (0,0,4)) else (infl_hNext.l0 k a1 a2 0 0 0 1 x3000 x3001 x3002 x3003 x3004 x3005 x3006 x3007 x3008 x3009 x3010 x3011 x3012 x3013 x3014 x3015 x3016))
def infl_fail.f (e:Int) (a1:Int):Option (Int):=if e=0 then (some (a1)) else (some (e))
def infl_bits.f (k:Nat) (s:ByteArray) (p:Int) (e:Int) (a1:Int):Option (Int × Int × Int):=if e=0 then ((huff_Bits.f k s p a1).bind fun t23=>(if t23.2.2=0 then (some (t23.1,t23.2.1,e)) else ((infl_fail.f e t23.2.2).bind fun t31=>(some (0,p,t31))))) else (some (0,p,e))
def infl_next.f (k:Nat) (x3000:Int) (x3001:Int) (x3002:Int) (x3003:Int) (x3004:Int) (x3005:Int) (x3006:Int) (x3007:Int) (x3008:Int) (x3009:Int) (x3010:Int) (x3011:Int) (x3012:Int) (x3013:Int) (x3014:Int) (x3015:Int) (x3016:List Int) (s:ByteArray) (p:Int) (e:Int):Option (Int × Int × Int):=if e=0 then ((infl_hNext.f k x3000 x3001 x3002 x3003 x3004 x3005 x3006 x3007 x3008 x3009 x3010 x3011 x3012 x3013 x3014 x3015 x3016 s p).bind fun t23=>(if t23.2.2=0 then (some (t23.1,t23.2.1,e)) else ((infl_fail.f e t23.2.2).bind fun t31=>(some (0,p,t31))))) else (some (0,p,e))
def infl_table.f (k:Nat) (e:Int) (l2:List Int):Option (List Int × List Int × Int):=if e=0 then ((infl_hNew.f k l2).bind fun t15=>((infl_fail.f e t15.2.2).bind fun t20=>(some (t15.1,t15.2.1,t20)))) else (some (z16,[],e))
def infl_stored.f (k:Nat) (s:ByteArray) (p:Int) (o:List Int) (m:Int) (e:Int):Option (List Int × Int × Int):=(infl_bits.f k s (wrap64 ((wrap64 (Int.tdiv (wrap64 (p+7)) 8))*8)) e 16).bind fun t16=>((infl_bits.f k s t16.2.1 t16.2.2 16).bind fun t18=>(if t18.2.2=0 then (if (Go.bits .xor .i64 t16.1 t18.1)=65535 then (if (wrap64 ((o.length:Int)+t16.1)) > m then ((infl_fail.f t18.2.2 7).bind fun t46=>(some (o,t18.2.1,t46))) else (if (wrap64 ((s.size:Int) - (wrap64 (Int.tdiv t18.2.1 8)))) < t16.1 then ((infl_fail.f t18.2.2 2).bind fun t62=>(some (o,t18.2.1,t62))) else (if 0≤(wrap64 (Int.tdiv t18.2.1 8)) then (if (wrap64 (Int.tdiv t18.2.1 8))≤(wrap64 ((wrap64 (Int.tdiv t18.2.1 8))+t16.1)) then (if (wrap64 ((wrap64 (Int.tdiv t18.2.1 8))+t16.1))≤(s.size:Int) then (if o.length+(byts (s.extract ((wrap64 (Int.tdiv t18.2.1 8))).toNat ((wrap64 ((wrap64 (Int.tdiv t18.2.1 8))+t16.1))).toNat)).length≤140737488355328 then (some (o ++ (byts (s.extract ((wrap64 (Int.tdiv t18.2.1 8))).toNat ((wrap64 ((wrap64 (Int.tdiv t18.2.1 8))+t16.1))).toNat)),wrap64 (t18.2.1+(wrap64 (8*t16.1))),t18.2.2)) else (none)) else (none)) else (none)) else (none)))) else ((infl_fail.f t18.2.2 3).bind fun t31=>(some (o,t18.2.1,t31)))) else (some (o,t18.2.1,t18.2.2))))
def infl_lengthen.f (k:Nat) (s:ByteArray) (p:Int) (e:Int) (l1:List Int) (a2:Int):Option (List Int × Int × Int):=if e=0 then (if a2=16 then (if (l1.length:Int)=0 then ((infl_fail.f e 3).bind fun t26=>(some (l1,p,t26))) else (if 0≤(wrap64 ((l1.length:Int) - 1)) then (if (wrap64 ((l1.length:Int) - 1)) < (l1.length:Int) then ((infl_bits.f k s p e 2).bind fun t35=>((infl_rep.f (rd l1 (wrap64 ((l1.length:Int) - 1))) (wrap64 (3+t35.1))).bind fun t51=>(if 0 < t51.length then (if l1.length+t51.length≤17592186044416 then (some (l1 ++ t51,t35.2.1,t35.2.2)) else (none)) else (none)))) else (none)) else (none))) else (if a2=17 then ((infl_bits.f k s p e 3).bind fun t40=>((infl_rep.f 0 (wrap64 (3+t40.1))).bind fun t51=>(if 0 < t51.length then (if l1.length+t51.length≤17592186044416 then (some (l1 ++ t51,t40.2.1,t40.2.2)) else (none)) else (none)))) else (if a2=18 then ((infl_bits.f k s p e 7).bind fun t45=>((infl_rep.f 0 (wrap64 (11+t45.1))).bind fun t51=>(if 0 < t51.length then (if l1.length+t51.length≤17592186044416 then (some (l1 ++ t51,t45.2.1,t45.2.2)) else (none)) else (none)))) else (if l1.length < 17592186044416 then (some (l1 ++ [a2],p,e)) else (none))))) else (some (l1,p,e))
mutual
def infl_lengths.j0:Nat → Int → Int → Int → Bool → ByteArray → Int → Int → Option (List Int × Int × Int × Int)
 |0,_,_,_,_,_,_,_=>none
 |k+1,x4,x5,x6,x34,x90000,x90001,x90004=>if x34=true then ((infl_fail.f x90004 3).bind fun t36=>(infl_lengths.j1 k x4 x5 x6 x90000 x90001 t36)) else (infl_lengths.j1 k x4 x5 x6 x90000 x90001 x90004)
def infl_lengths.j1:Nat → Int → Int → Int → ByteArray → Int → Int → Option (List Int × Int × Int × Int)
 |0,_,_,_,_,_,_=>none
 |k+1,x4,x5,x6,x90000,x90001,x90004=>if 0≤x6 then (if x6≤19 then (infl_lengths.l0 k x4 x5 (List.replicate 19 0) (([16,17,18,0,8,7,9,6,10,5,11,4,12,3,13,2,14,1,15]:List Int).take x6.toNat) ((([16,17,18,0,8,7,9,6,10,5,11,4,12,3,13,2,14,1,15]:List Int).take x6.toNat).length:Int) 0 x90000 x90001 x90004) else (none)) else (none)
def infl_lengths.l0:Nat → Int → Int → List Int → List Int → Int → Int → ByteArray → Int → Int → Option (List Int × Int × Int × Int)
 |0,_,_,_,_,_,_,_,_,_=>none
 |k+1,x4,x5,x8,x43,x44,x45,x90000,x90001,x90004=>if x45 < x44 then (if 0≤x45 then (if x45 < (x43.length:Int) then ((infl_bits.f k x90000 x90001 x90004 3).bind fun t52=>(if 0≤(rd x43 x45) then (if (rd x43 x45) < (x8.length:Int) then (infl_lengths.l0 k x4 x5 (x8.set (rd x43 x45:Int).toNat t52.1) x43 x44 (wrap64 (x45+1)) x90000 t52.2.1 t52.2.2) else (none)) else (none))) else (none)) else (none)) else ((infl_table.f k x90004 x8).bind fun t57=>(infl_lengths.l1 k x4 x5 (rd t57.1 0) (rd t57.1 1) (rd t57.1 2) (rd t57.1 3) (rd t57.1 4) (rd t57.1 5) (rd t57.1 6) (rd t57.1 7) (rd t57.1 8) (rd t57.1 9) (rd t57.1 10) (rd t57.1 11) (rd t57.1 12) (rd t57.1 13) (rd t57.1 14) (rd t57.1 15) t57.2.1 ([]:List Int) x90000 x90001 t57.2.2))
def infl_lengths.l1:Nat → Int → Int → Int → Int → Int → Int → Int → Int → Int → Int → Int → Int → Int → Int → Int → Int → Int → Int → List Int → List Int → ByteArray → Int → Int → Option (List Int × Int × Int × Int)
 |0,_,_,_,_,_,_,_,_,_,_,_,_,_,_,_,_,_,_,_,_,_,_,_=>none
 |k+1,x4,x5,x11000,x11001,x11002,x11003,x11004,x11005,x11006,x11007,x11008,x11009,x11010,x11011,x11012,x11013,x11014,x11015,x11016,x12,x90000,x90001,x90004=>if (x12.length:Int) < (wrap64 (x4+x5)) then (if x90004=0 then ((infl_next.f k x11000 x11001 x11002 x11003 x11004 x11005 x11006 x11007 x11008 x11009 x11010 x11011 x11012 x11013 x11014 x11015 x11016 x90000 x90001 x90004).bind fun t75=>((infl_lengthen.f k x90000 t75.2.1 t75.2.2 x12 t75.1).bind fun t76=>(infl_lengths.l1 k x4 x5 x11000 x11001 x11002 x11003 x11004 x11005 x11006 x11007 x11008 x11009 x11010 x11011 x11012 x11013 x11014 x11015 x11016 t76.1 x90000 t76.2.1 t76.2.2))) else (if x90004=0 then (if (x12.length:Int) > (wrap64 (x4+x5)) then ((infl_fail.f x90004 3).bind fun t97=>(some ([],0,x90001,t97))) else (if 256 < (x12.length:Int) then (if (rd x12 256)=0 then ((infl_fail.f x90004 3).bind fun t97=>(some ([],0,x90001,t97))) else (if 0≤x4 then (if x4≤(x12.length:Int) then (some (x12,x4,x90001,x90004)) else (none)) else (none))) else (none))) else (some ([],0,x90001,x90004)))) else (if x90004=0 then (if (x12.length:Int) > (wrap64 (x4+x5)) then ((infl_fail.f x90004 3).bind fun t97=>(some ([],0,x90001,t97))) else (if 256 < (x12.length:Int) then (if (rd x12 256)=0 then ((infl_fail.f x90004 3).bind fun t97=>(some ([],0,x90001,t97))) else (if 0≤x4 then (if x4≤(x12.length:Int) then (some (x12,x4,x90001,x90004)) else (none)) else (none))) else (none))) else (some ([],0,x90001,x90004)))
end
def infl_lengths.f (k:Nat) (s:ByteArray) (p:Int) (e:Int):Option (List Int × Int × Int × Int):=(infl_bits.f k s p e 5).bind fun t14=>((infl_bits.f k s t14.2.1 t14.2.2 5).bind fun t17=>((infl_bits.f k s t17.2.1 t17.2.2 4).bind fun t20=>(if t20.2.2=0 then (if (wrap64 (t14.1+257)) > 286 then (infl_lengths.j0 k (wrap64 (t14.1+257)) (wrap64 (t17.1+1)) (wrap64 (t20.1+4)) true s t20.2.1 t20.2.2) else (infl_lengths.j0 k (wrap64 (t14.1+257)) (wrap64 (t17.1+1)) (wrap64 (t20.1+4)) (decide ((wrap64 (t17.1+1)) > 30)) s t20.2.1 t20.2.2)) else (infl_lengths.j0 k (wrap64 (t14.1+257)) (wrap64 (t17.1+1)) (wrap64 (t20.1+4)) false s t20.2.1 t20.2.2))))
def infl_bases.f:Option (List Int × List Int × List Int × List Int):=some (lenB,lenM,disB,disM)
mutual
def infl_codes.l0:Nat → List Int → List Int → List Int → List Int → Int → Int → Int → Int → Int → Int → Int → Int → Int → Int → Int → Int → Int → Int → Int → Int → List Int → Int → Int → Int → Int → Int → Int → Int → Int → Int → Int → Int → Int → Int → Int → Int → Int → List Int → ByteArray → Int → List Int → Int → Int → Option (List Int × Int × Int)
 |0,_,_,_,_,_,_,_,_,_,_,_,_,_,_,_,_,_,_,_,_,_,_,_,_,_,_,_,_,_,_,_,_,_,_,_,_,_,_,_,_,_,_,_=>none
 |k+1,x6,x7,x8,x9,x4000,x4001,x4002,x4003,x4004,x4005,x4006,x4007,x4008,x4009,x4010,x4011,x4012,x4013,x4014,x4015,x4016,x5000,x5001,x5002,x5003,x5004,x5005,x5006,x5007,x5008,x5009,x5010,x5011,x5012,x5013,x5014,x5015,x5016,x90000,x90001,x90002,x90003,x90004=>if x90004=0 then ((infl_next.f k x4000 x4001 x4002 x4003 x4004 x4005 x4006 x4007 x4008 x4009 x4010 x4011 x4012 x4013 x4014 x4015 x4016 x90000 x90001 x90004).bind fun t26=>(if t26.2.2=0 then (if t26.1=256 then (some (x90002,t26.2.1,t26.2.2)) else (if t26.1 < 256 then (if (x90002.length:Int)=x90003 then ((infl_fail.f t26.2.2 7).bind fun t51=>(some (x90002,t26.2.1,t51))) else (if x90002.length < 140737488355328 then (infl_codes.l0 k x6 x7 x8 x9 x4000 x4001 x4002 x4003 x4004 x4005 x4006 x4007 x4008 x4009 x4010 x4011 x4012 x4013 x4014 x4015 x4016 x5000 x5001 x5002 x5003 x5004 x5005 x5006 x5007 x5008 x5009 x5010 x5011 x5012 x5013 x5014 x5015 x5016 x90000 t26.2.1 (x90002 ++ [t26.1 % 256]) x90003 t26.2.2) else (none))) else (if t26.1 ≥ 286 then ((infl_fail.f t26.2.2 3).bind fun t67=>(some (x90002,t26.2.1,t67))) else (if 0≤(wrap64 ((wrap64 (t26.1 - 256)) - 1)) then (if (wrap64 ((wrap64 (t26.1 - 256)) - 1)) < (x6.length:Int) then (if (wrap64 ((wrap64 (t26.1 - 256)) - 1)) < (x7.length:Int) then ((infl_bits.f k x90000 t26.2.1 t26.2.2 (rd x7 (wrap64 ((wrap64 (t26.1 - 256)) - 1)))).bind fun t81=>((infl_next.f k x5000 x5001 x5002 x5003 x5004 x5005 x5006 x5007 x5008 x5009 x5010 x5011 x5012 x5013 x5014 x5015 x5016 x90000 t81.2.1 t81.2.2).bind fun t85=>(if t85.2.2=0 then (if t85.1 ≥ 30 then ((infl_fail.f t85.2.2 3).bind fun t96=>(if t96=0 then (none) else (some (x90002,t85.2.1,t96)))) else (if t85.2.2=0 then (if 0≤t85.1 then (if t85.1 < (x8.length:Int) then (if t85.1 < (x9.length:Int) then ((infl_bits.f k x90000 t85.2.1 t85.2.2 (rd x9 t85.1)).bind fun t111=>(if t111.2.2=0 then (if (wrap64 ((rd x8 t85.1)+t111.1)) > (x90002.length:Int) then ((infl_fail.f t111.2.2 3).bind fun t154=>(infl_codes.l0 k x6 x7 x8 x9 x4000 x4001 x4002 x4003 x4004 x4005 x4006 x4007 x4008 x4009 x4010 x4011 x4012 x4013 x4014 x4015 x4016 x5000 x5001 x5002 x5003 x5004 x5005 x5006 x5007 x5008 x5009 x5010 x5011 x5012 x5013 x5014 x5015 x5016 x90000 t111.2.1 x90002 x90003 t154)) else (if (wrap64 ((x90002.length:Int)+(wrap64 ((rd x6 (wrap64 ((wrap64 (t26.1 - 256)) - 1)))+t81.1)))) > x90003 then ((infl_fail.f t111.2.2 7).bind fun t169=>(infl_codes.l0 k x6 x7 x8 x9 x4000 x4001 x4002 x4003 x4004 x4005 x4006 x4007 x4008 x4009 x4010 x4011 x4012 x4013 x4014 x4015 x4016 x5000 x5001 x5002 x5003 x5004 x5005 x5006 x5007 x5008 x5009 x5010 x5011 x5012 x5013 x5014 x5015 x5016 x90000 t111.2.1 x90002 x90003 t169)) else (infl_codes.l1 k x6 x7 x8 x9 (wrap64 ((rd x8 t85.1)+t111.1)) (wrap64 ((rd x6 (wrap64 ((wrap64 (t26.1 - 256)) - 1)))+t81.1)) 0 x4000 x4001 x4002 x4003 x4004 x4005 x4006 x4007 x4008 x4009 x4010 x4011 x4012 x4013 x4014 x4015 x4016 x5000 x5001 x5002 x5003 x5004 x5005 x5006 x5007 x5008 x5009 x5010 x5011 x5012 x5013 x5014 x5015 x5016 x90000 t111.2.1 x90002 x90003 t111.2.2))) else (some (x90002,t111.2.1,t111.2.2)))) else (none)) else (none)) else (none)) else (some (x90002,t85.2.1,t85.2.2)))) else (if t85.2.2=0 then (none) else (some (x90002,t85.2.1,t85.2.2)))))) else (none)) else (none)) else (none))))) else (some (x90002,t26.2.1,t26.2.2)))) else (some (x90002,x90001,x90004))
def infl_codes.l1:Nat → List Int → List Int → List Int → List Int → Int → Int → Int → Int → Int → Int → Int → Int → Int → Int → Int → Int → Int → Int → Int → Int → Int → Int → Int → List Int → Int → Int → Int → Int → Int → Int → Int → Int → Int → Int → Int → Int → Int → Int → Int → Int → List Int → ByteArray → Int → List Int → Int → Int → Option (List Int × Int × Int)
 |0,_,_,_,_,_,_,_,_,_,_,_,_,_,_,_,_,_,_,_,_,_,_,_,_,_,_,_,_,_,_,_,_,_,_,_,_,_,_,_,_,_,_,_,_,_,_=>none
 |k+1,x6,x7,x8,x9,x12,x113,x114,x4000,x4001,x4002,x4003,x4004,x4005,x4006,x4007,x4008,x4009,x4010,x4011,x4012,x4013,x4014,x4015,x4016,x5000,x5001,x5002,x5003,x5004,x5005,x5006,x5007,x5008,x5009,x5010,x5011,x5012,x5013,x5014,x5015,x5016,x90000,x90001,x90002,x90003,x90004=>if x114 < x113 then (if 0≤(wrap64 ((x90002.length:Int) - x12)) then (if (wrap64 ((x90002.length:Int) - x12)) < (x90002.length:Int) then (if x90002.length < 140737488355328 then (infl_codes.l1 k x6 x7 x8 x9 x12 x113 (wrap64 (x114+1)) x4000 x4001 x4002 x4003 x4004 x4005 x4006 x4007 x4008 x4009 x4010 x4011 x4012 x4013 x4014 x4015 x4016 x5000 x5001 x5002 x5003 x5004 x5005 x5006 x5007 x5008 x5009 x5010 x5011 x5012 x5013 x5014 x5015 x5016 x90000 x90001 (x90002 ++ [rd x90002 (wrap64 ((x90002.length:Int) - x12))]) x90003 x90004) else (none)) else (none)) else (none)) else (infl_codes.l0 k x6 x7 x8 x9 x4000 x4001 x4002 x4003 x4004 x4005 x4006 x4007 x4008 x4009 x4010 x4011 x4012 x4013 x4014 x4015 x4016 x5000 x5001 x5002 x5003 x5004 x5005 x5006 x5007 x5008 x5009 x5010 x5011 x5012 x5013 x5014 x5015 x5016 x90000 x90001 x90002 x90003 x90004)
end
def infl_codes.f (k:Nat) (x4000:Int) (x4001:Int) (x4002:Int) (x4003:Int) (x4004:Int) (x4005:Int) (x4006:Int) (x4007:Int) (x4008:Int) (x4009:Int) (x4010:Int) (x4011:Int) (x4012:Int) (x4013:Int) (x4014:Int) (x4015:Int) (x4016:List Int) (x5000:Int) (x5001:Int) (x5002:Int) (x5003:Int) (x5004:Int) (x5005:Int) (x5006:Int) (x5007:Int) (x5008:Int) (x5009:Int) (x5010:Int) (x5011:Int) (x5012:Int) (x5013:Int) (x5014:Int) (x5015:Int) (x5016:List Int) (s:ByteArray) (p:Int) (o:List Int) (m:Int) (e:Int):Option (List Int × Int × Int):=(infl_bases.f).bind fun t14=>(infl_codes.l0 k t14.1 t14.2.1 t14.2.2.1 t14.2.2.2 x4000 x4001 x4002 x4003 x4004 x4005 x4006 x4007 x4008 x4009 x4010 x4011 x4012 x4013 x4014 x4015 x4016 x5000 x5001 x5002 x5003 x5004 x5005 x5006 x5007 x5008 x5009 x5010 x5011 x5012 x5013 x5014 x5015 x5016 s p o m e)
def infl_plain.l0:Nat → List Int → Int → Option (List Int × List Int)
 |0,_,_=>none
 |k+1,x2,x3=>if x3 < 280 then (if 0≤x3 then (if x3 < (x2.length:Int) then (if x3 < 256 then (if x3 < ((x2.set (x3:Int).toNat 7).length:Int) then (infl_plain.l0 k ((x2.set (x3:Int).toNat 7).set (x3:Int).toNat 9) (wrap64 (x3+1))) else (none)) else (infl_plain.l0 k (x2.set (x3:Int).toNat 7) (wrap64 (x3+1)))) else (none)) else (none)) else ((infl_rep.f 5 32).bind fun t20=>(some (x2,t20)))
def infl_plain.f (k:Nat):Option (List Int × List Int):=(infl_rep.f 8 288).bind fun t5=>(infl_plain.l0 k t5 144)
def infl_block.f (k:Nat) (s:ByteArray) (p:Int) (o:List Int) (m:Int) (e:Int):Option (Bool × List Int × Int × Int):=(infl_bits.f k s p e 1).bind fun t9=>((infl_bits.f k s t9.2.1 t9.2.2 2).bind fun t12=>(if t12.1=0 then (if t12.2.2=0 then ((infl_stored.f k s t12.2.1 o m t12.2.2).bind fun t23=>(some ((t9.1 == 1),t23.1,t23.2.1,t23.2.2))) else (some ((t9.1 == 1),o,t12.2.1,t12.2.2))) else (if t12.1=1 then ((infl_plain.f k).bind fun t27=>((infl_table.f k t12.2.2 t27.1).bind fun t33=>((infl_table.f k t33.2.2 t27.2).bind fun t36=>((infl_codes.f k (rd t33.1 0) (rd t33.1 1) (rd t33.1 2) (rd t33.1 3) (rd t33.1 4) (rd t33.1 5) (rd t33.1 6) (rd t33.1 7) (rd t33.1 8) (rd t33.1 9) (rd t33.1 10) (rd t33.1 11) (rd t33.1 12) (rd t33.1 13) (rd t33.1 14) (rd t33.1 15) t33.2.1 (rd t36.1 0) (rd t36.1 1) (rd t36.1 2) (rd t36.1 3) (rd t36.1 4) (rd t36.1 5) (rd t36.1 6) (rd t36.1 7) (rd t36.1 8) (rd t36.1 9) (rd t36.1 10) (rd t36.1 11) (rd t36.1 12) (rd t36.1 13) (rd t36.1 14) (rd t36.1 15) t36.2.1 s t12.2.1 o m t36.2.2).bind fun t37=>(some ((t9.1 == 1),t37.1,t37.2.1,t37.2.2)))))) else (if t12.1=2 then ((infl_lengths.f k s t12.2.1 t12.2.2).bind fun t42=>((infl_table.f k t42.2.2.2 (t42.1.take t42.2.1.toNat)).bind fun t33=>((infl_table.f k t33.2.2 (t42.1.drop t42.2.1.toNat)).bind fun t36=>((infl_codes.f k (rd t33.1 0) (rd t33.1 1) (rd t33.1 2) (rd t33.1 3) (rd t33.1 4) (rd t33.1 5) (rd t33.1 6) (rd t33.1 7) (rd t33.1 8) (rd t33.1 9) (rd t33.1 10) (rd t33.1 11) (rd t33.1 12) (rd t33.1 13) (rd t33.1 14) (rd t33.1 15) t33.2.1 (rd t36.1 0) (rd t36.1 1) (rd t36.1 2) (rd t36.1 3) (rd t36.1 4) (rd t36.1 5) (rd t36.1 6) (rd t36.1 7) (rd t36.1 8) (rd t36.1 9) (rd t36.1 10) (rd t36.1 11) (rd t36.1 12) (rd t36.1 13) (rd t36.1 14) (rd t36.1 15) t36.2.1 s t42.2.2.1 o m t36.2.2).bind fun t37=>(some ((t9.1 == 1),t37.1,t37.2.1,t37.2.2)))))) else ((infl_fail.f t12.2.2 3).bind fun t14=>(some ((t9.1 == 1),o,t12.2.1,t14)))))))
def infl_Raw.l0:Nat → ByteArray → Int → List Int → Int → Int → Option (ByteArray × Int × Int)
 |0,_,_,_,_,_=>none
 |k+1,x7000,x7001,x7002,x7003,x7004=>(infl_block.f k x7000 x7001 x7002 x7003 x7004).bind fun t19=>(if t19.1=true then (if t19.2.2.2=0 then (some (strOfNums t19.2.1,wrap64 (Int.tdiv (wrap64 (t19.2.2.1+7)) 8),0)) else (some ((⟨#[]⟩:ByteArray),0,t19.2.2.2))) else (if t19.2.2.2=0 then (infl_Raw.l0 k x7000 t19.2.2.1 t19.2.1 x7003 t19.2.2.2) else (if t19.2.2.2=0 then (some (strOfNums t19.2.1,wrap64 (Int.tdiv (wrap64 (t19.2.2.1+7)) 8),0)) else (some ((⟨#[]⟩:ByteArray),0,t19.2.2.2)))))
def infl_Raw.f (k:Nat) (a0:ByteArray) (a1:Int):Option (ByteArray × Int × Int):=if a1 < 0 then (some ((⟨#[]⟩:ByteArray),0,1)) else (if a1 > 262144 then (some ((⟨#[]⟩:ByteArray),0,1)) else (infl_Raw.l0 k a0 0 ([]:List Int) a1 0))
end Go.Proofs.Ytpbhkdamkbopkaa.GInfl
