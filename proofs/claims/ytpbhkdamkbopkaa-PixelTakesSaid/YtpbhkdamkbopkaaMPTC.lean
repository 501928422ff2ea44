/- Parts of the proof, glued by a program of this session (wip/tools/claimfit.py). -/
import Derived.Test.YtpbhkdamkbopkaaMPTB
set_option linter.unusedVariables false
set_option linter.unusedSimpArgs false
set_option linter.unusedSectionVars false
namespace Go.Proofs.Ytpbhkdamkbopkaa.Rs
open Go Go.RowKit Rf YtpbhkdamkbopkaaW.PrintWords
variable {P:Program} {KT:TypeId → KD} {T:TypeId → Option TE} {Γ:Gh} {ν:Nu} {h h':List (SR KT)} {A:AW} {ρe:Operand → Value} {o:Op} {v:SV} {k:Nat × Nat} {cs:List Prop}
theorem snew_inv {row:SRow KT} {w:Nat → SC} {q:Nat × Nat} {c:List Prop} (e:snew row w q c h=some (v,h',k,cs)):v=c1 (w h.length)∧h'=h ++ [⟨row,h.length,true⟩]∧k=q∧cs=c:=by
 unfold snew at e;rw [hlen_is,happ_is] at e;simp only [Option.some.injEq,Prod.mk.injEq,Nat.zero_add] at e;obtain ⟨rfl,rfl,rfl,rfl⟩:=e;exact ⟨rfl,rfl,rfl,rfl⟩
theorem new_ok {l : List Value} {row : SRow KT} {cap : Nat} {u : Value} {w : Nat → SC} (s : SI Γ ν h A) (ha : ∀ x : Oper, x.op = o → aop P ρe x A = some (.val u (A.newRow l)))
  (hr:∀ ν',Rs.Ext ν ν' → RowOk ν' (A.newRow l) row (.at_ A.next 0 cap)) (hv:∀ ν':Nu,ν' h.length=some (.at_ A.next 0 cap) → DC ν' (w h.length) u) (hk:A.ts=0 → KR (KT:=KT) ν h k (kindOf ρe o A (A.newRow l))∧k.1 ≠ 2∧k.1 ≠ 3) :
  OpOk P Γ ν h A ρe o (c1 (w h.length)) (h ++ [⟨row,h.length,true⟩]) k:=by
 have e:=nup_ext s.emb.out (.at_ A.next 0 cap);refine ⟨_,u,A.newRow l,_,ha,.inl rfl,hv _ (nup_same _ _),s.new _ rfl cap row (hr _ e),e,hx_app _,fun q=>?_⟩;exact (hk q).1.up e (hx_app _)
theorem get_newRow (l:List Value):(A.newRow l).heap.get A.next=some (.row ⟨mkCells l 0 .e,l.length,false⟩):=by
 show (A.new _).heap.get A.next=_;rw [nget_new,if_pos rfl]
theorem box_row {cells:List SC} {l:List Value} (d:DL ν cells l) (hf:∀ x ∈ cells,x.flat=true) {ν':Nu} (e:Rs.Ext ν ν'):RowOk (KT:=KT) ν' (A.newRow l) (.box cells) (.at_ A.next 0 0) :=
 ⟨hf,_,_,rfl,get_newRow l,d.len.symm,rfl,CellsAt.mk (d.ext e) _ _⟩
theorem own_row {t:TypeId} {xs:List (KT t).α} {l:List Value} (d:DL ν (xs.flatMap (KT t).enc) l) {ν':Nu} (e:Rs.Ext ν ν'):RowOk (KT:=KT) ν' (A.newRow l) (.own t xs) (.at_ A.next 0 (KT t).sz) :=
 .inr ⟨_,_,rfl,get_newRow l,by rw [← flat_len];exact d.len.symm,rfl,arr_mk _ _ _ (d.ext e) _ _⟩
theorem kind1 {l : List Value} (ho : pureOp o = false) (h1 : (match o with
  |.alloc _ | .box _ _ | .buildSlice _ _ _ | .makeSlice _ _ _ | .makeMap _ _=>true
  |_=>false)=true):kindOf ρe o A (A.newRow l)=(1,0):=by
 unfold kindOf;rw [ho];simp only [cond_false]
 split at h1 <;> first | rfl | cases h1
theorem cells_ok {x:SV} {u:Value} {l:List SC} (e:cells1 x=some l) (d:DV ν x u):u.cells.toList.all flatCell=true:=by
 obtain ⟨h1,h2⟩:=cells1_of e d;exact DL.flat h2 h1
theorem box_ok {t:TypeId} {x:Operand} {ρ:Nat → SV} (s:SI Γ ν h A) (d:∀ x,DV ν (sev ρ x) (ρe x)) (e:sbox (sev ρ x) h=some (v,h',k,cs)):OpOk P Γ ν h A ρe (.box t x) v h' k:=by
 unfold sbox at e
 split at e
 ·rename_i l hl;obtain ⟨rfl,rfl,rfl,rfl⟩:=snew_inv e;obtain ⟨d1,d2⟩:=cells1_of hl (d x);refine new_ok (l:=(ρe x).cells.toList) (cap:=0) (u:=.pointer (some ⟨A.next,0,none⟩)) (w:=fun b=>.ptr b 0 0 0) s (fun z hz=>?_) (fun ν' e=>box_row d1 d2 e) (fun ν' q=>⟨_,_,_,q,by simp⟩) (fun _=>⟨?_,by decide,by decide⟩)
  ·unfold aop;rw [hz];simp only [cells_ok hl (d x),cond_true]
  ·rw [kind1 rfl rfl];exact .inr rfl
 ·cases e
theorem kdec_inv {K:KD} {l:List SC} {f:K.α → SOut KT} {r} (e:kdec K l f=some r):∃ x,K.dec l=some x∧K.enc x=l∧f x=some r:=by
 cases K with
 |mk α sz enc dec rd wt lim str pos len fr dec_is rd_is wt_is str_is =>
  unfold kdec at e;simp only at e ⊢
  split at e
  ·rename_i x hx;exact ⟨x,hx,dec_is l x hx,e⟩
  ·cases e
theorem ksz_is (K:KD) (f:Nat → SOut KT):ksz K f=f K.sz:=by cases K;rfl
theorem klim_is (K:KD) (f:Nat → SOut KT):klim K f=f K.lim:=by cases K;rfl
theorem klen_is (K:KD) (xs:List K.α) (f:Nat → SOut KT):klen K xs f=f xs.length:=by cases K;rfl
theorem rep_flat (K:KD) (n:Nat) (z:K.α):(List.replicate n z).flatMap K.enc=(List.replicate n (K.enc z)).flatten:=by
 induction n with
 |zero=>rfl
 |succ n ih=>rw [List.replicate_succ,List.flatMap_cons,ih,List.replicate_succ,List.flatten_cons]
theorem alloc_ok (tk:TOK P KT T) {t:TypeId} (s:SI Γ ν h A) (e:salloc T t h=some (v,h',k,cs)):OpOk P Γ ν h A ρe (.alloc t) v h' k:=by
 unfold salloc at e
 split at e
 ·rename_i te hT
  have fin : ∀ (z : Value) (row : SRow KT) (cap : Nat) (w : Nat → SC), zeroOf P t = some z → z.cells.toList.all flatCell = true → (∀ ν', Rs.Ext ν ν' → RowOk ν' (A.newRow z.cells.toList) row (.at_ A.next 0 cap)) → (∀ ν' : Nu, ν' h.length = some (.at_ A.next 0 cap) → DC ν' (w h.length) (.pointer (some ⟨A.next, 0, none⟩))) →
    OpOk P Γ ν h A ρe (.alloc t) (c1 (w h.length)) (h ++ [⟨row,h.length,true⟩]) (1,0):=fun z row cap w h1 h2 h3 h4=>by
   refine new_ok (l:=z.cells.toList) (cap:=cap) (u:=.pointer (some ⟨A.next,0,none⟩)) (w:=w) s (fun q hq=>?_) h3 h4 (fun _=>⟨?_,by decide,by decide⟩)
   ·unfold aop;rw [hq];simp only [h1,h2,cond_true]
   ·rw [kind1 rfl rfl];exact .inr rfl
  obtain ⟨z,z1,z2,z3⟩:=tk.zero hT
  have plain:snew (.box te.zero) (fun b=>.ptr b 0 0 0) (1,0) [] h=some (v,h',k,cs) → OpOk P Γ ν h A ρe (.alloc t) v h' k:=fun e=>by
   obtain ⟨rfl,rfl,rfl,rfl⟩:=snew_inv e;exact fin z _ 0 (fun b=>.ptr b 0 0 0) z1 (DL.flat z3 (z2 ν)) (fun ν' q=>box_row (z2 ν) z3 q) (fun ν' q=>⟨_,_,_,q,by simp⟩)
  split at e
  ·rename_i n el hti;obtain ⟨hu,hE,hz⟩:=tk.array hT hti
   split at e
   ·rename_i f hf;obtain ⟨y,y1,y2,e⟩:=kdec_inv e;rw [ksz_is] at e;obtain ⟨rfl,rfl,rfl,rfl⟩:=snew_inv e;obtain ⟨z',w1,w2,w3⟩:=hz f hf;refine fin z' _ (KT el).sz (fun b=>.ptr b 0 (KT el).sz 0) w1 (DL.flat w3 (w2 ν)) (fun ν' q=>own_row (ν:=ν) ?_ q) (fun ν' q=>⟨_,_,_,q,by simp⟩);rw [rep_flat,y2];exact w2 ν
   ·cases e
  ·exact plain e
 ·cases e
theorem fold_size:∀ (l:List (Value × Nat)) (off:Nat) (C:Array Value),(l.foldl (fun cs (x:Value × Nat)=>cs.setIfInBounds (off+x.2) x.1) C).size=C.size
 |[],_,_=>rfl
 |x :: l,off,C=>by simp only [List.foldl_cons];rw [fold_size l];simp
theorem fold_get:∀ (l:List Value) (k off:Nat) (C:Array Value),off+k+l.length≤C.size → ∀ i,((l.zipIdx k).foldl (fun cs (x:Value × Nat)=>cs.setIfInBounds (off+x.2) x.1) C)[i]?=if off+k≤i∧i < off+k+l.length then l[i - (off+k)]? else C[i]?
 |[],k,off,C,_,i=>by rw [if_neg (by simp only [List.length_nil];omega)];rfl
 |v :: l,k,off,C,hb,i=>by
  simp only [List.length_cons] at hb;simp only [List.zipIdx_cons,List.foldl_cons];rw [fold_get l (k+1) off _ (by simp;omega) i];simp only [List.length_cons];by_cases h1:off+(k+1)≤i∧i < off+(k+1)+l.length
  ·rw [if_pos h1,if_pos (by omega),show i - (off+k)=(i - (off+(k+1)))+1 by omega,List.getElem?_cons_succ]
  ·rw [if_neg h1,Array.getElem?_setIfInBounds];by_cases h2:off+k=i
   ·subst h2;rw [if_pos rfl,if_pos (by omega),if_pos (by omega)];simp
   ·rw [if_neg h2,if_neg (by omega)]
def filled (C:Array Value) (off:Nat) (v:Value):Array Value:=v.cells.zipIdx.foldl (fun cs (x:Value × Nat)=>cs.setIfInBounds (off+x.2) x.1) C
theorem filled_get {C:Array Value} {off:Nat} {v:Value} (hb:off+v.cells.size≤C.size) (i:Nat):(filled C off v)[i]?=if off≤i∧i < off+v.cells.size then v.cells[i - off]? else C[i]?:=by
 unfold filled;rw [← Array.foldl_toList,Array.toList_zipIdx,fold_get v.cells.toList 0 off C (by simpa using hb) i];simp
theorem filled_size (C:Array Value) (off:Nat) (v:Value):(filled C off v).size=C.size:=by
 unfold filled;rw [← Array.foldl_toList];exact fold_size _ _ _
theorem filled_DL {l:List SC} {C:Array Value} {off:Nat} {u:Value} {ys:List SC} (d:DL ν l C.toList) (dy:DL ν ys u.cells.toList) (hb:off+ys.length≤l.length):DL ν (cw l off ys) (filled C off u).toList:=by
 have hl:=d.len;have hy:=dy.len;simp only [Array.length_toList] at hl hy;refine DL.of (by rw [cw_len,hl,Array.length_toList,filled_size]) fun j x w a b=>?_;rw [cw_get l off ys hb j] at a;rw [Array.getElem?_toList,filled_get (by omega) j] at b;by_cases hj:off≤j∧j < off+ys.length
 ·rw [if_pos hj] at a;rw [if_pos (by omega)] at b;exact dy.at a (by simpa using b)
 ·rw [if_neg hj] at a;rw [if_neg (by omega)] at b;exact d.at a (by simpa using b)
theorem cw_mem:∀ (l:List SC) (j:Nat) (ys:List SC) (x:SC),x ∈ cw l j ys → x ∈ l ∨ x ∈ ys:=by
 intro l
 induction l with
 |nil=>intro j ys x hx;cases ys <;> (unfold cw at hx;exact .inl hx)
 |cons y l ih =>
  intro j ys x hx;cases ys with
  |nil=>unfold cw at hx;exact .inl hx
  |cons z ys =>
   cases j with
   |zero =>
    unfold cw at hx;cases hx with
    |head=>exact .inr (List.mem_cons_self ..)
    |tail _ hx =>
     rcases ih 0 ys x hx with q | q
     ·exact .inl (List.mem_cons_of_mem _ q)
     ·exact .inr (List.mem_cons_of_mem _ q)
   |succ j =>
    unfold cw at hx;cases hx with
    |head=>exact .inl (List.mem_cons_self ..)
    |tail _ hx =>
     rcases ih j (z :: ys) x hx with q | q
     ·exact .inl (List.mem_cons_of_mem _ q)
     ·exact .inr q
theorem fill_one {pl:Nat → Option (Nat × Nat)} {C:Array Value} {i off n:Nat} {u:Value} {qs:List (Nat × Value)} (hp:pl i=some (off,n)) (h1:u.cells.size=n) (h2:off+n≤C.size):Instr.fill pl C ((i,u) :: qs)=Instr.fill pl (filled C off u) qs:=by
 rw [Instr.fill];rw [hp];simp only;rw [if_neg (by simp;omega)];rfl
def PRel (ν:Nu):List (Nat × SV) → List (Nat × Value) → Prop
 |[],[]=>True
 |a :: l,b :: m=>a.1=b.1∧DV ν a.2 b.2∧PRel ν l m
 |_,_=>False
theorem spart_rel {ρ:Nat → SV} (d:∀ x,DV ν (sev ρ x) (ρe x)):∀ (ps:List (Nat × Operand)),PRel ν (spart ρ ps) (ps.map fun (i,x)=>(i,ρe x))
 |[]=>trivial
 |(i,x) :: ps=>⟨rfl,d x,spart_rel d ps⟩
theorem sfill_ok {pl : Nat → Option (Nat × Nat)} {f : List SC → SOut KT} {r} : ∀ (ps : List (Nat × SV)) (qs : List (Nat × Value)) (l : List SC) (C : Array Value), PRel ν ps qs → DL ν l C.toList → (∀ x ∈ l, x.flat = true) → sfill pl ps l f = some r →
  ∃ l' C',f l'=some r∧Instr.fill pl C qs=some C'∧DL ν l' C'.toList∧(∀ x ∈ l',x.flat=true)
 |[],[],l,C,_,d,hf,e=>⟨l,C,e,rfl,d,hf⟩
 |[],_ :: _,_,_,h,_,_,_=>h.elim
 |_ :: _,[],_,_,h,_,_,_=>h.elim
 |(i,x) :: ps,(i',u) :: qs,l,C,hp,d,hf,e=>by
  obtain ⟨rfl,hv,ht⟩:=hp;unfold sfill at e
  split at e
  ·rename_i off n ys h1 h2;cases hc:(Nat.beq ys.length n && Nat.ble (off+n) l.length) with
   |false=>rw [hc] at e;cases e
   |true =>
    rw [hc,cond_true,cput_is] at e;simp only [Bool.and_eq_true] at hc;have q1:=Nat.eq_of_beq_eq_true hc.1;have q2:=Nat.le_of_ble_eq_true hc.2;obtain ⟨d1,d2⟩:=cells1_of h2 hv;have hl:=d.len;have hy:=d1.len;simp only [Array.length_toList] at hl hy
    obtain ⟨l',C',g1,g2,g3,g4⟩:=sfill_ok ps qs (cw l off ys) (filled C off u) ht (filled_DL d d1 (by omega)) (fun x hx=>by
     rcases cw_mem _ _ _ _ hx with q | q
     ·exact hf x q
     ·exact d2 x q) e
    exact ⟨l',C',g1,by rw [fill_one h1 (by omega) (by omega)];exact g2,g3,g4⟩
  ·cases e
theorem fsAt_is:∀ (l:List (Nat × Nat × Bool)) (i:Nat),fsAt l i=l[i]?
 |[],_=>by simp [fsAt]
 |_ :: _,0=>by simp [fsAt]
 |_ :: l,i+1=>by simp [fsAt,fsAt_is l i]
theorem places:∀ {l:List Field} {m:List (Nat × Nat × Bool)},fchk P l m=true → l.mapM (fun f=>(sz P f.type).map fun n=>(f.offset,n))=some (m.map fun (o,n,_)=>(o,n))
 |[],[],_=>rfl
 |[],_ :: _,h=>by cases h
 |_ :: _,[],h=>by cases h
 |f :: l,(o,n,a) :: m,h=>by
  have h0:=fchk_is h 0;simp only [List.getElem?_cons_zero,fsAt] at h0;unfold fchk at h;simp only [Bool.and_eq_true] at h;rw [List.mapM_cons,h0.2.2,places h.2,h0.1];rfl
theorem build_ok (tk:TOK P KT T) {t:TypeId} {ps:Array (Nat × Operand)} {ρ:Nat → SV} (s:SI Γ ν h A) (d:∀ x,DV ν (sev ρ x) (ρe x)) (e:sbuild T t (spart ρ ps.toList) h=some (v,h',k,cs)):OpOk P Γ ν h A ρe (.build t ps) v h' k:=by
 unfold sbuild at e
 split at e
 ·rename_i te hT
  split at e
  ·rename_i fs hti;obtain ⟨F,hu,hF⟩:=tk.struct hT hti;obtain ⟨z,z1,z2,z3⟩:=tk.zero hT;obtain ⟨l',C',g1,g2,g3,g4⟩:=sfill_ok (pl:=fun i=>match fsAt fs i with | some (o,n,_)=>some (o,n) | none=>none) _ _ _ _ (spart_rel d ps.toList) (z2 ν) z3 e;obtain ⟨rfl,rfl,rfl,rfl⟩:=sout_inv g1;refine OpOk.pure s (u:=.agg C') (fun q hq=>?_) ⟨_,rfl,g3⟩ rfl;unfold aop;rw [hq];simp only
   have:abuild P t (mapN ρe ps).toList=some (.agg C'):=by
    unfold abuild;simp only [z1,hu,places hF];rw [show (mapN ρe ps).toList=ps.toList.map fun (i,x)=>(i,ρe x) by unfold mapN;simp]
    have:(fun i=>(List.map (fun (x:Nat × Nat × Bool)=>(x.1,x.2.1)) fs)[i]?)=fun i=>match fsAt fs i with | some (o,n,_)=>some (o,n) | none=>none:=by
     funext i
     rw [fsAt_is,List.getElem?_map];cases fs[i]? <;> rfl
    show (Instr.fill (fun i=>(List.map (fun (x:Nat × Nat × Bool)=>(x.1,x.2.1)) fs)[i]?) _ _).map Value.agg=_;rw [this,g2];rfl
   rw [this];rfl
  ·cases e
 ·cases e
theorem flat_DL (K:KD):∀ (xs:List K.α) (l:List Value),l.length=xs.length*K.sz → (∀ (a:Nat) (x:K.α),xs[a]?=some x → ∀ (j:Nat) (c:SC),(K.enc x)[j]?=some c → ∃ v,l[a*K.sz+j]?=some v∧DC ν c v) → DL ν (xs.flatMap K.enc) l
 |[],l,hl,_=>by
  simp only [List.length_nil,Nat.zero_mul] at hl;have:l=[]:=List.eq_nil_of_length_eq_zero hl;subst this;trivial
 |x :: xs,l,hl,k=>by
  rw [List.flatMap_cons];rw [List.length_cons,Nat.add_mul,Nat.one_mul] at hl;have e:l=l.take K.sz ++ l.drop K.sz:=(List.take_append_drop _ _).symm;rw [e];refine DL.app (DL.of (by rw [K.len,List.length_take];omega) fun j c w a b=>?_) (flat_DL K xs _ (by rw [List.length_drop];omega) fun a y hy j c q=>?_)
  ·obtain ⟨w',q1,q2⟩:=k 0 x rfl j c a;rw [Nat.zero_mul,Nat.zero_add] at q1;(have hj:j < K.sz:=by rw [← K.len x];exact (List.getElem?_eq_some_iff.1 a).1);rw [List.getElem?_take,if_pos hj,q1] at b;cases b;exact q2
  ·obtain ⟨w',q1,q2⟩:=k (a+1) y (by simpa using hy) j c q;refine ⟨w',?_,q2⟩;rw [List.getElem?_drop,← q1]
   congr 1
   rw [Nat.add_mul];omega
theorem selems_ok {K : KD} {f : List K.α → SOut KT} {r} {n : Nat} : ∀ (ps : List (Nat × SV)) (qs : List (Nat × Value)) (i : Nat) (f : List K.α → SOut KT) (C : Array Value), PRel ν ps qs → C.size = n * K.sz → selems K ps i n f = some r →
  ∃ xs C',f xs=some r∧i+xs.length=n∧Instr.fill (fun i=>some (i*K.sz,K.sz)) C qs=some C'∧C'.size=C.size∧(∀ j,j < i*K.sz → C'[j]?=C[j]?) ∧
   (∀ (a:Nat) (x:K.α),xs[a]?=some x → ∀ (j:Nat) (c:SC),(K.enc x)[j]?=some c → c.flat=true∧∃ v,C'[(i+a)*K.sz+j]?=some v∧DC ν c v)
 |[],[],i,f,C,_,hC,e=>by
  unfold selems at e;cases hi:Nat.beq i n with
  |false=>rw [hi] at e;cases e
  |true =>
   rw [hi] at e;exact ⟨[],C,e,by rw [Nat.eq_of_beq_eq_true hi];rfl,rfl,rfl,fun _ _=>rfl,fun a x q=>by simp at q⟩
 |[],_ :: _,_,_,_,h,_,_=>h.elim
 |_ :: _,[],_,_,_,h,_,_=>h.elim
 |(i',x) :: ps,(i2,u) :: qs,i,f,C,hp,hC,e=>by
  obtain ⟨hi2,hv,ht⟩:=hp;simp only at hi2;subst hi2;unfold selems at e;cases hi:Nat.beq i i' with
  |false=>rw [hi] at e;cases e
  |true =>
   obtain rfl:=Nat.eq_of_beq_eq_true hi;rw [hi] at e;simp only [Bool.not_true,cond_false] at e
   split at e
   ·rename_i l hl;obtain ⟨d1,d2⟩:=cells1_of hl hv;obtain ⟨y,y1,y2,e⟩:=kdec_inv e;(have hlen:l.length=K.sz:=by rw [← y2];exact K.len y);have hus:=d1.len;simp only [Array.length_toList] at hus;(have hfs:(filled C (i*K.sz) u).size=n*K.sz:=by rw [filled_size];exact hC);obtain ⟨xs,C',g1,g2,g3,g4,g5,g6⟩:=selems_ok (f:=f) ps qs (i+1) _ (filled C (i*K.sz) u) ht hfs e
    have hin:i*K.sz+K.sz≤C.size:=by
     rw [hC,← g2,Nat.add_mul,Nat.add_mul];omega
    refine ⟨y :: xs,C',g1,by simp only [List.length_cons];omega,?_,by rw [g4,filled_size],fun j hj=>?_,fun a z hz j c q=>?_⟩
    ·rw [fill_one rfl (by omega) hin];exact g3
    ·rw [g5 j (by rw [Nat.add_mul];omega),filled_get (by omega) j,if_neg (by omega)]
    ·cases a with
     |zero =>
      simp at hz;subst hz;rw [y2] at q;have hj:j < l.length:=(List.getElem?_eq_some_iff.1 q).1;obtain ⟨w,w1,w2⟩:=d1.get q;refine ⟨d2 c (List.mem_of_getElem? q),w,?_,w2⟩;rw [Nat.add_zero,g5 _ (by rw [Nat.add_mul];omega),filled_get (by omega),if_pos (by omega),show i*K.sz+j - i*K.sz=j by omega]
      simpa using w1
     |succ a =>
      obtain ⟨q1,w,q2,q3⟩:=g6 a z (by simpa using hz) j c q;exact ⟨q1,w,by rw [show i+(a+1)=i+1+a by omega];exact q2,q3⟩
   ·cases e
theorem buildSlice_ok (tk:TOK P KT T) {t:TypeId} {n:Nat} {ps:Array (Nat × Operand)} {ρ:Nat → SV} (s:SI Γ ν h A) (d:∀ x,DV ν (sev ρ x) (ρe x)) (e:sbuildSlice T t n (spart ρ ps.toList) h=some (v,h',k,cs)):OpOk P Γ ν h A ρe (.buildSlice t n ps) v h' k:=by
 unfold sbuildSlice at e
 split at e
 ·rename_i te hT
  split at e
  ·rename_i el hti;obtain ⟨hu,hE⟩:=tk.slice hT hti;cases hc:(Nat.blt 0 n && Nat.ble (n*(KT el).sz) 1000000) with
   |false=>rw [hc] at e;cases e
   |true =>
    rw [hc,cond_true] at e;simp only [Bool.and_eq_true] at hc;have hle:=Nat.le_of_ble_eq_true hc.2;have hn:0 < n:=Nat.le_of_ble_eq_true hc.1;have hfit:=hE.fits;unfold zeroFits at hfit
    split at hfit
    ·rename_i z hz;obtain ⟨xs,C',g1,g2,g3,g4,g5,g6⟩:=selems_ok (f:=fun _=>none) _ _ 0 _ ((Array.range (n*(KT el).sz)).map (z.cells[· % z.cells.size]!)) (spart_rel d ps.toList) (by simp) e;obtain ⟨rfl,rfl,rfl,rfl⟩:=snew_inv g1
     have hsz:C'.size=xs.length*(KT el).sz:=by
      rw [g4];simp;rw [← g2];simp
     have hDL:DL ν (xs.flatMap (KT el).enc) C'.toList:=flat_DL _ xs _ (by simpa using hsz) fun a x hx j c q=>by
      obtain ⟨_,w,q1,q2⟩:=g6 a x hx j c q;exact ⟨w,by simpa using q1,q2⟩
     have hflat:C'.toList.all flatCell=true:=DL.flat (fun c hc=>free_flat (flat_free _ xs c hc)) hDL;refine new_ok (l:=C'.toList) (cap:=(KT el).sz) (u:=.slice (some ⟨A.next,0,none⟩) n (KT el).sz) (w:=fun b=>.sl b n) s (fun q hq=>?_) (fun ν' e=>own_row hDL e) (fun ν' q=>.inr (.inr ⟨_,_,_,q,rfl⟩)) (fun _=>⟨?_,by decide,by decide⟩)
     ·unfold aop;rw [hq];simp only;unfold abuildSlice;simp only [hu,hE.sz,hz];rw [show Nat.blt 0 (KT el).sz=true from Nat.ble_eq_true_of_le (KT el).pos,hc.2];rw [show (mapN ρe ps).toList=ps.toList.map fun (i,x)=>(i,ρe x) by unfold mapN;simp];simp only [Bool.and_self,cond_true,g3,hflat]
     ·rw [kind1 rfl rfl];exact .inr rfl
    ·cases hfit
  ·cases e
 ·cases e
theorem makeSlice_ok (tk:TOK P KT T) {t:TypeId} {x y:Operand} {ρ:Nat → SV} (s:SI Γ ν h A) (d:∀ x,DV ν (sev ρ x) (ρe x)) (e:smakeSlice T t (sev ρ x) (sev ρ y) h=some (v,h',k,cs)) (hc:AllP cs):OpOk P Γ ν h A ρe (.makeSlice t x y) v h' k:=by
 unfold smakeSlice at e
 split at e
 ·rename_i te q1 n q2 m hT hx hy
  split at e
  ·rename_i el hti;obtain ⟨hu,hE⟩:=tk.slice hT hti
   split at e
   ·rename_i f hf;obtain ⟨y0,y1,y2,e⟩:=kdec_inv e;rw [klim_is,klen_is] at e;obtain ⟨rfl,rfl,rfl,rfl⟩:=snew_inv e;obtain ⟨h0,h1,h2⟩:0≤n∧n=m∧n≤((2*(KT el).lim:Nat):Int):=hc;subst h1;obtain ⟨N,rfl⟩:∃ N:Nat,n=N:=⟨n.toNat,by omega⟩;(have ex:ρe x=.int q1 (N:Int):=by have:=d x;rw [hx] at this;exact this);(have ey:ρe y=.int q2 (N:Int):=by have:=d y;rw [hy] at this;exact this);obtain ⟨i,i1,i2,i3,i4⟩:=hE.ex;obtain ⟨z,z1,z2,z3⟩:=tk.zero hf;have hzs:=(z2 ν).len;rw [← y2,(KT el).len,Array.length_toList] at hzs;(have hlim:N≤2*(KT el).lim:=by omega)
    have hb1:i.bytes*N≤281474976710656:=by
     have:i.bytes*N≤i.bytes*(2*(KT el).lim):=Nat.mul_le_mul_left _ hlim;rw [Nat.mul_comm i.bytes (2*(KT el).lim)] at this;omega
    have hDL:DL ν ((List.replicate N y0).flatMap (KT el).enc) ((List.range (N*i.size)).map (z.cells[· % z.cells.size]!)):=by
     refine flat_DL _ _ _ (by simp [i2]) fun a w hw j c q=>?_;(have ha:a < N:=by have:=(List.getElem?_eq_some_iff.1 hw).1;simpa using this);rw [List.getElem?_replicate,if_pos ha] at hw;cases hw;(have hj:j < (KT el).sz:=by rw [← (KT el).len y0];exact (List.getElem?_eq_some_iff.1 q).1);rw [y2] at q;obtain ⟨w,w1,w2⟩:=(z2 ν).get q;refine ⟨w,?_,w2⟩
     have hlt:a*(KT el).sz+j < N*i.size:=by
      rw [i2];have:(a+1)*(KT el).sz≤N*(KT el).sz:=Nat.mul_le_mul_right _ ha;rw [Nat.add_mul] at this;omega
     rw [List.getElem?_map,List.getElem?_range hlt];simp only [Option.map_some,Option.some.injEq];rw [show (a*(KT el).sz+j) % z.cells.size=j by rw [← hzs,Nat.add_comm,Nat.add_mul_mod_self_right,Nat.mod_eq_of_lt hj]];(have:z.cells[j]?=some w:=by simpa using w1);rw [getElem!_def,this]
    refine new_ok (l:=(List.range (N*i.size)).map (z.cells[· % z.cells.size]!)) (cap:=(KT el).sz) (u:=.slice (some ⟨A.next,0,none⟩) N i.size) (w:=fun b=>.sl b (List.replicate (N:Int).toNat y0).length) s (fun q hq=>?_) (fun ν' e=>by
     have:=own_row (A:=A) (KT:=KT) hDL e
     simpa using this) (fun ν' q=>.inr (.inr ⟨_,_,_,q,by rw [i2];simp⟩)) (fun _=>⟨?_,by decide,by decide⟩)
    ·unfold aop;rw [hq];simp only [ex,ey];unfold amakeSlice;have e1:∀ q:IntKind,asN (.int q (N:Int))=some N:=fun q=>rfl;simp only [hu,e1,i1,z1];have hpos:=(KT el).pos
     have hN:N≤281474976710656:=by
      have:1*N≤i.bytes*N:=Nat.mul_le_mul_right _ (Nat.pos_of_ne_zero i3);omega
     rw [show Nat.blt 0 z.cells.size=true from Nat.ble_eq_true_of_le (by omega),show Nat.beq z.cells.size i.size=true from Tr.beqt (by omega),Nat.ble_eq_true_of_le (Nat.le_refl N),Nat.ble_eq_true_of_le hb1,Nat.ble_eq_true_of_le hN];rfl
    ·rw [kind1 rfl rfl];exact .inr rfl
   ·cases e
  ·cases e
 ·cases e
theorem len_ok (tk:TOK P KT T) {ts:Array TypeId} {x:Operand} {ρ:Nat → SV} (s:SI Γ ν h A) (d:∀ x,DV ν (sev ρ x) (ρe x)) (e:slen T ts (sev ρ x) h=some (v,h',k,cs)):OpOk P Γ ν h A ρe (.call ⟨.builtin .len,⟨[x]⟩,ts⟩) v h' k:=by
 unfold slen at e
 have fin:∀ (u:Value),alen P ts (ρe x)=some u → DV ν v u → h'=h → k=(0,0) → OpOk P Γ ν h A ρe (.call ⟨.builtin .len,⟨[x]⟩,ts⟩) v h' k:=fun u e1 e2 e3 e4=>by
  subst e3;subst e4;refine OpOk.pure s (fun z hz=>?_) e2 rfl;unfold aop;rw [hz];simp only [abuiltin,List.map_toArray,List.map_cons,List.map_nil,e1,Option.map_some]
 split at e
 ·rename_i t
  split at e
  ·rename_i b hT hx;obtain ⟨rfl,rfl,rfl,rfl⟩:=sout_inv e;have t2:=tk.str hT rfl;(have ex:ρe x=.string b:=by have:=d x;rw [hx] at this;exact this);refine fin (goInt b.size) ?_ rfl rfl rfl;unfold alen;simp only [List.getElem?_toArray,List.getElem?_cons_zero,t2,ex]
  ·rename_i el _ _ b n hT hx;obtain ⟨rfl,rfl,rfl,rfl⟩:=sout_inv e;have t2:=(tk.slice hT rfl).1;(have dx:DC ν (.sl b n) (ρe x):=by have:=d x;rw [hx] at this;exact this);refine fin (goInt n) ?_ rfl rfl rfl;unfold alen;simp only [List.getElem?_toArray,List.getElem?_cons_zero,t2]
   rcases dx with ⟨_,rfl,q⟩ | ⟨_,_,_,rfl,q⟩ | ⟨_,_,_,_,q⟩ <;> rw [q]
  ·rename_i el _ _ hT hx;obtain ⟨rfl,rfl,rfl,rfl⟩:=sout_inv e;have t2:=(tk.slice hT rfl).1;(have dx:ρe x=.slice none 0 0:=by have:=d x;rw [hx] at this;exact this);refine fin (goInt 0) ?_ rfl rfl rfl;unfold alen;simp only [List.getElem?_toArray,List.getElem?_cons_zero,t2,dx];rfl
  ·cases e
 ·cases e
end Go.Proofs.Ytpbhkdamkbopkaa.Rs
namespace Go.Proofs.Ytpbhkdamkbopkaa.Rs
open Go Go.RowKit Rf YtpbhkdamkbopkaaW.PrintWords
variable {P:Program} {KT:TypeId → KD} {T:TypeId → Option TE} {Γ:Gh} {ν:Nu} {h h':List (SR KT)} {A:AW} {ρe:Operand → Value} {o:Op} {v:SV} {k:Nat × Nat} {cs:List Prop}
theorem row_is {b:Nat} {r:Row} (e:A.heap.get b=some (.row r)):A.row? b=some r:=by unfold AW.row?;rw [e]
theorem cells_at {blk off : Nat} {r : Row} (hg : A.heap.get blk = some (.row r)) (ys : List SC) (hr : ∀ (j : Nat) (y : SC), ys[j]? = some y → ∃ v, r.cells.get (off + j) = some v ∧ DC ν y v) (hle : off + ys.length ≤ r.size) :
  ∃ l,A.cells? ⟨blk,off,none⟩ ys.length=some l∧DL ν ys l:=by
 obtain ⟨l,h1,h2⟩:=read_ok ys off hr;refine ⟨l,?_,h2⟩;unfold AW.cells?;simp only [row_is hg,Nat.ble_eq_true_of_le hle,cond_true];exact h1
theorem load_at (tk : TOK P KT T) {t : TypeId} {e : TE} (hT : T t = some e) {l : List SC} {j root blk base : Nat} {r : Row} {cs0 : List Prop} (hg : A.heap.get blk = some (.row r)) (hc : CellsAt ν r base l) (hle : base + l.length ≤ r.size) (q : sload1 e l j root cs0 h = some (v, h', k, cs)) :
  ∃ u,A.load P t ⟨blk,base+j,none⟩=some u∧DV ν v u∧h'=h∧k=(2,root)∧cs=cs0:=by
 unfold sload1 at q;have hl:=(tk.lay hT).1
 have part:∀ n,j+n≤l.length → ∃ m,A.cells? ⟨blk,base+j,none⟩ n=some m∧DL ν ((l.drop j).take n) m:=fun n hn=>by
  have e:((l.drop j).take n).length=n:=by rw [List.length_take,List.length_drop];omega
  obtain ⟨m,m1,m2⟩:=cells_at (A:=A) (ν:=ν) hg ((l.drop j).take n) (off:=base+j) (fun i y hy=>by
   rw [List.getElem?_take] at hy
   split at hy
   ·rw [List.getElem?_drop] at hy;obtain ⟨w,w1,w2⟩:=hc _ _ hy;exact ⟨w,by rw [Nat.add_assoc];exact w1,w2⟩
   ·cases hy) (by rw [e];omega)
  rw [e] at m1;exact ⟨m,m1,m2⟩
 split at q
 ·rename_i ha;rw [ctake_is] at q
  split at q
  ·rename_i hn;simp only [Option.some.injEq,Prod.mk.injEq] at q;obtain ⟨rfl,rfl,rfl,rfl⟩:=q;obtain ⟨m,m1,m2⟩:=part _ hn;refine ⟨.agg m.toArray,?_,⟨_,rfl,by simpa using m2⟩,rfl,rfl,rfl⟩;unfold AW.load;rw [hl,ha];simp only [m1,Option.map_some]
  ·cases q
 ·rename_i ha;rw [ctake_is] at q
  split at q
  ·rename_i hn;obtain ⟨m,m1,m2⟩:=part _ hn
   split at q
   ·rename_i x hx;simp only [Option.some.injEq,Prod.mk.injEq] at q;obtain ⟨rfl,rfl,rfl,rfl⟩:=q;rw [hx] at m2;cases m with
    |nil=>exact m2.elim
    |cons u m =>
     cases m with
     |nil =>
      refine ⟨u,?_,m2.1,rfl,rfl,rfl⟩;unfold AW.load;rw [hl,ha];simp only [m1]
     |cons _ _=>exact m2.2.elim
   ·cases q
  ·cases q
theorem elem_le {K:KD} {xs:List K.α} {i:Nat} (hi:i < xs.length):i*K.sz+K.sz≤xs.length*K.sz:=by
 have:=Nat.mul_le_mul_right K.sz (show i+1≤xs.length from hi);rw [Nat.add_mul] at this;omega
theorem kenc_is (K:KD) (xs:List K.α) (i:Int) (f:List SC → Prop → SOut KT):kenc K xs i f=f (K.enc (K.rd xs i)) (i.toNat < xs.length):=by cases K;rfl
theorem load_core (tk : TOK P KT T) {t : TypeId} {x : SV} {w : Value} (s : SI Γ ν h A) (dw : DV ν x w) (e : sload T t x h = some (v, h', k, cs)) (hc : AllP cs) :
  ∃ (a:Addr) (u:Value) (b:Nat) (sr:SR KT) (base cap:Nat),w=.pointer (some a)∧A.load P t a=some u∧DV ν v u∧h'=h∧k=(2,sr.root)∧h[b]?=some sr∧ν b=some (.at_ a.block base cap):=by
 unfold sload at e
 split at e
 ·rename_i te b i sz j hT;obtain ⟨blk,base,cap,q1,q2⟩:DC ν (.ptr b i sz j) w:=dw
  have fin:∀ (u:Value) (sr:SR KT),h[b]?=some sr → A.load P t ⟨blk,base+(i.toNat*sz+j),none⟩=some u → DV ν v u → h'=h → k=(2,sr.root) → ∃ (a:Addr) (u:Value) (b:Nat) (sr:SR KT) (base cap:Nat),w=.pointer (some a)∧A.load P t a=some u∧DV ν v u∧h'=h∧k=(2,sr.root)∧h[b]?=some sr∧ν b=some (.at_ a.block base cap):=fun u sr g0 g1 g2 g3 g4 =>
   ⟨⟨blk,base+(i.toNat*sz+j),none⟩,u,b,sr,base,cap,q2,g1,g2,g3,g4,g0,q1⟩
  split at e
  ·rename_i l root ex hg;rw [hget_is] at hg;obtain ⟨nv,n1,n2⟩:=s.emb.row b _ hg;obtain ⟨_,blk',r,rfl,r1,r2,r3,r4⟩:=n2;rw [q1] at n1;cases n1;cases hz:Nat.beq sz 0 with
   |false =>
    rw [hz,cond_false] at e;cases hz1:(Nat.beq sz 1 && !te.agg) with
    |false=>rw [hz1] at e;cases e
    |true =>
     rw [hz1,cond_true,cints_is] at e;simp only [Bool.and_eq_true,Bool.not_eq_true'] at hz1;obtain rfl:=Nat.eq_of_beq_eq_true hz1.1
     split at e
     ·rename_i hj;simp only [hlen_is,Nat.zero_add,Option.some.injEq,Prod.mk.injEq] at e;obtain ⟨rfl,rfl,rfl,rfl⟩:=e;have hi:i.toNat < (dynI (l.drop j)).length:=hc;have hq:=dynI_get (l.drop j) _ _ (List.getElem?_eq_getElem hi);rw [List.getElem?_drop] at hq;have hlt:=(List.getElem?_eq_some_iff.1 hq).1
      obtain ⟨u,u1,u2,_⟩:=load_at (ν:=ν) (A:=A) (h:=h) (e:=te) (j:=j+i.toNat) (root:=root) (cs0:=[]) tk hT r1 r4 (by rw [r2];omega) (v:=c1 (.int .i64 (rd (dynI (l.drop j)) i))) (h':=h) (k:=(2,root)) (cs:=[]) (by
       unfold sload1;rw [hz1.2];simp only;rw [ctake_is,if_pos (by omega)]
       have:(l.drop (j+i.toNat)).take 1=[.int .i64 (rd (dynI (l.drop j)) i)]:=by
        rw [List.drop_eq_getElem_cons hlt,List.take_succ_cons,List.take_zero];rw [List.getElem?_eq_getElem hlt] at hq;rw [Option.some.inj hq,show rd (dynI (l.drop j)) i=(dynI (l.drop j)).getD i.toNat 0 from rfl,List.getD_eq_getElem?_getD,List.getElem?_eq_getElem hi];rfl
       rw [this])
      refine fin u _ hg ?_ u2 rfl rfl;rw [Nat.mul_one,Nat.add_comm i.toNat j]
      simpa using u1
     ·cases e
   |true =>
    rw [hz,cond_true] at e;obtain rfl:=Nat.eq_of_beq_eq_true hz;obtain ⟨u,u1,u2,u3,u4,_⟩:=load_at (ν:=ν) (A:=A) tk hT r1 r4 (by rw [r2];omega) e;exact fin u _ hg (by simpa using u1) u2 u3 u4
  ·rename_i t' xs root ex hg;rw [hget_is] at hg;cases hz:Nat.beq sz (KT t').sz with
   |false=>rw [hz] at e;cases e
   |true =>
    rw [hz,cond_true,kenc_is] at e;obtain rfl:=Nat.eq_of_beq_eq_true hz;obtain ⟨nv,n1,n2⟩:=s.emb.row b _ hg
    rcases n2 with ⟨rfl,rfl⟩ | ⟨blk',r,rfl,r1,r2,r3,r4⟩
    ·rw [q1] at n1;cases n1
    ·rw [q1] at n1;cases n1
     have key:∀ cs0:List Prop,sload1 te ((KT t').enc ((KT t').rd xs i)) j root cs0 h=some (v,h',k,cs) → cs0=[i.toNat < xs.length] → ∃ (a:Addr) (u:Value) (b:Nat) (sr:SR KT) (base cap:Nat),w=.pointer (some a)∧A.load P t a=some u∧DV ν v u∧h'=h∧k=(2,sr.root)∧h[b]?=some sr∧ν b=some (.at_ a.block base cap):=fun cs0 e e0=>by
      have hcs:cs=cs0:=by
       unfold sload1 at e
       split at e <;> rw [ctake_is] at e <;> split at e
       ·simp only [Option.some.injEq,Prod.mk.injEq] at e;exact e.2.2.2.symm
       ·cases e
       ·split at e
        ·simp only [Option.some.injEq,Prod.mk.injEq] at e;exact e.2.2.2.symm
        ·cases e
       ·cases e
      subst hcs;subst e0;have hi:i.toNat < xs.length:=hc;have hle:=elem_le (K:=KT t') hi;obtain ⟨u,u1,u2,u3,u4,_⟩:=load_at (ν:=ν) (A:=A) (base:=0+i.toNat*(KT t').sz) tk hT r1 (r4 _ _ ((KT t').rd_is xs i hi)) (by rw [(KT t').len,r2];omega) e;exact fin u _ hg (by rw [Nat.add_assoc] at u1;exact u1) u2 u3 u4
     exact key _ e rfl
  ·rename_i t' xs root ex hg;rw [hget_is] at hg;cases hz:Nat.beq sz (KT t').sz with
   |false=>rw [hz] at e;cases e
   |true =>
    rw [hz,cond_true,kenc_is] at e;obtain rfl:=Nat.eq_of_beq_eq_true hz;obtain ⟨nv,n1,n2⟩:=s.emb.row b _ hg
    rcases n2 with ⟨rfl,rfl⟩ | ⟨a,rfl,rfl⟩ | ⟨blk',base',cap',r,rfl,r1,r2,r4,_⟩
    ·rw [q1] at n1;cases n1
    ·rw [q1] at n1;cases n1
    ·rw [q1] at n1;cases n1
     have key:∀ cs0:List Prop,sload1 te ((KT t').enc ((KT t').rd xs i)) j root cs0 h=some (v,h',k,cs) → cs0=[i.toNat < xs.length] → ∃ (a:Addr) (u:Value) (b:Nat) (sr:SR KT) (base cap:Nat),w=.pointer (some a)∧A.load P t a=some u∧DV ν v u∧h'=h∧k=(2,sr.root)∧h[b]?=some sr∧ν b=some (.at_ a.block base cap):=fun cs0 e e0=>by
      have hcs:cs=cs0:=by
       unfold sload1 at e
       split at e <;> rw [ctake_is] at e <;> split at e
       ·simp only [Option.some.injEq,Prod.mk.injEq] at e;exact e.2.2.2.symm
       ·cases e
       ·split at e
        ·simp only [Option.some.injEq,Prod.mk.injEq] at e;exact e.2.2.2.symm
        ·cases e
       ·cases e
      subst hcs;subst e0;have hi:i.toNat < xs.length:=hc;have hle:=elem_le (K:=KT t') hi;obtain ⟨u,u1,u2,u3,u4,_⟩:=load_at (ν:=ν) (A:=A) (base:=base+i.toNat*(KT t').sz) tk hT r1 (r4 _ _ ((KT t').rd_is xs i hi)) (by rw [(KT t').len];omega) e;exact fin u _ hg (by rw [Nat.add_assoc] at u1;exact u1) u2 u3 u4
     exact key _ e rfl
  ·cases e
 ·cases e
theorem load_ok (tk:TOK P KT T) {t:TypeId} {x:Operand} {ρ:Nat → SV} (s:SI Γ ν h A) (d:∀ x,DV ν (sev ρ x) (ρe x)) (e:sload T t (sev ρ x) h=some (v,h',k,cs)) (hc:AllP cs):OpOk P Γ ν h A ρe (.load t x) v h' k:=by
 obtain ⟨a,u,b,sr,base,cap,q2,g1,g2,g3,g4,g0,q1⟩:=load_core tk s (d x) e hc;subst g3;subst g4;refine ⟨_,u,A,ν,fun z hz=>?_,.inl rfl,g2,s,Rs.Ext.refl ν,HX.refl _,fun _=>?_⟩
 ·unfold aop;rw [hz];simp only [q2,g1,Option.map_some]
 ·refine .inr ⟨b,sr,a.block,base,cap,g0,rfl,q1,?_⟩;unfold kindOf;simp only [pureOp,cond_false,q2]
theorem kput_inv {K:KD} {xs:List K.α} {i:Int} {j:Nat} {ys:List SC} {f:List K.α → Prop → SOut KT} {r} (e:kput K xs i j ys f=some r):∃ x,K.enc x=cw (K.enc (K.rd xs i)) j ys∧f (xs.set i.toNat x) (i.toNat < xs.length)=some r:=by
 cases K with
 |mk α sz enc dec rd wt lim str pos len fr dec_is rd_is wt_is str_is =>
  unfold kput at e;simp only at e ⊢;rw [cput_is] at e
  split at e
  ·rename_i x hx;rw [wt_is] at e;exact ⟨x,dec_is _ x hx,e⟩
  ·cases e
theorem write_get {l:List Value} {off:Nat} {c:Tr Value} (j:Nat):(mkCells l off c).get j=if off≤j∧j < off+l.length then l[j - off]? else c.get j:=get_mkCells l off c j
theorem CellsAt.write {r:Row} {base j n:Nat} {l ys:List SC} {m:List Value} {ro:Bool} (hc:CellsAt ν r base l) (d:DL ν ys m) (hb:j+ys.length≤l.length):CellsAt ν ⟨mkCells m (base+j) r.cells,n,ro⟩ base (cw l j ys):=fun i c e=>by
 rw [cw_get l j ys hb i] at e;have hl:=d.len;by_cases hi:j≤i∧i < j+ys.length
 ·rw [if_pos hi] at e;obtain ⟨w,w1,w2⟩:=d.get e;refine ⟨w,?_,w2⟩;rw [write_get,if_pos (by omega),show base+i - (base+j)=i - j by omega];exact w1
 ·rw [if_neg hi] at e;obtain ⟨w,w1,w2⟩:=hc i c e;refine ⟨w,?_,w2⟩;rw [write_get,if_neg (by omega)];exact w1
theorem store_ok (tk:TOK P KT T) {t:TypeId} {x y:Operand} {ρ:Nat → SV} (s:SI Γ ν h A) (d:∀ x,DV ν (sev ρ x) (ρe x)) (e:sstore T t (sev ρ x) (sev ρ y) h=some (v,h',k,cs)) (hc:AllP cs):OpOk P Γ ν h A ρe (.store t x y) v h' k:=by
 unfold sstore at e
 split at e
 ·rename_i te b i sz j ys hT hx hy;have dx:DC ν (.ptr b i sz j) (ρe x):=by have:=d x;rw [hx] at this;exact this
  obtain ⟨blk,base,cap,q1,q2⟩:=dx;obtain ⟨d1,d2⟩:=cells1_of hy (d y);have hys:ys.length=(ρe y).cells.size:=by have:=d1.len;simpa using this
  have hls:(ρe y).cells.toList.length=ys.length:=by simp [hys]
  cases hn:Nat.beq ys.length te.size with
  |false=>rw [hn] at e;cases e
  |true =>
   rw [hn] at e;simp only [Bool.not_true,cond_false] at e;have hn:=Nat.eq_of_beq_eq_true hn
   have fin : ∀ (row row' : SRow KT) (root : Nat) (r : Row) (off : Nat), h[b]? = some ⟨row, root, true⟩ → A.heap.get blk = some (.row r) → r.ro = false → off = base + (i.toNat * sz + j) → off + ys.length ≤ r.size →
     RowOk ν (A.turn blk (.row ⟨mkCells (ρe y).cells.toList off r.cells,r.size,false⟩)) row' (.at_ blk base cap) →
     v=c1 (.raw undef) → h'=(h.mapIdx fun j x=>kil root b true (0+j) x).set b ⟨row',root,true⟩ → k=(3,root) → OpOk P Γ ν h A ρe (.store t x y) v h' k:=fun row row' root r off g1 g2 g3 g4 g5 g6 g7 g8 g9=>by
    subst g7;subst g8;subst g9;subst g4;obtain ⟨s',hx'⟩:=s.turn g1 q1 g2 (.row ⟨mkCells (ρe y).cells.toList (base+(i.toNat*sz+j)) r.cells,r.size,false⟩) rfl (kil_stay g1) (by simp) g6;refine ⟨.skip _,undef,_,ν,fun z hz=>?_,.inr ⟨rfl,rfl⟩,rfl,s',Rs.Ext.refl ν,hx',fun _=>?_⟩
    ·unfold aop;rw [hz];simp only [q2];unfold AW.store;rw [(tk.lay hT).2];simp only;rw [Tr.beqt (by omega:(ρe y).cells.size=te.size),cond_true];unfold AW.write;simp only [row_is g2,g3];rw [Nat.ble_eq_true_of_le (by rw [hls];omega),DL.flat d2 d1];rfl
    ·obtain ⟨s1,e1,e2,e3⟩:=hx' b _ g1;refine ⟨b,s1,blk,base,cap,e1,e2,e3,q1,?_⟩;unfold kindOf;simp only [pureOp,cond_false,q2]
   split at e
   ·rename_i l root hg;rw [hget_is] at hg;obtain ⟨nv,n1,n2⟩:=s.emb.row b _ hg;obtain ⟨hf,blk',r,rfl,r1,r2,r3,r4⟩:=n2;rw [q1] at n1;cases n1;cases hz:(Nat.beq sz 0 && Nat.ble (j+ys.length) l.length) with
    |false =>
     rw [hz,cond_false] at e;cases hz1:Nat.beq sz 1 with
     |false=>rw [hz1] at e;cases e
     |true =>
      rw [hz1,cond_true] at e;obtain rfl:=Nat.eq_of_beq_eq_true hz1
      obtain ⟨y0,rfl⟩:∃ y0,ys=[.int .i64 y0]:=by
       split at e
       ·exact ⟨_,rfl⟩
       ·cases e
      simp only at e;rw [cints_is] at e
      split at e
      ·rename_i hj;simp only [hlen_is,Nat.zero_add,crds_is,cput_is,hkill_is,hset_is] at e;simp only [Option.some.injEq,Prod.mk.injEq] at e;obtain ⟨rfl,rfl,rfl,rfl⟩:=e;have hi:i.toNat < (dynI (l.drop j)).length:=hc;obtain ⟨hle,hcw⟩:=dyn_put (y:=y0) hj hi;refine fin _ (.box (cw l (j+i.toNat) [.int .i64 y0])) root r (0+(j+i.toNat)) hg r1 r3 (by simp;omega) (by rw [r2];simp only [List.length_singleton];omega) ?_ rfl (by simp only [Nat.zero_add,hcw]) rfl;refine ⟨fun z hz=>?_,blk,_,rfl,by rw [nget_turn,if_pos rfl],by rw [cw_len];exact r2,rfl,r4.write d1 (by simp only [List.length_singleton];omega)⟩
       rcases cw_mem _ _ _ _ hz with q | q
       ·exact hf z q
       ·exact d2 z q
      ·cases e
    |true =>
     rw [hz,cond_true,cput_is,hkill_is,hset_is] at e;simp only [Bool.and_eq_true] at hz;obtain rfl:=Nat.eq_of_beq_eq_true hz.1;have hle:=Nat.le_of_ble_eq_true hz.2;simp only [Option.some.injEq,Prod.mk.injEq] at e;obtain ⟨rfl,rfl,rfl,rfl⟩:=e;refine fin _ (.box (cw l j ys)) root r (0+j) hg r1 r3 (by simp) (by rw [r2];omega) ?_ rfl rfl rfl;refine ⟨fun z hz=>?_,blk,_,rfl,by rw [nget_turn,if_pos rfl],by rw [cw_len];exact r2,rfl,r4.write d1 hle⟩
     rcases cw_mem _ _ _ _ hz with q | q
     ·exact hf z q
     ·exact d2 z q
   ·rename_i t' xs root hg;rw [hget_is] at hg;cases hz:(Nat.beq sz (KT t').sz && Nat.ble (j+ys.length) sz) with
    |false=>rw [hz] at e;cases e
    |true =>
     rw [hz,cond_true] at e;simp only [Bool.and_eq_true] at hz;obtain rfl:=Nat.eq_of_beq_eq_true hz.1;have hle:=Nat.le_of_ble_eq_true hz.2;obtain ⟨x0,x1,e⟩:=kput_inv e;rw [hkill_is,hset_is] at e;simp only [Option.some.injEq,Prod.mk.injEq] at e;obtain ⟨rfl,rfl,rfl,rfl⟩:=e;have hi:i.toNat < xs.length:=hc;obtain ⟨nv,n1,n2⟩:=s.emb.row b _ hg
     rcases n2 with ⟨rfl,rfl⟩ | ⟨blk',r,rfl,r1,r2,r3,r4⟩
     ·simp at hi
     ·rw [q1] at n1;cases n1;have hel:=elem_le (K:=KT t') hi;refine fin _ (.own t' (xs.set i.toNat x0)) root r (0+(i.toNat*(KT t').sz+j)) hg r1 r3 rfl (by rw [r2];omega) ?_ rfl rfl rfl;refine .inr ⟨blk,_,rfl,by rw [nget_turn,if_pos rfl],by rw [List.length_set];exact r2,rfl,fun a z hz=>?_⟩;rw [List.getElem?_set] at hz;by_cases ha:i.toNat=a
      ·subst ha;rw [if_pos rfl,if_pos hi] at hz;cases hz;rw [x1];have:=(r4 _ _ ((KT t').rd_is xs i hi)).write (n:=r.size) (ro:=false) d1 (j:=j) (by rw [(KT t').len];exact hle);rw [Nat.add_assoc] at this;exact this
      rw [if_neg ha] at hz;intro p c q;obtain ⟨w,w1,w2⟩:=r4 a z hz p c q;refine ⟨w,?_,w2⟩;rw [write_get,if_neg]
      ·exact w1
      ·have hp:p < (KT t').sz:=by rw [← (KT t').len z];exact (List.getElem?_eq_some_iff.1 q).1
       have hms:(ρe y).cells.toList.length=(ρe y).cells.size:=by simp
       rcases Nat.lt_or_gt_of_ne ha with hlt | hgt
       ·have:=Nat.mul_le_mul_right (KT t').sz (show i.toNat+1≤a from hlt);rw [Nat.add_mul] at this;omega
       ·have:=Nat.mul_le_mul_right (KT t').sz (show a+1≤i.toNat from hgt);rw [Nat.add_mul] at this;omega
   ·cases e
 ·cases e
theorem SI.gone (s:SI Γ ν h A) (root b:Nat):SI Γ ν (h.mapIdx fun j x=>kil root b false (0+j) x) A∧HX h (h.mapIdx fun j x=>kil root b false (0+j) x):=by
 have back:∀ (j:Nat) (x':SR KT),(h.mapIdx fun j x=>kil root b false (0+j) x)[j]?=some x' → ∃ x:SR KT,h[j]?=some x∧x'=kil root b false (0+j) x:=fun j x' e=>by
  rw [List.getElem?_mapIdx] at e;cases hj:h[j]? with
  |none=>rw [hj] at e;cases e
  |some x=>rw [hj] at e;simp only [Option.map_some,Option.some.injEq] at e;exact ⟨x,rfl,e.symm⟩
 refine ⟨⟨⟨fun j x' e=>?_,fun j e=>?_,s.emb.lt,fun i s1 i' s2 e1 e2 hne hex=>?_,fun j x' e=>?_⟩,s.wf,s.prot,fun j x' blk base cap e hex=>?_,s.pins,by simpa using s.npl,s.low,s.lwn⟩,fun j x e=>⟨_,by rw [List.getElem?_mapIdx,e];rfl,(kil_hdr ..).1,(kil_hdr ..).2⟩⟩
 ·obtain ⟨x,q,rfl⟩:=back j x' e;obtain ⟨nv,n1,n2⟩:=s.emb.row j x q;refine ⟨nv,n1,?_⟩;unfold kil;cases (Nat.beq x.root root && !(false && Nat.beq (0+j) b)) with
  |true=>trivial
  |false=>exact n2
 ·rw [List.getElem?_eq_none_iff,List.length_mapIdx] at e;exact s.emb.out j (List.getElem?_eq_none e)
 ·obtain ⟨x,q,rfl⟩:=back i s1 e1;obtain ⟨x',q',rfl⟩:=back i' s2 e2;rw [(kil_hdr ..).1,(kil_hdr ..).1] at hne;rw [(kil_hdr ..).2,(kil_hdr ..).2] at hex;exact s.emb.inj i x i' x' q q' hne hex
 ·obtain ⟨x,q,rfl⟩:=back j x' e;rw [(kil_hdr ..).1,List.length_mapIdx];exact s.emb.rt j x q
 ·obtain ⟨x,q,rfl⟩:=back j x' e;rw [(kil_hdr ..).2] at hex;exact s.sep j x blk base cap q hex
theorem arr_app {K:KD} {xs ys:List K.α} {l m:List Value} (d:DL ν (xs.flatMap K.enc) l) (e:DL ν (ys.flatMap K.enc) m):DL ν ((xs ++ ys).flatMap K.enc) (l ++ m):=by
 rw [List.flatMap_append];exact d.app e
theorem sapp_inv {el:TypeId} {y:Operand} {ρ:Nat → SV} {f:List (KT el).α → Nat → SOut KT} {r} (s:SI Γ ν h A) (d:∀ x,DV ν (sev ρ x) (ρe x)) (e:sapp h el (sev ρ y) f=some r):∃ ys m,f ys m=some r∧(m=ys.length → 0 < ys.length → ∃ l,srcCells A (KT el).sz (ρe y)=some (l,ys.length)∧DL ν (ys.flatMap (KT el).enc) l):=by
 unfold sapp at e
 split at e
 ·rename_i b m hy;have dy:DC ν (.sl b m) (ρe y):=by have:=d y;rw [hy] at this;exact this
  have fin:∀ (ys:List (KT el).α) (base blk:Nat) (r0:Row),A.heap.get blk=some (.row r0) → base+ys.length*(KT el).sz≤r0.size → ArrAt ν r0 base (KT el) ys → ∀ cap,ρe y=.slice (some ⟨blk,base,none⟩) m cap → m=ys.length → 0 < ys.length → ∃ l,srcCells A (KT el).sz (ρe y)=some (l,ys.length)∧DL ν (ys.flatMap (KT el).enc) l:=fun ys base blk r0 g1 g2 g3 cap g4 g5 g6=>by
   obtain ⟨l,l1,l2⟩:=arr_read g3;refine ⟨l,?_,l2⟩;rw [g4,g5];unfold srcCells;simp only;rw [Tr.beqf (by omega:¬ ys.length=0)];unfold AW.cells?;simp only [row_is g1,Nat.ble_eq_true_of_le g2,cond_true,cond_false,l1,Option.map_some]
  split at e
  ·rename_i t ys root ex hg;rw [hget_is] at hg
   split at e
   ·rename_i ht;subst ht;refine ⟨ys,m,e,fun g1 g2=>?_⟩;obtain ⟨nv,n1,n2⟩:=s.emb.row b _ hg
    rcases n2 with ⟨rfl,rfl⟩ | ⟨blk,r0,rfl,r1,r2,r3,r4⟩
    ·simp at g2
    ·rcases dy with ⟨q,_⟩ | ⟨_,q,_⟩ | ⟨_,_,_,q,q2⟩ <;> rw [q] at n1 <;> cases n1
     exact fin ys 0 blk r0 r1 (by rw [r2];omega) r4 _ q2 g1 g2
   ·cases e
  ·rename_i t ys root ex hg;rw [hget_is] at hg
   split at e
   ·rename_i ht;subst ht;refine ⟨ys,m,e,fun g1 g2=>?_⟩;obtain ⟨nv,n1,n2⟩:=s.emb.row b _ hg
    rcases n2 with ⟨rfl,rfl⟩ | ⟨a,rfl,rfl⟩ | ⟨blk,base,cap,r0,rfl,r1,r2,r4,_⟩
    ·simp at g2
    ·simp at g2
    ·rcases dy with ⟨q,_⟩ | ⟨_,q,_⟩ | ⟨_,_,_,q,q2⟩ <;> rw [q] at n1 <;> cases n1
     exact fin ys base blk r0 r1 r2 r4 _ q2 g1 g2
   ·cases e
  ·cases e
 ·cases e
theorem append_core (tk : TOK P KT T) {t0 t1 el : TypeId} {sz0 : Nat} {z0 : List SC} {x y : Operand} {ρ : Nat → SV} (s : SI Γ ν h A) (d : ∀ x, DV ν (sev ρ x) (ρe x)) (hT0 : T t0 = some ⟨.slice el, sz0, z0⟩) (hnc : noCountB P ⟨[t0, t1]⟩ = true) {ys : List (KT el).α} {m : Nat}
  (hsrc:m=ys.length → 0 < ys.length → ∃ l,srcCells A (KT el).sz (ρe y)=some (l,ys.length)∧DL ν (ys.flatMap (KT el).enc) l) (e:sapp2 el (KT el).lim (sev ρ x) ys m h=some (v,h',k,cs)) (hc:AllP cs):OpOk P Γ ν h A ρe (.call ⟨.builtin .append,⟨[x,y]⟩,⟨[t0,t1]⟩⟩) v h' k:=by
 obtain ⟨hu,hE⟩:=tk.slice hT0 rfl;unfold sapp2 at e;obtain ⟨i,i1,i2,i3,i4⟩:=hE.ex;have hpos:=(KT el).pos
 have lim:∀ n,n≤(KT el).lim → 2*n*i.bytes≤281474976710656:=fun n hn=>by
  have:=Nat.mul_le_mul_right i.bytes (Nat.mul_le_mul_left 2 hn);omega
 have run : ∀ (base : Option Addr) (len cap : Nat) (new : List Value) (n : Nat) (r : Res), ρe x = .slice base len cap → srcCells A (KT el).sz (ρe y) = some (new, n) → 0 < n → new.all flatCell = true → len + n ≤ (KT el).lim →
   (match base with
    |none=>bif Nat.beq len 0 then some (Res.val (.slice (some ⟨A.next,0,none⟩) n (KT el).sz) (A.newRow new)) else none
    |some a=>match a.spot with
     |some k=>bif Nat.beq k 0 && Nat.beq len 0 && Nat.beq cap 0 then some (.val (.slice (some ⟨A.next,0,none⟩) n (KT el).sz) (A.newRow new)) else none
     |none=>match A.row? a.block with
      |some r => bif Nat.beq (a.off + len * (KT el).sz) r.size && !r.ro && Nat.beq cap (KT el).sz then
        match readCells r.cells a.off (len*(KT el).sz) with
        |some old=>some (.val (.slice (some ⟨A.next,0,none⟩) (len+n) (KT el).sz) ((A.newRow (old ++ new)).turn a.block .dead))
        |none=>none
       else none
      |none=>none)=some r → ∀ z:Oper,z.op=.call ⟨.builtin .append,⟨[x,y]⟩,⟨[t0,t1]⟩⟩ → aop P ρe z A=some r:=fun base len cap new n r g1 g2 g3 g4 g5 g6 z hz=>by
  unfold aop;rw [hz];simp only [abuiltin,List.map_toArray,List.map_cons,List.map_nil];unfold aappend;simp only [List.getElem?_toArray,List.getElem?_cons_zero,Option.bind_some,hu,g1];rw [hnc];simp only [Bool.not_true,cond_false,hE.sz,i1];rw [Tr.beqf (by omega:¬ (KT el).sz=0),Tr.beqf i3,hE.fits];simp only [Bool.or_self,Bool.not_true,cond_false,g2];rw [Tr.beqf (by omega:¬ n=0),g4,Nat.ble_eq_true_of_le (lim _ g5)];simp only [Bool.not_true,Bool.or_self,cond_false];exact g6
 split at e
 ·rename_i hx;rw [klen_is] at e;obtain ⟨rfl,rfl,rfl,rfl⟩:=snew_inv e;obtain ⟨c1_,c2_,c3_⟩:0 < ys.length∧m=ys.length∧ys.length≤(KT el).lim:=hc;obtain ⟨new,n1,n2⟩:=hsrc c2_ c1_;have ex:ρe x=.slice none 0 0:=by have:=d x;rw [hx] at this;exact this
  have hfl:=DL.flat (fun c hc=>free_flat (flat_free _ ys c hc)) n2;refine new_ok (l:=new) (cap:=(KT el).sz) (u:=.slice (some ⟨A.next,0,none⟩) ys.length (KT el).sz) (w:=fun b=>.sl b ys.length) s (run none 0 0 new ys.length _ ex n1 c1_ hfl (by omega) rfl) (fun ν' e=>own_row n2 e) (fun ν' q=>.inr (.inr ⟨_,_,_,q,rfl⟩)) (fun hl=>⟨?_,by decide,by decide⟩);refine .inr (.inr ?_);unfold kindOf;simp only [pureOp,cond_false];unfold kindE;rw [show (A.newRow new).ts=0 from hl,Nat.zero_mod];rfl
 ·rename_i b n hx;have dx:DC ν (.sl b n) (ρe x):=by have:=d x;rw [hx] at this;exact this
  split at e
  ·rename_i t xs root hg;rw [hget_is] at hg
   split at e
   ·rename_i ht;subst ht;rw [hkill_is,klen_is,klen_is,klen_is] at e;obtain ⟨rfl,rfl,rfl,rfl⟩:=snew_inv e;obtain ⟨c0_,c1_,c2_,c3_⟩:n=xs.length∧0 < ys.length∧m=ys.length∧xs.length+ys.length≤(KT t).lim:=hc;obtain ⟨new,n1,n2⟩:=hsrc c2_ c1_;have hfl:=DL.flat (fun c hc=>free_flat (flat_free _ ys c hc)) n2;obtain ⟨nv,m1,m2⟩:=s.emb.row b _ hg;obtain ⟨sg,hxg⟩:=s.gone root b;rw [show (h.mapIdx fun j x=>kil root b false (0+j) x).length=h.length by simp]
    rcases m2 with ⟨rfl,rfl⟩ | ⟨blk,r,rfl,r1,r2,r3,r4⟩
    ·have ex : ρe x = .slice none 0 0 := by
      rcases dx with ⟨q,_,q2⟩ | ⟨_,q,_⟩ | ⟨_,_,_,q,_⟩
      ·exact q2
      ·rw [q] at m1;cases m1
      ·rw [q] at m1;cases m1
     have e2:=nup_ext sg.emb.out (.at_ A.next 0 (KT t).sz);have sn:=sg.new ⟨mkCells new 0 .e,new.length,false⟩ rfl (KT t).sz (.own t (([]:List (KT t).α) ++ ys)) (own_row (A:=A) (by simpa using n2) e2);rw [show (h.mapIdx fun j x=>kil root b false (0+j) x).length=h.length by simp] at sn e2;refine ⟨_,_,_,_,run none 0 0 new ys.length _ ex n1 c1_ hfl (by simpa using c3_) rfl,.inl rfl,?_,sn,e2,hxg.trans (hx_app _),fun _=>trivial⟩;exact .inr (.inr ⟨_,_,_,nup_same _ _,by simp⟩)
    ·have ex : ρe x = .slice (some ⟨blk, 0, none⟩) xs.length (KT t).sz := by
      rcases dx with ⟨q,_⟩ | ⟨_,q,_⟩ | ⟨_,_,_,q,q2⟩ <;> rw [q] at m1 <;> cases m1
      rw [q2,c0_]
     obtain ⟨old,o1,o2⟩:=arr_read r4;have e2:=nup_ext s.emb.out (.at_ A.next 0 (KT t).sz);have sn:=s.new ⟨mkCells (old ++ new) 0 .e,(old ++ new).length,false⟩ rfl (KT t).sz (.own t (xs ++ ys)) (own_row (A:=A) (arr_app o2 n2) e2);have hlt:b < h.length:=(List.getElem?_eq_some_iff.1 hg).1;have hblk:=s.emb.lt b _ _ _ m1;(have hg2:(h ++ [(⟨.own t (xs ++ ys),h.length,true⟩:SR KT)])[b]?=some ⟨.own t xs,root,true⟩:=by rw [List.getElem?_append_left hlt];exact hg)
     have hbl:(A.newRow (old ++ new)).heap.get blk=some (.row r):=by
      show (A.new _).heap.get blk=_;rw [nget_new,if_neg (by omega)];exact r1
     obtain ⟨st,hxt⟩:=sn.turn (h':=(h.mapIdx fun j x=>kil root b false (0+j) x) ++ [⟨.own t (xs ++ ys),h.length,true⟩]) hg2 (e2 _ _ m1) hbl .dead trivial (row':=.dead) (fun j x q=>by
      rcases app_get q with q | ⟨rfl,rfl⟩
      ·have hj:j < h.length:=(List.getElem?_eq_some_iff.1 q).1;rw [List.getElem?_append_left (by simpa using hj)];exact kil_gone hg j x q
      ·rw [List.getElem?_append_right (by simp)];have hrt:root < h.length:=s.emb.rt b _ hg;rw [if_neg (by omega),if_neg (by simp only;omega)];simp) (by simp) trivial
     refine ⟨_,_,_,_,run (some ⟨blk,0,none⟩) xs.length (KT t).sz new ys.length (.val (.slice (some ⟨A.next,0,none⟩) (xs.length+ys.length) (KT t).sz) ((A.newRow (old ++ new)).turn blk .dead)) ex n1 c1_ hfl c3_ ?_,.inl rfl,?_,st,e2,hxg.trans (hx_app _),fun _=>trivial⟩
     ·simp only [row_is r1,r3,Nat.zero_add];rw [Tr.beqt r2.symm,Tr.beqt (rfl:(KT t).sz=(KT t).sz)];simp only [Bool.not_false,Bool.and_self,cond_true,o1]
     ·exact .inr (.inr ⟨_,_,_,nup_same _ _,by simp⟩)
   ·cases e
  ·cases e
 ·cases e
theorem append_ok (tk:TOK P KT T) {ts:Array TypeId} {x y:Operand} {ρ:Nat → SV} (s:SI Γ ν h A) (d:∀ x,DV ν (sev ρ x) (ρe x)) (e:sappend T ts (sev ρ x) (sev ρ y) h=some (v,h',k,cs)) (hc:AllP cs):OpOk P Γ ν h A ρe (.call ⟨.builtin .append,⟨[x,y]⟩,ts⟩) v h' k:=by
 unfold sappend at e
 split at e
 ·rename_i t0 t1
  split at e
  ·rename_i el _ _ el1 _ _ hT0 hT1;have hu1:=(tk.slice hT1 rfl).1;obtain ⟨ys,m,e,hsrc⟩:=sapp_inv s d e;rw [klim_is] at e;refine append_core tk s d hT0 ?_ hsrc e hc;unfold noCountB;simp only [List.getElem?_toArray,List.getElem?_cons_succ,List.getElem?_cons_zero,hu1]
  ·cases e
 ·cases e
theorem SI.view (s : SI Γ ν h A) {b : Nat} {row row' : SRow KT} {root : Nat} {ex : Bool} (hg : h[b]? = some ⟨row, root, ex⟩) {nv nv' : NV} (hb : ν b = some nv) (hr : ∀ ν', Rs.Ext ν ν' → RowOk ν' A row' nv')
  (hn:∀ blk base cap,nv'=.at_ blk base cap → ∃ base' cap',nv=.at_ blk base' cap'):SI Γ (nup ν h.length nv') (h ++ [⟨row',root,ex⟩]) A:=by
 have e:=nup_ext s.emb.out nv';have old:∀ i,i ≠ h.length → nup ν h.length nv' i=ν i:=fun i hi=>if_neg hi;have hlt:∀ (i:Nat) (s':SR KT),h[i]?=some s' → i ≠ h.length:=fun i s' e=>by have:=(List.getElem?_eq_some_iff.1 e).1;omega
 refine ⟨⟨?_,?_,?_,?_,?_⟩,s.wf,s.prot,?_,?_,?_,s.low,s.lwn⟩
 ·intro i s' q
  rcases app_get q with q | ⟨rfl,rfl⟩
  ·obtain ⟨nv2,q1,q2⟩:=s.emb.row i s' q;exact ⟨nv2,by rw [old i (hlt i s' q)];exact q1,q2.up e fun _ _ _ _=>rfl⟩
  ·exact ⟨_,nup_same _ _,hr _ e⟩
 ·intro i q;rw [List.getElem?_eq_none_iff] at q;simp only [List.length_append,List.length_cons,List.length_nil] at q;rw [old i (by omega)];exact s.emb.out i (List.getElem?_eq_none (by omega))
 ·intro i blk base cap q;by_cases hi:i=h.length
  ·subst hi;rw [nup_same] at q;cases q;obtain ⟨b',c',q2⟩:=hn _ _ _ rfl;exact s.emb.lt b _ _ _ (by rw [hb,q2])
  ·rw [old i hi] at q;exact s.emb.lt i _ _ _ q
 ·intro i s1 i' s2 q1 q2 hne hex blk base cap1 blk' base' cap2 m1 m2
  rcases app_get q1 with q1 | ⟨rfl,rfl⟩
  ·rw [old i (hlt i s1 q1)] at m1
   rcases app_get q2 with q2 | ⟨rfl,rfl⟩
   ·rw [old i' (hlt i' s2 q2)] at m2;exact s.emb.inj i s1 i' s2 q1 q2 hne hex _ _ _ _ _ _ m1 m2
   ·rw [nup_same] at m2;cases m2;obtain ⟨b',c',q3⟩:=hn _ _ _ rfl;exact s.emb.inj i s1 b _ q1 hg hne hex _ _ _ _ _ _ m1 (by rw [hb,q3])
  ·rw [nup_same] at m1;cases m1;obtain ⟨b',c',q3⟩:=hn _ _ _ rfl
   rcases app_get q2 with q2 | ⟨rfl,rfl⟩
   ·rw [old i' (hlt i' s2 q2)] at m2;exact s.emb.inj b _ i' s2 hg q2 hne hex _ _ _ _ _ _ (by rw [hb,q3]) m2
   ·exact absurd rfl hne
 ·intro i s' q;simp only [List.length_append,List.length_cons,List.length_nil]
  rcases app_get q with q | ⟨rfl,rfl⟩
  ·have:=s.emb.rt i s' q;omega
  ·have:root < h.length:=s.emb.rt b _ hg;show root < _;omega
 ·intro i s' blk base cap q hx m
  rcases app_get q with q | ⟨rfl,rfl⟩
  ·rw [old i (hlt i s' q)] at m;exact s.sep i s' _ _ _ q hx m
  ·rw [nup_same] at m;cases m;obtain ⟨b',c',q3⟩:=hn _ _ _ rfl;exact s.sep b _ _ _ _ hg hx (by rw [hb,q3])
 ·intro j hj;have:=s.npl;rw [old j (by omega)];exact s.pins j hj
 ·have:=s.npl;simp only [List.length_append];omega
def loN:Option Int → Nat
 |none=>0
 |some a=>a.toNat
def hiN (n:Nat):Option Int → Nat
 |none=>n
 |some b=>b.toNat
theorem part_get {α:Type} {xs:List α} {lo hi:Option Int} {l u:Nat} (hl:l=loN lo) (hu:u=hiN xs.length hi) (h1:l≤u) (h2:u≤xs.length):(part xs lo hi).length=u - l∧∀ i,(part xs lo hi)[i]?=if i < u - l then xs[l+i]? else none:=by
 cases lo with
 |none =>
  cases hi with
  |none =>
   simp only [loN,hiN] at hl hu;subst hl;subst hu;refine ⟨by simp [part],fun i=>?_⟩;simp only [part,Nat.sub_zero,Nat.zero_add]
   split
   ·rfl
   ·rw [List.getElem?_eq_none];omega
  |some b =>
   simp only [loN,hiN] at hl hu;subst hl;subst hu;refine ⟨by simp [part];omega,fun i=>?_⟩;simp only [part,Nat.sub_zero,Nat.zero_add,List.getElem?_take]
 |some a =>
  cases hi with
  |none =>
   simp only [loN,hiN] at hl hu;subst hl;subst hu;refine ⟨by simp [part],fun i=>?_⟩;simp only [part,List.getElem?_drop]
   split
   ·rfl
   ·rw [List.getElem?_eq_none];omega
  |some b =>
   simp only [loN,hiN] at hl hu;subst hl;subst hu;refine ⟨by simp [part];omega,fun i=>?_⟩;simp only [part,List.getElem?_drop,List.getElem?_take];by_cases hi:i < b.toNat - a.toNat
   ·rw [if_pos hi,if_pos (by omega)]
   ·rw [if_neg hi,if_neg (by omega)]
theorem sview_inv {t : TypeId} {xs : List (KT t).α} {root n : Nat} {ex : Bool} {lo hi : Option Int} (e : sview t xs root ex n lo hi h = some (v, h', k, cs)) (hc : AllP cs) :
  v=c1 (.sl h.length (part xs lo hi).length)∧h'=h ++ [⟨.view t (part xs lo hi),root,ex⟩]∧k=(0,0)∧n=xs.length∧(∀ a,lo=some a → 0≤a)∧(∀ b,hi=some b → 0≤b) ∧
   loN lo≤hiN xs.length hi∧hiN xs.length hi≤xs.length:=by
 unfold sview at e;rw [klen_is,klen_is,hlen_is,happ_is] at e;simp only [Nat.zero_add] at e;cases lo with
 |none =>
  cases hi with
  |none=>cases e
  |some b =>
   simp only [Option.some.injEq,Prod.mk.injEq] at e;obtain ⟨rfl,rfl,rfl,rfl⟩:=e;obtain ⟨c1_,c2_,c3_⟩:n=xs.length∧0≤b∧b≤(xs.length:Int):=hc;exact ⟨rfl,rfl,rfl,c1_,(fun a q=>by cases q),(fun a q=>by cases q;exact c2_),by simp only [loN,hiN];omega,by simp only [hiN];omega⟩
 |some a =>
  cases hi with
  |none =>
   simp only [Option.some.injEq,Prod.mk.injEq] at e;obtain ⟨rfl,rfl,rfl,rfl⟩:=e;obtain ⟨c1_,c2_,c3_⟩:n=xs.length∧0≤a∧a≤(xs.length:Int):=hc;exact ⟨rfl,rfl,rfl,c1_,(fun a q=>by cases q;exact c2_),(fun a q=>by cases q),by simp only [loN,hiN];omega,by simp only [hiN];omega⟩
  |some b =>
   simp only [Option.some.injEq,Prod.mk.injEq] at e;obtain ⟨rfl,rfl,rfl,rfl⟩:=e;obtain ⟨c1_,c2_,c3_,c4_⟩:n=xs.length∧0≤a∧a≤b∧b≤(xs.length:Int):=hc;exact ⟨rfl,rfl,rfl,c1_,(fun a q=>by cases q;exact c2_),(fun z q=>by cases q;omega),by simp only [loN,hiN];omega,by simp only [hiN];omega⟩
theorem view_ok {t : TypeId} {t' : TypeId} {x : Operand} {lo hi : Option Operand} {lo' hi' : Option Int} {xs : List (KT t').α} {b n root : Nat} {ex : Bool} {row : SRow KT} {nv : NV} {ρ : Nat → SV} (hu : P.underlying t = some (.slice t')) (hE : Elem P KT t') (s : SI Γ ν h A) (d : ∀ x, DV ν (sev ρ x) (ρe x))
    (dx:DC ν (.sl b n) (ρe x)) (hg:h[b]?=some ⟨row,root,ex⟩) (h1:optV ρ lo=some lo') (h2:optV ρ hi=some hi') (hb:ν b=some nv) (hr:RowOk (KT:=KT) ν A (.view t' xs) nv) (e:sview t' xs root ex n lo' hi' h=some (v,h',k,cs)) (hc:AllP cs):OpOk P Γ ν h A ρe (.slice t x lo hi none) v h' k:=by
  obtain ⟨rfl,rfl,rfl,hn,ha,hbb,hle,hle2⟩:=sview_inv e hc;generalize hl:loN lo'=l at hle;generalize hu2:hiN xs.length hi'=u at hle hle2;obtain ⟨p1,p2⟩:=part_get hl.symm hu2.symm hle hle2
  have on_:∀ (o:Option Operand) (o':Option Int) (dflt:Nat),optV ρ o=some o' → (∀ a,o'=some a → 0≤a) → optN dflt ρe o=some (hiN dflt o'):=fun o o' dflt q hq=>by
    cases o with
    | none=>cases q;rfl
    | some y =>
      simp only [optV] at q
      split at q
      · rename_i kk a hy;cases q;(have ey:ρe y=.int kk a:=by have:=d y;rw [hy] at this;exact this);have h0:=hq a rfl;obtain ⟨m,rfl⟩:∃ m:Nat,a=m:=⟨a.toNat,by omega⟩;simp only [optN,ey];rfl
      · cases q
  have e1:optN 0 ρe lo=some l:=by rw [on_ lo lo' 0 h1 ha,← hl];cases lo' <;> rfl
  have e2:optN n ρe hi=some u:=by
    rw [on_ hi hi' n h2 hbb];subst hn;rw [hu2]
  have ei:∀ i y,(part xs lo' hi')[i]?=some y → xs[l+i]?=some y:=fun i y q=>by
    rw [p2] at q
    split at q
    · exact q
    · cases q
  have fin : ∀ (nv' : NV) (w : Value), aslice P t (ρe x) ρe lo hi none = some w → (∀ ν', Rs.Ext ν ν' → RowOk (KT := KT) ν' A (.view t' (part xs lo' hi')) nv') → (∀ blk base cap, nv' = .at_ blk base cap → ∃ base' cap', nv = .at_ blk base' cap') →
      (∀ ν':Nu,ν' h.length=some nv' → DC ν' (.sl h.length (part xs lo' hi').length) w) → OpOk P Γ ν h A ρe (.slice t x lo hi none) (c1 (.sl h.length (part xs lo' hi').length)) (h ++ [⟨.view t' (part xs lo' hi'),root,ex⟩]) (0,0):=fun nv' w f1 f2 f3 f4=>by
    refine ⟨.val w A,w,A,nup ν h.length nv',fun z hz=>?_,.inl rfl,f4 _ (nup_same _ _),s.view hg hb f2 f3,nup_ext s.emb.out nv',hx_app _,fun _=>rfl⟩;unfold aop;rw [hz];simp only [f1,Option.map_some]
  have sl_ : ∀ (a : Option Addr) (cap : Nat), ρe x = .slice a n cap → aslice P t (ρe x) ρe lo hi none = (match a with
         | none=>some (.slice none 0 0)
         | some a=>bif Nat.beq l u then some (.slice (some ⟨a.block,a.off,some 1⟩) 0 0) else match a.spot with
           | none=>bif Nat.beq cap (KT t').sz || Nat.beq cap 0 then some (.slice (some ⟨a.block,a.off+l*(KT t').sz,none⟩) (u - l) cap) else none
           | some _=>none):=fun a cap q=>by
    rw [q];unfold aslice;simp only [hu,e1,e2,hE.sz];subst hn;simp only [Nat.ble_eq_true_of_le hle,Nat.ble_eq_true_of_le hle2,Bool.and_true,cond_true];cases a <;> rfl
  rcases hr with ⟨rfl,hx⟩ | ⟨a,rfl,hx⟩ | ⟨blk,base,cap,r0,rfl,r1,r2,r4,r5⟩
  · -- nil
    have ex0:ρe x=.slice none n 0:=by
      rcases dx with ⟨_,q2,q3⟩ | ⟨_,q,_⟩ | ⟨_,_,_,q,_⟩
      · rw [q2];exact q3
      · rw [q] at hb;cases hb
      · rw [q] at hb;cases hb
    have hz:part xs lo' hi'=[]:=List.eq_nil_of_length_eq_zero (by have:=congrArg List.length hx;simp only [List.length_nil] at this;omega);refine fin .nil _ (by rw [sl_ none 0 ex0]) (fun ν' _=>.inl ⟨rfl,hz⟩) (fun _ _ _ q=>by cases q) (fun ν' q=>.inl ⟨q,by rw [hz];rfl,rfl⟩)
  · -- empty,somewhere
    have hn0:n=0:=by rw [hn,hx];rfl
    have hsp:a.spot ≠ none∧ρe x=.slice (some a) n 0:=by
      rcases dx with ⟨q,_⟩ | ⟨a',q,q2,q3,q4⟩ | ⟨_,_,_,q,_⟩
      · rw [q] at hb;cases hb
      · rw [q] at hb;cases hb;rw [q3];exact ⟨q2,q4⟩
      · rw [q] at hb;cases hb
    have hx2:=congrArg List.length hx;simp only [List.length_nil] at hx2;have hz:part xs lo' hi'=[]:=List.eq_nil_of_length_eq_zero (by omega);(have hlu:l=u:=by omega);refine fin (.emp ⟨a.block,a.off,some 1⟩) (.slice (some ⟨a.block,a.off,some 1⟩) 0 0) (by rw [sl_ (some a) 0 hsp.2];simp only [Tr.beqt hlu,cond_true]) (fun ν' _=>.inr (.inl ⟨_,rfl,hz⟩)) (fun _ _ _ q=>by cases q) (fun ν' q=>.inr (.inl ⟨_,q,by simp,by rw [hz];rfl,rfl⟩))
  · have hsl : ρe x = .slice (some ⟨blk, base, none⟩) n cap := by
      rcases dx with ⟨q,_⟩ | ⟨a',q,_⟩ | ⟨_,_,_,q,q2⟩
      · rw [q] at hb;cases hb
      · rw [q] at hb;cases hb
      · rw [q] at hb;cases hb;exact q2
    by_cases hlu:l=u
    · have hz:part xs lo' hi'=[]:=List.eq_nil_of_length_eq_zero (by rw [p1];omega);refine fin (.emp ⟨blk,base,some 1⟩) (.slice (some ⟨blk,base,some 1⟩) 0 0) (by rw [sl_ _ cap hsl];simp only [Tr.beqt hlu,cond_true]) (fun ν' _=>.inr (.inl ⟨_,rfl,hz⟩)) (fun _ _ _ q=>by cases q) (fun ν' q=>.inr (.inl ⟨_,q,by simp,by rw [hz];rfl,rfl⟩))
    refine fin (.at_ blk (base+l*(KT t').sz) cap) (.slice (some ⟨blk,base+l*(KT t').sz,none⟩) (u - l) cap) ?_ (fun ν' q=>.inr (.inr ⟨blk,_,cap,r0,rfl,r1,?_,fun i y hy j c qc=>?_,r5⟩)) (fun _ _ _ q=>by cases q;exact ⟨_,_,rfl⟩) (fun ν' q=>.inr (.inr ⟨_,_,_,q,by rw [p1]⟩))
    · rw [sl_ _ cap hsl];simp only [Tr.beqf hlu,cond_false];rw [show (Nat.beq cap (KT t').sz || Nat.beq cap 0)=true by rcases r5 with r5 | r5 <;> simp [r5]];rfl
    · rw [p1];have:(l+(u - l))*(KT t').sz≤xs.length*(KT t').sz:=Nat.mul_le_mul_right _ (by omega);rw [Nat.add_mul] at this;omega
    · obtain ⟨w,w1,w2⟩:=r4 (l+i) y (ei i y hy) j c qc;refine ⟨w,?_,w2.ext q⟩;rw [← w1]
      congr 1
      rw [Nat.add_mul];omega
theorem slice_ok (tk:TOK P KT T) {t:TypeId} {x:Operand} {lo hi mx:Option Operand} {ρ:Nat → SV} (s:SI Γ ν h A) (d:∀ x,DV ν (sev ρ x) (ρe x)) (e:sslice T t ρ (sev ρ x) lo hi mx h=some (v,h',k,cs)) (hc:AllP cs):OpOk P Γ ν h A ρe (.slice t x lo hi mx) v h' k:=by
 unfold sslice at e
 split at e
 ·rename_i b hT hx;have hu:=tk.str hT rfl;have ex:ρe x=.string b:=by have:=d x;rw [hx] at this;exact this
  have at_:∀ (y:Operand) (q:IntKind) (n:Int),sev ρ y=.v (.c (.int q n)) → 0≤n → asN (ρe y)=some n.toNat:=fun y q n hy h0=>by
   (have ey:ρe y=.int q n:=by have:=d y;rw [hy] at this;exact this);rw [ey];obtain ⟨m,rfl⟩:∃ m:Nat,n=m:=⟨n.toNat,by omega⟩;rfl
  have fin:∀ (l u:Nat),optN 0 ρe lo=some l → optN b.size ρe hi=some u → l≤u → u≤b.size → OpOk P Γ ν h A ρe (.slice t x lo hi none) (c1 (.str (b.extract l u))) h (0,0):=fun l u e1 e2 h1 h2 =>
   OpOk.pure s (u:=.string (b.extract l u)) (fun z hz=>by
    unfold aop;rw [hz];simp only [ex];rw [str_slice hu e1 e2 h1 h2];rfl) rfl rfl
  split at e
  ·rename_i y
   split at e
   ·rename_i q n hy;simp only [Option.some.injEq,Prod.mk.injEq] at e;obtain ⟨rfl,rfl,rfl,rfl⟩:=e;obtain ⟨h0,h1⟩:0≤n∧n≤(b.size:Int):=hc;exact fin _ _ (at_ y q n hy h0) rfl (by omega) (Nat.le_refl _)
   ·cases e
  ·rename_i y
   split at e
   ·rename_i q n hy;simp only [Option.some.injEq,Prod.mk.injEq] at e;obtain ⟨rfl,rfl,rfl,rfl⟩:=e;obtain ⟨h0,h1⟩:0≤n∧n≤(b.size:Int):=hc;exact fin _ _ rfl (at_ y q n hy h0) (Nat.zero_le _) (by omega)
   ·cases e
  ·rename_i y z
   split at e
   ·rename_i q n q' n' hy hz;simp only [Option.some.injEq,Prod.mk.injEq] at e;obtain ⟨rfl,rfl,rfl,rfl⟩:=e;obtain ⟨h0,h1,h2⟩:0≤n∧n≤n'∧n'≤(b.size:Int):=hc;exact fin _ _ (at_ y q n hy h0) (at_ z q' n' hz (by omega)) (by omega) (by omega)
   ·cases e
  ·cases e
 ·rename_i el _ _ b n hT hx;obtain ⟨hu,hE⟩:=tk.slice hT rfl;have dx:DC ν (.sl b n) (ρe x):=by have:=d x;rw [hx] at this;exact this
  split at e
  ·rename_i lo' hi' t' xs root ex h1 h2 hg;rw [hget_is] at hg;cases hb:Nat.beq t' el with
   |false=>rw [hb] at e;cases e
   |true =>
    rw [hb,cond_true] at e;obtain rfl:=Nat.eq_of_beq_eq_true hb;obtain ⟨nv,n1,n2⟩:=s.emb.row b _ hg;refine view_ok hu hE s d dx hg h1 h2 n1 ?_ e hc
    rcases n2 with q | ⟨blk,r0,rfl,r1,r2,r3,r4⟩
    ·exact .inl q
    ·exact .inr (.inr ⟨blk,0,_,r0,rfl,r1,by rw [r2];omega,r4,.inr rfl⟩)
  ·rename_i lo' hi' t' xs root ex h1 h2 hg;rw [hget_is] at hg;cases hb:Nat.beq t' el with
   |false=>rw [hb] at e;cases e
   |true =>
    rw [hb,cond_true] at e;obtain rfl:=Nat.eq_of_beq_eq_true hb;obtain ⟨nv,n1,n2⟩:=s.emb.row b _ hg;exact view_ok hu hE s d dx hg h1 h2 n1 n2 e hc
  ·cases e
 ·cases e
theorem kstr_inv {K:KD} {xs:List K.α} {f:ByteArray → SOut KT} {r} (e:kstr K xs f=some r):∃ g,K.str=some g∧f (g xs)=some r:=by
 cases K with
 |mk α sz enc dec rd wt lim str pos len fr dec_is rd_is wt_is str_is =>
  unfold kstr at e;simp only at e ⊢
  split at e
  ·rename_i g;exact ⟨_,rfl,e⟩
  ·cases e
theorem str_of {K:KD} {g:K.α → Int} (hg:∀ x,K.enc x=[.int .u8 (g x)]):∀ (xs:List K.α) (l:List Value),DL ν (xs.flatMap K.enc) l → strOf l=some (xs.map fun x=>UInt8.ofNat (g x).toNat)
 |[],[],_=>rfl
 |[],_ :: _,d=>d.elim
 |x :: xs,l,d=>by
  rw [List.flatMap_cons,hg] at d;cases l with
  |nil=>exact d.elim
  |cons v l =>
   obtain ⟨rfl,d2⟩:=d;show (match strOf l with | some s=>some (UInt8.ofNat (g x).toNat :: s) | none=>none)=_;rw [str_of hg xs l d2];rfl
theorem conv_ok (tk:TOK P KT T) {t d':TypeId} {x:Operand} {ρ:Nat → SV} (s:SI Γ ν h A) (d:∀ x,DV ν (sev ρ x) (ρe x)) (e:sconv T t d' (sev ρ x) h=some (v,h',k,cs)) (hc:AllP cs):OpOk P Γ ν h A ρe (.convert t d' x) v h' k:=by
 unfold sconv at e
 split at e
 ·rename_i q0 _ _ q' _ _ q n hS hT hx;have ex:ρe x=.int q n:=by have:=d x;rw [hx] at this;exact this
  have hs:=tk.int hS rfl;have hu:=tk.int hT rfl;obtain ⟨rfl,rfl,rfl,rfl⟩:=sint_inv e;refine ⟨_,_,A,ν,fun z hz=>?_,.inl rfl,show DV ν (c1 (.int q' (q'.wrap n))) (.int q' (q'.wrap n)) from rfl,s,Rs.Ext.refl ν,HX.refl _,fun _=>?_⟩
  ·unfold aop;rw [hz];simp only [ex];unfold aconv;simp only [hs,hu,wr_spec]
  ·show KR ν _ (0,0) (kindOf ρe (.convert t d' x) A A);unfold kindOf;simp only [ex];rfl
 ·rename_i el _ _ _ _ b n hS hT hx;obtain ⟨hu,hE⟩:=tk.slice hS rfl;have hu2:=tk.str hT rfl;have dx:DC ν (.sl b n) (ρe x):=by have:=d x;rw [hx] at this;exact this
  split at e
  ·rename_i t' xs root ex _ _ hg hT8;rw [hget_is] at hg;cases hb:Nat.beq t' el with
   |false=>rw [hb] at e;cases e
   |true =>
    rw [hb,cond_true,klen_is] at e;obtain rfl:=Nat.eq_of_beq_eq_true hb;obtain ⟨f,e1,e2⟩:=kstr_inv e;simp only [Option.some.injEq,Prod.mk.injEq] at e2;obtain ⟨rfl,rfl,rfl,rfl⟩:=e2;have hn:n=xs.length:=hc;obtain ⟨g,hsz,g1,g2⟩:=(KT t').str_is f e1;have hu8:P.underlying t'=some (.int .u8):=tk.int hT8 rfl;obtain ⟨nv,n1,n2⟩:=s.emb.row b _ hg
    rcases n2 with ⟨rfl,rfl⟩ | ⟨blk,r0,rfl,r1,r2,r3,r4⟩
    ·have ex0 : ρe x = .slice none 0 0 := by
      rcases dx with ⟨_,_,q⟩ | ⟨_,q,_⟩ | ⟨_,_,_,q,_⟩
      ·exact q
      ·rw [q] at n1;cases n1
      ·rw [q] at n1;cases n1
     refine ⟨_,.string .empty,A,ν,fun z hz=>?_,.inl rfl,?_,s,Rs.Ext.refl ν,HX.refl _,fun _=>?_⟩
     ·unfold aop;rw [hz];simp only [ex0];unfold aconv;simp only [hu,hu2,hu8]
     ·show Value.string ByteArray.empty=Value.string (f []);rw [g2];rfl
     ·left
      unfold kindOf;simp only [ex0];rfl
    ·have ex0 : ρe x = .slice (some ⟨blk, 0, none⟩) xs.length (KT t').sz := by
      rcases dx with ⟨q,_⟩ | ⟨_,q,_⟩ | ⟨_,_,_,q,q2⟩ <;> rw [q] at n1 <;> cases n1
      rw [q2,hn]
     obtain ⟨l,l1,l2⟩:=arr_read r4;rw [hsz,Nat.mul_one] at l1
     have hcl:A.cells? ⟨blk,0,none⟩ xs.length=some l:=by
      unfold AW.cells?;simp only [row_is r1];rw [Nat.ble_eq_true_of_le (by rw [r2,hsz];omega)];exact l1
     refine ⟨_,.string (f xs),A,ν,fun z hz=>?_,.inl rfl,rfl,s,Rs.Ext.refl ν,HX.refl _,fun _=>?_⟩
     ·unfold aop;rw [hz];simp only [ex0];unfold aconv;simp only [hu,hu2,hu8,hcl,str_of g1 xs l l2,Option.map_some,g2]
     ·refine .inr ⟨b,_,blk,0,_,hg,rfl,n1,?_⟩;unfold kindOf;simp only [ex0];rfl
  ·cases e
 ·rename_i el _ _ _ _ hS hT hx;obtain ⟨hu,hE⟩:=tk.slice hS rfl;have hu2:=tk.str hT rfl
  split at e
  ·rename_i hT8;have hu8:=tk.int hT8 rfl;obtain ⟨rfl,rfl,rfl,rfl⟩:=sout_inv e;(have ex0:ρe x=.slice none 0 0:=by have:=d x;rw [hx] at this;exact this);refine ⟨_,.string .empty,A,ν,fun z hz=>?_,.inl rfl,rfl,s,Rs.Ext.refl ν,HX.refl _,fun _=>?_⟩
   ·unfold aop;rw [hz];simp only [ex0];unfold aconv;simp only [hu,hu2,hu8]
   ·show KR ν _ (0,0) (kindOf ρe (.convert t d' x) A A);unfold kindOf;simp only [ex0];rfl
  ·cases e
 ·cases e
theorem kofs_is (K : KD) (s : ByteArray) (f : List K.α → SOut KT) : kofs K s f = match K.ofs with
  |some g=>f (g s)
  |none=>none:=by
 obtain ⟨α,sz,enc,dec,rd,wt,lim,str,pos,len,fr,d1,d2,d3,ofs,s1,s2⟩:=K;cases ofs <;> rfl
theorem SI.reroot {row:SRow KT} {root:Nat} (s:SI Γ ν (h ++ [⟨row,h.length,true⟩]) A) (hl:∀ (i:Nat) (x:SR KT),h[i]?=some x → x.root < h.length) (hr:root < h.length):SI Γ ν (h ++ [⟨row,root,true⟩]) A:=by
 have last:∀ r:Nat,(h ++ [(⟨row,r,true⟩:SR KT)])[h.length]?=some ⟨row,r,true⟩:=fun r=>by rw [List.getElem?_append_right (Nat.le_refl _),Nat.sub_self];rfl
 have old:∀ (r:Nat) (i:Nat) (x:SR KT),h[i]?=some x → (h ++ [(⟨row,r,true⟩:SR KT)])[i]?=some x:=fun r i x e=>by rw [List.getElem?_append_left (List.getElem?_eq_some_iff.1 e).1];exact e
 refine ⟨⟨fun i x q=>?_,fun i q=>?_,s.emb.lt,fun i s1 i' s2 q1 q2 hne hex=>?_,fun i x q=>?_⟩,s.wf,s.prot,fun i x blk base cap q hx m=>?_,s.pins,by have:=s.npl;simpa using this,s.low,s.lwn⟩
 ·rcases app_get q with q | ⟨rfl,rfl⟩
  ·exact s.emb.row i x (old _ i x q)
  ·exact s.emb.row _ (⟨row,h.length,true⟩:SR KT) (last _)
 ·refine s.emb.out i ?_;rw [List.getElem?_eq_none_iff] at q ⊢
  simpa using q
 ·rcases app_get q1 with q1 | ⟨rfl,rfl⟩
  ·rcases app_get q2 with q2 | ⟨rfl,rfl⟩
   ·exact s.emb.inj i s1 i' s2 (old _ _ _ q1) (old _ _ _ q2) hne hex
   ·exact s.emb.inj i s1 _ (⟨row,h.length,true⟩:SR KT) (old _ _ _ q1) (last _) (by have:=hl i s1 q1;simp only;omega) (.inr rfl)
  ·rcases app_get q2 with q2 | ⟨rfl,rfl⟩
   ·exact s.emb.inj _ (⟨row,h.length,true⟩:SR KT) i' s2 (last _) (old _ _ _ q2) (by have:=hl i' s2 q2;simp only;omega) (.inl rfl)
   ·exact absurd rfl hne
 ·simp only [List.length_append,List.length_cons,List.length_nil]
  rcases app_get q with q | ⟨rfl,rfl⟩
  ·have:=hl i x q;omega
  ·show root < _;omega
 ·rcases app_get q with q | ⟨rfl,rfl⟩
  ·exact s.sep i x _ _ _ (old _ _ _ q) hx m
  ·exact s.sep _ (⟨row,h.length,true⟩:SR KT) _ _ _ (last _) rfl m
theorem DL.bytes (l:List UInt8):DL ν (l.map fun b=>SC.int .u8 b.toNat) (l.map fun b=>Value.int .u8 b.toNat):=by
 induction l with
 |nil=>trivial
 |cons b l ih=>exact ⟨rfl,ih⟩
theorem appstr_ok (tk:TOK P KT T) {ts:Array TypeId} {x y:Operand} {ρ:Nat → SV} {z:ByteArray} (s:SI Γ ν h A) (d:∀ x,DV ν (sev ρ x) (ρe x)) (hy:sev ρ y=.v (.c (.str z))) (e:sappstr T ts (sev ρ x) z h=some (v,h',k,cs)) (hc:AllP cs):OpOk P Γ ν h A ρe (.call ⟨.builtin .append,⟨[x,y]⟩,ts⟩) v h' k:=by
 have ey:ρe y=.string z:=by have:=d y;rw [hy] at this;exact this
 unfold sappstr at e
 split at e
 ·rename_i t0 t1
  split at e
  ·rename_i el _ _ _ _ hT0 hT1;obtain ⟨hu,hE⟩:=tk.slice hT0 rfl
   have hnc:noCountB P ⟨[t0,t1]⟩=true:=by
    unfold noCountB;simp only [List.getElem?_toArray,List.getElem?_cons_succ,List.getElem?_cons_zero,tk.str hT1 rfl]
   rw [kofs_is] at e
   split at e
   ·rename_i f hf;obtain ⟨h1,h2⟩:=(KT el).ofs_is f hf
    have hlen:(f z).length=z.size:=by
     have:=congrArg List.length (h2 z)
     simpa using this
    have hflat:(f z).flatMap (KT el).enc=z.data.toList.map fun b=>SC.int .u8 b.toNat:=by
     rw [List.flatMap_def,h2 z]
     induction z.data.toList with
     |nil=>rfl
     |cons b l ih=>simp only [List.map_cons,List.flatten_cons,ih];rfl
    have hsrc:srcCells A (KT el).sz (ρe y)=some (z.data.toList.map fun b=>.int .u8 b.toNat,(f z).length):=by
     rw [ey,h1,hlen];rfl
    rw [klim_is] at e
    split at e
    ·rename_i b n hx;(have dx:DC ν (.sl b n) (ρe x):=by have:=d x;rw [hx] at this;exact this)
     split at e
     ·rename_i t xs root hg
      split at e
      ·rename_i ht;subst ht;rw [hkill_is,klen_is,klen_is,klen_is,hlen_is,happ_is] at e;simp only [Option.some.injEq,Prod.mk.injEq,Nat.zero_add] at e;obtain ⟨rfl,rfl,rfl,rfl⟩:=e;obtain ⟨c0_,c3_⟩:n=xs.length∧xs.length+(f z).length≤(KT t).lim:=hc;have hgi:=hg;rw [hget_is] at hgi;by_cases hz:(f z).length=0
       ·-- no bytes: the same slice
        have hnil:f z=[]:=List.eq_nil_of_length_eq_zero hz;obtain ⟨nv,m1,m2⟩:=s.emb.row b _ hgi;obtain ⟨sg,hxg⟩:=s.gone root b;(have hgk:(h.mapIdx fun j x=>kil root b false (0+j) x)[b]?=some ⟨.dead,root,true⟩:=by rw [kil_gone hgi b _ hgi,if_pos rfl]);simp only [Nat.zero_add] at sg hxg hgk ⊢;have sn:=SI.view (row':=.own t (xs ++ f z)) (nv':=nv) sg hgk m1 (fun ν' e=>by rw [hnil,List.append_nil];exact m2.up e fun _ _ _ _=>rfl) (fun blk base cap q=>⟨base,cap,q⟩);have e2:=nup_ext sg.emb.out nv
        obtain ⟨base,len,cap,ex⟩:∃ base len cap,ρe x=.slice base len cap:=by
         rcases dx with ⟨_,_,q⟩ | ⟨_,_,_,_,q⟩ | ⟨_,_,_,_,q⟩ <;> exact ⟨_,_,_,q⟩
        refine ⟨.val (ρe x) A,ρe x,A,_,fun w hw=>?_,.inl rfl,?_,sn,e2,hxg.trans (hx_app _),fun _=>trivial⟩
        ·unfold aop;rw [hw];simp only [abuiltin,List.map_toArray,List.map_cons,List.map_nil];unfold aappend;obtain ⟨i,i1,i2,i3,i4⟩:=hE.ex;have hpos:=(KT t).pos;simp only [List.getElem?_toArray,List.getElem?_cons_zero,Option.bind_some,hu,ex];rw [hnc];simp only [Bool.not_true,cond_false,hE.sz,i1];rw [Tr.beqf (by omega:¬ (KT t).sz=0),Tr.beqf i3,hE.fits];simp only [Bool.or_self,Bool.not_true,cond_false,hsrc];rw [Tr.beqt hz];rfl
        ·show DC _ (.sl _ _) _;rw [hnil,List.append_nil,← c0_];have hs:=nup_same (ν:=ν) (h.mapIdx fun j x=>kil root b false j x).length nv
         rcases dx with ⟨q1,q2,q3⟩ | ⟨a,q1,q2,q3,q4⟩ | ⟨blk,base',cap',q1,q2⟩
         ·rw [m1] at q1;cases q1;exact .inl ⟨hs,q2,q3⟩
         ·rw [m1] at q1;cases q1;exact .inr (.inl ⟨a,hs,q2,q3,q4⟩)
         ·rw [m1] at q1;cases q1;exact .inr (.inr ⟨_,_,_,hs,q2⟩)
       ·-- bytes: as_ the elements of a row
        have q:=append_core (T:=T) (el:=t) (y:=y) (x:=x) (ys:=f z) (m:=(f z).length) tk s d hT0 hnc (fun _ _=>⟨_,hsrc,by rw [hflat];exact DL.bytes _⟩) (h':=(h.mapIdx fun j x=>kil root b false (0+j) x) ++ [⟨.own t (xs ++ f z),(h.mapIdx fun j x=>kil root b false (0+j) x).length,true⟩]) (v:=c1 (.sl (h.mapIdx fun j x=>kil root b false (0+j) x).length (xs ++ f z).length)) (k:=(6,0)) (cs:=[n=xs.length,0 < (f z).length,(f z).length=(f z).length,xs.length+(f z).length≤(KT t).lim])
         (by
          unfold sapp2;rw [hx];simp only [hg,dite_true];rw [hkill_is,klen_is,klen_is,klen_is];unfold snew;rw [hlen_is,happ_is];simp only [Nat.zero_add]) ⟨c0_,by omega,rfl,c3_⟩
        obtain ⟨r,u,A',ν',q1,q2,q3,q4,q5,q6,_⟩:=q
        have hl0:∀ (i:Nat) (w:SR KT),(h.mapIdx fun j x=>kil root b false (0+j) x)[i]?=some w → w.root < (h.mapIdx fun j x=>kil root b false (0+j) x).length:=fun i w e=>by
         rw [List.getElem?_mapIdx] at e;cases hj:h[i]? with
         |none=>rw [hj] at e;cases e
         |some w0 =>
          rw [hj] at e;simp only [Option.map_some,Option.some.injEq] at e;rw [← e,(kil_hdr ..).1];have:=s.emb.rt i _ hj
          simpa using this
        have hrt:root < (h.mapIdx fun j x=>kil root b false (0+j) x).length:=by
         have:root < h.length:=s.emb.rt b _ hgi
         simpa using this
        simp only [Nat.zero_add] at q3 q4 q6 hl0 hrt ⊢;exact ⟨r,u,A',ν',q1,q2,q3,q4.reroot hl0 hrt,q5,(s.gone root b).2.trans (by simp only [Nat.zero_add];exact hx_app _),fun _=>trivial⟩
      ·cases e
     ·cases e
    ·cases e
   ·cases e
  ·cases e
 ·cases e
theorem foldI_of {ρ:Nat → SV} (d:∀ x,DV ν (sev ρ x) (ρe x)) {kk:IntKind} {f g:Int → Int → Int} (hfg:∀ a b,g a b=f a b):∀ (l:List Operand) (a r:Int),sfoldI f a (sevs ρ l)=some r → foldI g (.int kk a) (l.map ρe)=some (.int kk r)
 |[],a,r,e=>by
  simp only [sevs,sfoldI,Option.some.injEq] at e;subst e;rfl
 |x :: l,a,r,e=>by
  simp only [sevs] at e;unfold sfoldI at e
  split at e
  ·rename_i h0;cases h0
  ·rename_i a' k' b l' h0;simp only [List.cons.injEq] at h0;obtain ⟨hx,rfl⟩:=h0;(have ex:ρe x=.int k' b:=by have:=d x;rw [hx] at this;exact this);rw [List.map_cons,ex];simp only [foldI];rw [hfg];exact foldI_of d hfg l _ _ e
  ·cases e
theorem sfold_inv {ρ:Nat → SV} {f:Int → Int → Int} {x:Operand} {l:List Operand} (d:∀ x,DV ν (sev ρ x) (ρe x)) (e:sfold f (sev ρ x) (sevs ρ l) h=some (v,h',k,cs)):∃ kk a r,ρe x=.int kk a∧sfoldI f a (sevs ρ l)=some r∧v=c1 (.int kk r)∧h'=h∧k=(0,0):=by
 unfold sfold at e
 split at e
 ·rename_i kk a hx;have ex:ρe x=.int kk a:=by have:=d x;rw [hx] at this;exact this
  split at e
  ·rename_i r hr;cases e;exact ⟨kk,a,r,ex,hr,rfl,rfl,rfl⟩
  ·cases e
 ·cases e
theorem max_ok {ρ:Nat → SV} {x:Operand} {l:List Operand} {ts:Array TypeId} (s:SI Γ ν h A) (d:∀ x,DV ν (sev ρ x) (ρe x)) (e:sfold Go.Proofs.YtpbhkdamkbopkaaW.PrintWords.mx (sev ρ x) (sevs ρ l) h=some (v,h',k,cs)):OpOk P Γ ν h A ρe (.call ⟨.builtin .max,⟨x :: l⟩,ts⟩) v h' k:=by
 obtain ⟨kk,a,r,e1,e2,rfl,rfl,rfl⟩:=sfold_inv d e;refine OpOk.pure (u:=.int kk r) s (fun z hz=>?_) rfl rfl;unfold aop;rw [hz];simp only [abuiltin,List.map_toArray,List.map_cons,e1];rw [foldI_of d (fun a b=>?_) l a r e2]
 ·rfl
 ·by_cases q:a < b <;> simp [Go.Proofs.YtpbhkdamkbopkaaW.PrintWords.mx,ilt_spec,q]
theorem min_ok {ρ:Nat → SV} {x:Operand} {l:List Operand} {ts:Array TypeId} (s:SI Γ ν h A) (d:∀ x,DV ν (sev ρ x) (ρe x)) (e:sfold Go.Proofs.YtpbhkdamkbopkaaW.PrintWords.mn (sev ρ x) (sevs ρ l) h=some (v,h',k,cs)):OpOk P Γ ν h A ρe (.call ⟨.builtin .min,⟨x :: l⟩,ts⟩) v h' k:=by
 obtain ⟨kk,a,r,e1,e2,rfl,rfl,rfl⟩:=sfold_inv d e;refine OpOk.pure (u:=.int kk r) s (fun z hz=>?_) rfl rfl;unfold aop;rw [hz];simp only [abuiltin,List.map_toArray,List.map_cons,e1];rw [foldI_of d (fun a b=>?_) l a r e2]
 ·rfl
 ·by_cases q:b < a <;> simp [Go.Proofs.YtpbhkdamkbopkaaW.PrintWords.mn,ilt_spec,q]
theorem sop_ok (tk:TOK P KT T) {ρ:Nat → SV} (s:SI Γ ν h A) (d:∀ x,DV ν (sev ρ x) (ρe x)) (e:sop T ρ o h=some (v,h',k,cs)) (hc:AllP cs):OpOk P Γ ν h A ρe o v h' k:=by
 unfold sop at e
 split at e
 ·exact move_ok s (d _) (.inl rfl) e
 ·exact move_ok s (d _) (.inr rfl) e
 ·exact pick_ok s d e
 ·exact alloc_ok tk s e
 ·exact box_ok s d e
 ·exact build_ok tk s d e
 ·exact buildSlice_ok tk s d e
 ·exact load_ok tk s d e hc
 ·exact store_ok tk s d e hc
 ·exact nil_ok s d e
 ·exact bin_ok s d e hc
 ·exact un_ok s d e
 ·exact conv_ok tk s d e hc
 ·exact func_ok s d e
 ·exact makeSlice_ok tk s d e hc
 ·exact slice_ok tk s d e hc
 ·exact fieldAddr_ok tk s d e
 ·exact field_ok tk s d e
 ·exact indexAddr_ok tk s d e hc
 ·exact index_ok tk s d e hc
 ·exact extract_ok s d e
 ·split at e
  ·rename_i hy;exact appstr_ok tk s d hy e hc
  ·exact append_ok tk s d e hc
 ·exact len_ok tk s d e
 ·exact max_ok s d e
 ·exact min_ok s d e
 ·cases e
end Go.Proofs.Ytpbhkdamkbopkaa.Rs
namespace Go.Proofs.Ytpbhkdamkbopkaa.Rf
open Go
variable {P:Program} {μ:Mu} {A:AW} {w:World}
theorem guard_agg {op:BinOp} {t:TypeId} {ox oy:Operand} {xs ys:Array Value} (h:P.eqGuardType P.depth t=false):(eqGuard op t ox oy (.agg xs) (.agg ys)).run P w=.ok () w:=by
 unfold eqGuard;cases op <;> simp [program,Sem.run_bind,Sem.run,h] <;> rfl
theorem bin_str {op:BinOp} {t:TypeId} {a b:ByteArray} {r:Bool} (ho:op=.eql∧r=(a.data.toList == b.data.toList) ∨ op=.neq∧r=!(a.data.toList == b.data.toList)):(binOp op t (.string a) (.string b)).run P w=.ok (.bool r) w:=by
 rcases ho with ⟨rfl,rfl⟩ | ⟨rfl,rfl⟩ <;> simp [binOp,Op.stringOp,ByteArray.toList_eq]
theorem bin_eq {t : TypeId} {x y : Value} {b : Bool} (hx : (match x with | .int _ _ | .string _ | .float _ _ | .complex _ _ _ => False | _ => True)) (h : (Op.equalIn Op.maxDepth t x y).run P w = .ok b w) :
  (binOp .eql t x y).run P w=.ok (.bool b) w∧(binOp .neq t x y).run P w=.ok (.bool (!b)) w:=by
 cases x <;> simp only at hx <;> (constructor <;> simp [binOp,Op.equal,h])
theorem abin_sim {op : BinOp} {t : TypeId} {ox oy : Operand} {x y x' y' v : Value} (hx : VR μ x x') (hy : VR μ y y') (h : abin P op t x y = some v) :
    (do eqGuard op t ox oy x' y';binOp op t x' y':Sem Value).run P w=.ok v w∧VR μ v v:=by
  have eq1:∀ {b:Bool},aeq P 50 t x y=some b → (Op.equalIn Op.maxDepth t x' y').run P w=.ok b w:=fun {b} e=>aeq_sim (w:=w) 50 Op.maxDepth t x y x' y' b (by decide) hx hy e;unfold abin at h
  split at h
  · rename_i a b;cases hx;cases hy;simp only [Option.some.injEq] at h;subst h;exact ⟨by simp only [eqGuard_at_string,Sem.run_bind,Sem.run_pure,Result.andThen_ok];exact bin_str (.inl ⟨rfl,rfl⟩),.bool _⟩
  · rename_i a b;cases hx;cases hy;simp only [Option.some.injEq] at h;subst h;exact ⟨by simp only [eqGuard_at_string,Sem.run_bind,Sem.run_pure,Result.andThen_ok];exact bin_str (.inr ⟨rfl,rfl⟩),.bool _⟩
  · rename_i a b;cases hx;cases hy;cases hs:Nat.ble (a.size+b.size) 140737488351232 with
    | false=>rw [hs] at h;cases h
    | true =>
      rw [hs] at h;simp only [cond_true,Option.some.injEq] at h;subst h;have:=Nat.le_of_ble_eq_true hs;refine ⟨?_,.string _⟩;simp only [eqGuard_at_string,Sem.run_bind,Sem.run_pure,Result.andThen_ok];show (Op.stringOp .add a b).run P w=_;exact run_string_add_sum w a b (by omega)
  · rename_i k a k' b;cases hx;cases hy;have:=ibin_sim (P:=P) (μ:=μ) (w:=w) t h;exact ⟨by simp only [eqGuard_at_int,Sem.run_bind,Sem.run_pure,Result.andThen_ok];exact this.1,this.2⟩
  · rename_i xs ys;obtain ⟨xs',rfl,_⟩:=hx.agg_inv;obtain ⟨ys',rfl,_⟩:=hy.agg_inv;cases hg:P.eqGuardType P.depth t with
    | true=>rw [hg] at h;cases h
    | false =>
      rw [hg] at h;simp only [cond_false,Option.map_eq_some_iff] at h;obtain ⟨b,hb,rfl⟩:=h;exact ⟨by simp only [Sem.run_bind,guard_agg hg,Result.andThen_ok];exact (bin_eq trivial (eq1 hb)).1,.bool _⟩
  · rename_i xs ys;obtain ⟨xs',rfl,_⟩:=hx.agg_inv;obtain ⟨ys',rfl,_⟩:=hy.agg_inv;cases hg:P.eqGuardType P.depth t with
    | true=>rw [hg] at h;cases h
    | false =>
      rw [hg] at h;simp only [cond_false,Option.map_eq_some_iff] at h;obtain ⟨b,hb,rfl⟩:=h;exact ⟨by simp only [Sem.run_bind,guard_agg hg,Result.andThen_ok];exact (bin_eq trivial (eq1 hb)).2,.bool _⟩
  · split at h
    all_goals first
      | (cases h;done)
      | (simp only [Option.map_eq_some_iff] at h
         obtain ⟨b,hb,rfl⟩:=h;have e:=eq1 hb;refine ⟨?_,.bool _⟩;cases hx <;> simp only [eqGuard_at_bool,eqGuard_at_pointer,eqGuard_at_slice,eqGuard_at_nilFunc,eqGuard_at_func,Sem.run_bind,Sem.run_pure,Result.andThen_ok] <;> exact (bin_eq trivial e).1)
  · split at h
    all_goals first
      | (cases h;done)
      | (simp only [Option.map_eq_some_iff] at h
         obtain ⟨b,hb,rfl⟩:=h;have e:=eq1 hb;refine ⟨?_,.bool _⟩;cases hx <;> simp only [eqGuard_at_bool,eqGuard_at_pointer,eqGuard_at_slice,eqGuard_at_nilFunc,eqGuard_at_func,Sem.run_bind,Sem.run_pure,Result.andThen_ok] <;> exact (bin_eq trivial e).2)
  · cases h
theorem unop_sim {op:UnOp} {x x' v:Value} (hx:VR μ x x') (hs:scalar x=true) (h:pureRun P (Op.unary op x)=some v):(Op.unary op x').run P w=.ok v w∧VR μ v v:=by
 have e:=scalar_VR hs hx;subst e;cases x' <;> cases hs <;> cases op <;> simp [pureRun,Op.unary,Op.intArith,Op.intBits,stuck,Sem.run] at h ⊢ <;> (subst h;first | exact ⟨rfl,.int _ _⟩ | exact ⟨rfl,.bool _⟩)
end Go.Proofs.Ytpbhkdamkbopkaa.Rf
namespace Go.Proofs.Ytpbhkdamkbopkaa.Rf
open Go
variable {P:Program} {μ:Mu} {A:AW} {w:World}
def SimV (P:Program) (μ:Mu) (A:AW) (w:World) (r:Res) (m:Sem Value):Prop :=
 ∃ v A' μ' w' v',r=.val v A'∧m.run P w=.ok v' w'∧VR μ' v v'∧Post μ A w μ' A' w'
def Res.aw:Res → AW
 |.val _ A | .skip A | .enter _ _ A=>A
def Fresh (μ:Mu) (A A':AW):Prop:=∀ b,A.next≤b → b < A'.next → μ b=none
theorem strOf_spec:∀ (l:List Value) (s:List UInt8),strOf l=some s → ∃ ns:List Int,l=ns.map (Value.int .u8)∧s=ns.map fun n=>UInt8.ofNat n.toNat
 |[],s,h=>by simp only [strOf,Option.some.injEq] at h;subst h;exact ⟨[],rfl,rfl⟩
 |v :: l,s,h=>by
  unfold strOf at h
  split at h
  ·rename_i e;cases e
  ·rename_i n l' e;cases e;cases hs:strOf l with
   |none=>rw [hs] at h;cases h
   |some s' =>
    rw [hs] at h;simp only [Option.some.injEq] at h;subst h;obtain ⟨ns,h1,h2⟩:=strOf_spec l s' hs;exact ⟨n :: ns,by simp [h1],by simp [h2]⟩
  ·cases h
theorem LR.ints {ns:List Int} {l':List Value} (h:LR μ (ns.map (Value.int .u8)) l'):l'=ns.map (Value.int .u8):=by
 apply List.ext_getElem?;intro i;cases e:(ns.map (Value.int .u8))[i]? with
 |none=>exact h.none e
 |some v =>
  obtain ⟨v',h1,h2⟩:=h.get e;rw [List.getElem?_map] at e;cases hn:ns[i]? with
  |none=>rw [hn] at e;cases e
  |some n=>rw [hn] at e;simp at e;subst e;rw [h1,h2.int_inv]
theorem foldl_push:∀ (ns:List Int) (r:ByteArray),ns.foldl (fun r n=>r.push (UInt8.ofNat n.toNat)) r=⟨r.data ++ (ns.map fun n=>UInt8.ofNat n.toNat).toArray⟩
 |[],r=>by simp
 |n :: ns,r=>by
  simp only [List.foldl_cons];rw [foldl_push ns];simp [ByteArray.push]
theorem aconv_sim {s d:TypeId} {x x':Value} {r:Res} (R:Rel μ A.heap.get w) (hx:VR μ x x') (h:aconv P s d x A=some r) (hn:Fresh μ A r.aw):SimV P μ A w r (convert s d x'):=by
 unfold aconv at h
 split at h
 ·rename_i k k' k2 n e1 e2;cases hx;simp only [Option.some.injEq] at h;subst h;exact ⟨_,_,μ,w,_,rfl,by simp [convert,run_underlying e1,run_underlying e2,Conv.intToInt];rfl,by rw [wr_spec];exact .int _ _,Post.refl R⟩
 ·rename_i b e1 e2;cases hx;simp only [Option.some.injEq] at h;subst h;exact ⟨_,_,μ,w,_,rfl,by simp [convert,run_underlying e1,run_underlying e2],.string _,Post.refl R⟩
 ·rename_i e b e1 e2;cases hx
  split at h
  ·rename_i e3;simp only [Option.some.injEq] at h;subst h;have hm:μ A.next=none:=hn _ (Nat.le_refl _) (Nat.lt_succ_self _);have hr:=run_bytes_of_string (P:=P) w s d e b e1 e2 e3;have hge:=grownCap_ge w b.size 0 e
   have hC:bytesRow b (grownCap w b.size 0 e)=((b.data.toList.map fun (c:UInt8)=>Value.int .u8 c.toNat) ++ List.replicate (grownCap w b.size 0 e - b.size) (Value.int .u8 0)).toArray:=by
    unfold bytesRow;apply Array.ext';simp
   have hlen:((b.data.toList.map fun (c:UInt8)=>Value.int .u8 c.toNat) ++ List.replicate (grownCap w b.size 0 e - b.size) (Value.int .u8 0)).length=grownCap w b.size 0 e:=by
    have:b.data.size=b.size:=rfl;simp [this];omega
   have p1:=post_drew R
   have p2:=newRow_sim (w:=w.drew) p1.rel hm (l:=b.data.toList.map fun (c:UInt8)=>Value.int .u8 c.toNat) (l':=b.data.toList.map fun (c:UInt8)=>Value.int .u8 c.toNat) ⟨rfl,fun i v v' a b=>by
    rw [a] at b;cases b;rw [List.getElem?_map] at a;cases hq:(ByteArray.data _).toList[i]? with
    |none=>rw [hq] at a;cases a
    |some q=>rw [hq] at a;simp at a;subst a;exact .int _ _⟩ e (List.replicate (grownCap w b.size 0 e - b.size) (Value.int .u8 0)) (grownCap w b.size 0 e,grownCap w b.size 0 e+1) (by unfold FzOk;rw [hlen];exact .inr (Nat.le_refl _))
   rw [hlen] at p2;(have hz:(bytesRow b (grownCap w b.size 0 e)).size=grownCap w b.size 0 e:=by rw [hC];simpa using hlen);rw [hz,hC] at hr;refine ⟨_,_,_,_,_,rfl,hr,?_,p1.trans p2⟩;exact VR.slice (m:=⟨w.heap.size,0,grownCap w b.size 0 e⟩) rfl (upd_same _ _ _) hge (.inr (by simp))
  ·cases h
 ·rename_i e a len cap e1 e2
  split at h
  ·rename_i e3;cases hx;simp only [Option.some.injEq] at h;subst h;exact ⟨_,_,μ,w,_,rfl,by simp [convert,run_underlying e1,run_underlying e2,run_underlying e3,Conv.bytesToString],.string _,Post.refl R⟩
  ·rename_i a e3;cases hc:A.cells? a len with
   |none=>rw [hc] at h;cases h
   |some l =>
    rw [hc] at h;simp only [Option.map_eq_some_iff] at h;obtain ⟨b,hb,rfl⟩:=h;obtain ⟨ns,rfl,rfl⟩:=strOf_spec l b hb
    have key:∀ {a':Addr} {cap':Nat},AR μ a a' → ∃ v',(convert s d (.slice (some a') len cap')).run P w=.ok v' w∧VR μ (.string ⟨(ns.map fun n=>UInt8.ofNat n.toNat).toArray⟩) v':=fun {a' cap'} ha=>by
     obtain ⟨l',h1,h2,h3⟩:=cells_sim R ha hc;obtain rfl:=h1.ints;have hl:=run_loadCells_list (P:=P) w a' _ h3;rw [h2] at hl;have hr:=run_bytesToString (P:=P) w a' len cap' ns hl;rw [run_convert_bytes_string w s d e (some a') len cap' e1 e3 e2,hr,foldl_push];exact ⟨_,rfl,by simpa using VR.string _⟩
    cases hx with
    |slice hs hm hl hr =>
     obtain ⟨v',q1,q2⟩:=key (.at_ hs hm);exact ⟨_,_,μ,w,v',rfl,q1,q2,Post.refl R⟩
    |sliceO hs hl hk =>
     obtain ⟨v',q1,q2⟩:=key (.opq hs);exact ⟨_,_,μ,w,v',rfl,q1,q2,Post.refl R⟩
  ·cases h
 ·cases h
def OpR (μ:Mu) (ρ ρ':Operand → Value) (x:Operand):Prop:=VR μ (ρ x) (ρ' x)
theorem optN_spec {ρ ρ':Operand → Value} {d n:Nat} {o:Option Operand} (hr:∀ x,o=some x → OpR μ ρ ρ' x) (h:optN d ρ o=some n):(o=none∧n=d) ∨ ∃ x k,o=some x∧ρ' x=.int k (n:Int):=by
 cases o with
 |none=>simp only [optN,Option.some.injEq] at h;exact .inl ⟨rfl,h.symm⟩
 |some x =>
  obtain ⟨k,hk⟩:=asN_spec h;have:=hr x rfl;unfold OpR at this;rw [hk] at this;exact .inr ⟨x,k,rfl,this.int_inv⟩
theorem bound_run {k:IntKind} {n y:Nat} {c:BoundsCode} (h:n≤y):(Instr.sliceBound (.int k (n:Int)) y c).run P w=.ok n w:=by
 have:(n:Int)≤y:=by omega
 simp [Instr.sliceBound,asIntOf,this]
theorem bounds_run {ρ ρ' : Operand → Value} {b : Bool} {len cap l h : Nat} {lo hi : Option Operand} (hlo : ∀ x, lo = some x → OpR μ ρ ρ' x) (hhi : ∀ x, hi = some x → OpR μ ρ ρ' x) (e1 : optN 0 ρ lo = some l) (e2 : optN len ρ hi = some h) (h1 : l ≤ h) (h2 : h ≤ len) (h3 : len ≤ cap) :
  (Instr.sliceBounds b len cap (lo.map ρ') (hi.map ρ') none).run P w=.ok (l,h,cap) w:=by
 have hb:=bound_run (P:=P) (w:=w) (k:=.i64) (c:=.sliceB) h1
 rcases optN_spec hlo e1 with ⟨rfl,rfl⟩ | ⟨x,k,rfl,hx⟩ <;> rcases optN_spec hhi e2 with ⟨rfl,rfl⟩ | ⟨y,k',rfl,hy⟩ <;> unfold Instr.sliceBounds <;>
  simp only [Option.map_none,Option.map_some, *,Sem.run_bind,Sem.run_pure,Result.andThen_ok,Option.isSome_none,Bool.false_eq_true,if_false]
 ·rw [bound_run (by omega)];simp
 ·rw [bound_run h1];simp
 ·rw [bound_run (by omega)];simp only [Result.andThen_ok];rw [bound_run h1];simp
theorem aslice_sim {t : TypeId} {x x' v : Value} {ρ ρ' : Operand → Value} {lo hi mx : Option Operand} (hx : VR μ x x') (hlo : ∀ y, lo = some y → OpR μ ρ ρ' y) (hhi : ∀ y, hi = some y → OpR μ ρ ρ' y) (hmx : ∀ y, mx = some y → OpR μ ρ ρ' y)
  (h:aslice P t x ρ lo hi mx=some v):∃ v',(Instr.sliceAt t x' (lo.map ρ') (hi.map ρ') (mx.map ρ')).run P w=.ok v' w∧VR μ v v':=by
 unfold aslice at h
 split at h
 ·rename_i s e1;cases hx
  split at h
  ·rename_i l hh h1 h2;cases hb:(Nat.ble l hh && Nat.ble hh s.size) with
   |false=>rw [hb] at h;cases h
   |true =>
    rw [hb] at h;simp only [cond_true,Option.some.injEq] at h;subst h;simp only [Bool.and_eq_true] at hb;have:=bounds_run (P:=P) (w:=w) (b:=false) hlo hhi h1 h2 (Nat.le_of_ble_eq_true hb.1) (Nat.le_of_ble_eq_true hb.2) (Nat.le_refl _);refine ⟨.string (s.extract l hh),?_,.string _⟩;simp [Instr.sliceAt,Instr.slice,run_underlying e1,this]
  ·cases h
 ·rename_i e a len cap e1
  split at h
  ·rename_i l hh n h1 h2 hs;obtain ⟨i,hi',hn⟩:=sz_spec hs;cases hb:(Nat.ble l hh && Nat.ble hh len) with
   |false=>rw [hb] at h;cases h
   |true =>
    rw [hb] at h;simp only [cond_true] at h;simp only [Bool.and_eq_true] at hb;have hle1:=Nat.le_of_ble_eq_true hb.1;have hle2:=Nat.le_of_ble_eq_true hb.2
    have key:∀ (a':Option Addr) (cap':Nat),len≤cap' → (Instr.sliceAt t (.slice a' len cap') (lo.map ρ') (hi.map ρ') none).run P w=.ok (.slice (if cap'=l then a' else a'.map (·.add (l*n))) (hh - l) (cap' - l)) w:=fun a' cap' hc=>by
     have:=bounds_run (P:=P) (w:=w) (b:=true) hlo hhi h1 h2 hle1 hle2 hc;simp [Instr.sliceAt,Instr.slice,run_underlying e1,this,run_sz hi',hn]
    cases a with
    |none =>
     simp only [Option.some.injEq] at h;subst h;cases hx;(have h0:l=0:=by omega);(have h00:hh=0:=by omega);subst h0;subst h00;exact ⟨_,key none 0 (Nat.le_refl _),by simpa using VR.slice0⟩
    |some a =>
     simp only at h;cases hlh:Nat.beq l hh with
     |true =>
      have hlh':=Nat.eq_of_beq_eq_true hlh;rw [hlh] at h;simp only [cond_true,Option.some.injEq] at h;subst h;subst hlh';cases hx with
      |slice hsp hm hl hr =>
       refine ⟨_,key _ _ hl,?_⟩;rw [Nat.sub_self]
       split
       ·exact .sliceO rfl (Nat.zero_le _) (.inl rfl)
       ·exact .sliceO rfl (Nat.zero_le _) (.inl rfl)
      |sliceO hsp hl hk =>
       refine ⟨_,key _ _ hl,?_⟩;rw [Nat.sub_self]
       split
       ·exact .sliceO rfl (Nat.zero_le _) (.inl rfl)
       ·exact .sliceO rfl (Nat.zero_le _) (.inl rfl)
     |false =>
      (have hne:l ≠ hh:=fun e=>by subst e;simp at hlh);rw [hlh] at h;simp only [cond_false] at h;cases hsp:a.spot with
      |some k=>rw [hsp] at h;cases h
      |none =>
       rw [hsp] at h;simp only at h;cases hcn:(Nat.beq cap n || Nat.beq cap 0) with
       |false=>rw [hcn] at h;cases h
       |true =>
        rw [hcn] at h;simp only [cond_true,Option.some.injEq] at h;subst h;simp only [Bool.or_eq_true] at hcn;cases hx with
        |sliceO hsp' hl hk=>rw [hsp] at hsp';cases hsp'
        |slice hsp' hm hl hr =>
         rename_i m cap';refine ⟨_,key _ _ hl,?_⟩;rw [if_neg (by omega),Option.map_some,add_off,Nat.add_assoc];refine .slice (m:=m) rfl hm (by omega) ?_
         rcases hcn with hcn | hcn
         ·have:=Nat.eq_of_beq_eq_true hcn;subst this
          rcases hr with hr | hr
          ·exact .inl hr
          ·obtain ⟨c,rfl⟩:∃ c,cap'=l+c:=⟨cap' - l,by omega⟩;refine .inr ?_;rw [show l+c - l=c by omega];show a.off+l*cap+c*cap≤m.room;rw [Nat.add_mul] at hr;omega
         ·exact .inl (Nat.eq_of_beq_eq_true hcn)
  ·rename_i m0 nn h1 h2 hs;obtain ⟨i,hi',hn⟩:=sz_spec hs;cases hi with
   |none=>cases h
   |some hx0 =>
    simp only [Option.isSome_some,Bool.not_true,cond_false] at h
    have key:optN 0 ρ (some m0)=some 0 → ∀ (a':Option Addr) (cap':Nat),(Instr.sliceAt t (.slice a' len cap') (lo.map ρ') (some (ρ' hx0)) (some (ρ' m0))).run P w=.ok (.slice a' 0 0) w:=fun h3 a' cap'=>by
     rcases optN_spec hmx h3 with ⟨q,_⟩ | ⟨x,k,q,hm0⟩
     ·cases q
     cases q
     rcases optN_spec hhi h2 with ⟨q,_⟩ | ⟨y,k',q,hy⟩
     ·cases q
     cases q;have b1:(Instr.sliceBound (.int k 0) cap' .slice3Acap).run P w=.ok 0 w:=bound_run (n:=0) (Nat.zero_le cap');have b2:(Instr.sliceBound (.int k' 0) 0 .slice3B).run P w=.ok 0 w:=bound_run (n:=0) (Nat.zero_le 0);have b3:∀ q,(Instr.sliceBound (.int q 0) 0 .slice3C).run P w=.ok 0 w:=fun q=>bound_run (n:=0) (Nat.zero_le 0)
     rcases optN_spec hlo h1 with ⟨rfl,_⟩ | ⟨z,k2,rfl,hz⟩
     ·simp [Instr.sliceAt,Instr.slice,run_underlying e1,Instr.sliceBounds,hm0,hy,b1,b2,run_sz hi']
     ·simp [Instr.sliceAt,Instr.slice,run_underlying e1,Instr.sliceBounds,hm0,hy,hz,b1,b2,b3,run_sz hi']
    split at h
    ·rename_i h3;simp only [Option.some.injEq] at h;subst h;cases hx;exact ⟨_,key h3 none 0,.slice0⟩
    ·rename_i a h3;simp only [Option.some.injEq] at h;subst h;cases hx with
     |slice hsp hm hl hr=>exact ⟨_,key h3 _ _,.sliceO rfl (Nat.le_refl _) (.inr rfl)⟩
     |sliceO hsp hl hk=>exact ⟨_,key h3 _ _,.sliceO rfl (Nat.le_refl _) (.inr rfl)⟩
    ·cases h
  ·cases h
 ·rename_i n e a e1
  split at h
  ·rename_i l hh k h1 h2 hs hsp;obtain ⟨i,hi',hn⟩:=sz_spec hs;obtain ⟨a',rfl,ha⟩:=hx.ptr_inv;cases hb:(Nat.blt l hh && Nat.ble hh n) with
   |false=>rw [hb] at h;cases h
   |true =>
    rw [hb] at h;simp only [cond_true,Option.some.injEq] at h;subst h;simp only [Bool.and_eq_true] at hb;have hle1:l < hh:=Nat.le_of_ble_eq_true hb.1;have hle2:=Nat.le_of_ble_eq_true hb.2;have:=bounds_run (P:=P) (w:=w) (b:=false) hlo hhi h1 h2 (Nat.le_of_lt hle1) hle2 (Nat.le_refl _);cases ha with
    |opq hq=>rw [hsp] at hq;cases hq
    |at_ hq hm =>
     rename_i m;refine ⟨.slice (some ⟨m.blk,m.base+(a.off+l*k),none⟩) (hh - l) (n - l),?_,.slice (a:=⟨a.block,a.off+l*k,none⟩) rfl hm (by omega) (.inl rfl)⟩;simp only [Instr.sliceAt,Sem.run_bind,run_underlying e1,Result.andThen_ok,Instr.sureAddr,Sem.run_pure,this,run_sz hi',hn,Option.map_none];rw [if_neg (by omega),add_off,Nat.add_assoc]
  ·cases h
 ·cases h
end Go.Proofs.Ytpbhkdamkbopkaa.Rf
namespace Go.Proofs.Ytpbhkdamkbopkaa.Rf
open Go
variable {P:Program} {μ:Mu} {A:AW} {w:World}
theorem blt_lt {a b:Nat} (h:Nat.blt a b=true):a < b:=Nat.le_of_ble_eq_true h
theorem indexAddr_sim {t:TypeId} {x x' i i' v:Value} (hx:VR μ x x') (hi:VR μ i i') (h:aindexAddr P t x i=some v):∃ v',(Instr.indexAt t x' i').run P w=.ok v' w∧VR μ v v':=by
 unfold aindexAddr at h
 split at h
 ·rename_i e a len cap n e1 e2;obtain ⟨k,rfl⟩:=asN_spec e2;obtain rfl:=hi.int_inv
  split at h
  ·rename_i sz1 hs hsp;obtain ⟨inf,hi',hn⟩:=sz_spec hs;cases hb:Nat.blt n len with
   |false=>rw [hb] at h;cases h
   |true =>
    rw [hb] at h;simp only [cond_true,Option.some.injEq] at h;subst h;have hlt:=blt_lt hb;cases hx with
    |sliceO hq=>rw [hsp] at hq;cases hq
    |slice hq hm hl hr =>
     rename_i m cap';refine ⟨.pointer (some ⟨m.blk,m.base+(a.off+n*sz1),none⟩),?_,.ptr (.at_ (a:=⟨a.block,a.off+n*sz1,none⟩) rfl hm)⟩;simp [Instr.indexAt,run_underlying e1,asIntOf,hlt,run_sz hi',hn,add_off,Nat.add_assoc]
  ·cases h
 ·rename_i len e a n e1 e2;obtain ⟨k,rfl⟩:=asN_spec e2;obtain rfl:=hi.int_inv
  split at h
  ·rename_i sz1 hs hsp;obtain ⟨inf,hi',hn⟩:=sz_spec hs;cases hb:Nat.blt n len with
   |false=>rw [hb] at h;cases h
   |true =>
    rw [hb] at h;simp only [cond_true,Option.some.injEq] at h;subst h;have hlt:=blt_lt hb;obtain ⟨a',rfl,ha⟩:=hx.ptr_inv;cases ha with
    |opq hq=>rw [hsp] at hq;cases hq
    |at_ hq hm =>
     rename_i m;refine ⟨.pointer (some ⟨m.blk,m.base+(a.off+n*sz1),none⟩),?_,.ptr (.at_ (a:=⟨a.block,a.off+n*sz1,none⟩) rfl hm)⟩;simp [Instr.indexAt,run_underlying e1,asIntOf,Instr.sureAddr,hlt,run_sz hi',hn,add_off,Nat.add_assoc]
  ·cases h
 ·cases h
theorem index_sim {t:TypeId} {x x' i i' v:Value} (hx:VR μ x x') (hi:VR μ i i') (h:aindex P t x i=some v):∃ v',(Instr.index t x' i').run P w=.ok v' w∧VR μ v v':=by
 unfold aindex at h
 split at h
 ·rename_i s n e1 e2;obtain ⟨k,rfl⟩:=asN_spec e2;obtain rfl:=hi.int_inv;obtain rfl:=hx.str_inv;simp only [Option.map_eq_some_iff] at h;obtain ⟨b,hb,rfl⟩:=h
  have hb2:s[n]?=some b:=by
   have hlt:n < s.data.toList.length:=(List.getElem?_eq_some_iff.1 hb).1;(have hlt2:n < s.size:=by simpa using hlt);rw [getElem?_pos s n hlt2];have:=(List.getElem?_eq_some_iff.1 hb).2;rw [← this];rfl
  refine ⟨_,?_,.int _ _⟩;simp [Instr.index,asIntOf,run_underlying e1,hb2]
 ·rename_i len e cs n e1 e2;obtain ⟨k,rfl⟩:=asN_spec e2;obtain rfl:=hi.int_inv;obtain ⟨cs',rfl,hl⟩:=hx.agg_inv
  split at h
  ·rename_i sz1 hs;obtain ⟨inf,hi',hn⟩:=sz_spec hs;cases hb:Nat.blt n len with
   |false=>rw [hb] at h;cases h
   |true =>
    rw [hb] at h;simp only [cond_true] at h;have hlt:=blt_lt hb;obtain ⟨v',h1,h2⟩:=part_sim (w:=w) hl h;refine ⟨v',?_,h2⟩;simp [Instr.index,asIntOf,run_underlying e1,hlt,run_sz hi',hn,h1]
  ·cases h
 ·cases h
theorem fieldAddr_sim {s : TypeId} {fs : Array Field} {fd : Field} {f n : Nat} {a a' : Addr} (e1 : P.underlying s = some (.struct fs)) (hf : fs[f]? = some fd) (hsp : a.spot = none) (hs : sz P fd.type = some n) (hn : n ≠ 0) (ha : AR μ a a') :
  ∃ v',(Instr.fieldAt s (.pointer (some a')) f).run P w=.ok v' w∧VR μ (.pointer (some ⟨a.block,a.off+fd.offset,none⟩)) v':=by
 obtain ⟨inf,hi',hn'⟩:=sz_spec hs;cases ha with
 |opq hq=>rw [hsp] at hq;cases hq
 |at_ hq hm =>
  rename_i m;refine ⟨.pointer (some ⟨m.blk,m.base+(a.off+fd.offset),none⟩),?_,.ptr (.at_ (a:=⟨a.block,a.off+fd.offset,none⟩) rfl hm)⟩;have:inf.size ≠ 0:=by omega
  simp [Instr.fieldAt,run_underlying e1,hf,Instr.sureAddr,fieldPlace,run_sz hi',this,add_off,Nat.add_assoc]
theorem field_sim {t : TypeId} {fs : Array Field} {fd : Field} {f : Nat} {cs cs' : Array Value} {v : Value} (e1 : P.underlying t = some (.struct fs)) (hf : fs[f]? = some fd) (hl : LR μ cs.toList cs'.toList) (h : apart P fd.type cs fd.offset = some v) :
  ∃ v',(Instr.field t (.agg cs') f).run P w=.ok v' w∧VR μ v v':=by
 obtain ⟨v',h1,h2⟩:=part_sim (w:=w) hl h;exact ⟨v',by simp [Instr.field,run_underlying e1,hf,asAgg,h1],h2⟩
theorem foldl_LR : ∀ (l l' : List Value) (k off : Nat) (C C' : Array Value), LR μ l l' → LR μ C.toList C'.toList →
  LR μ ((l.zipIdx k).foldl (fun cs (x:Value × Nat)=>cs.setIfInBounds (off+x.2) x.1) C).toList ((l'.zipIdx k).foldl (fun cs (x:Value × Nat)=>cs.setIfInBounds (off+x.2) x.1) C').toList
 |[],[],_,_,_,_,_,h=>h
 |[],_ :: _,_,_,_,_,h,_=>by have:=h.1;simp at this
 |_ :: _,[],_,_,_,_,h,_=>by have:=h.1;simp at this
 |v :: l,v' :: l',k,off,C,C',hl,hC=>by
  simp only [List.zipIdx_cons,List.foldl_cons];have hv:VR μ v v':=hl.2 0 v v' rfl rfl;have ht:LR μ l l':=⟨by simpa using hl.1,fun i x x' a b=>hl.2 (i+1) x x' (by simpa using a) (by simpa using b)⟩;refine foldl_LR l l' (k+1) off _ _ ht ⟨by simpa using hC.1,fun i x x' a b=>?_⟩;simp only [Array.getElem?_toList,Array.getElem?_setIfInBounds] at a b;have hs:C.size=C'.size:=by simpa using hC.1
  by_cases hi:off+k=i
  ·rw [if_pos hi] at a b
   split at a <;> try cases a
   rw [← hs] at b
   split at b <;> try cases b
   ·exact hv
   ·rename_i h1 h2;exact absurd h1 h2
  ·rw [if_neg hi] at a b;exact hC.2 i x x' (by simpa using a) (by simpa using b)
def PR (μ:Mu):List (Nat × Value) → List (Nat × Value) → Prop
 |[],[]=>True
 |a :: l,b :: l'=>a.1=b.1∧VR μ a.2 b.2∧PR μ l l'
 |_,_=>False
theorem fill_LR (pl:Nat → Option (Nat × Nat)):∀ (l l':List (Nat × Value)) (C C' r:Array Value),PR μ l l' → LR μ C.toList C'.toList → Instr.fill pl C l=some r → ∃ r',Instr.fill pl C' l'=some r'∧LR μ r.toList r'.toList
 |[],[],C,C',r,_,hC,h=>by simp only [Instr.fill,Option.some.injEq] at h;subst h;exact ⟨C',rfl,hC⟩
 |[],_ :: _,_,_,_,h,_,_=>h.elim
 |_ :: _,[],_,_,_,h,_,_=>h.elim
 |(i,v) :: l,(i',v') :: l',C,C',r,hp,hC,h=>by
  obtain ⟨hi,hv,ht⟩:=hp;simp only at hi;subst hi;unfold Instr.fill at h ⊢;cases hpl:pl i with
  |none=>rw [hpl] at h;cases h
  |some os =>
   obtain ⟨off,size⟩:=os;rw [hpl] at h;simp only at h ⊢;have hvc:=hv.cells;(have hsz:v'.cells.size=v.cells.size:=by have:=hvc.1;simp at this;exact this.symm);(have hCs:C'.size=C.size:=by have:=hC.1;simp at this;exact this.symm);rw [hsz,hCs]
   split at h
   ·cases h
   ·rename_i hc;rw [if_neg hc];refine fill_LR pl l l' _ _ r ht ?_ h;rw [← Array.foldl_toList,← Array.foldl_toList,Array.toList_zipIdx,Array.toList_zipIdx];exact foldl_LR v.cells.toList v'.cells.toList 0 off C C' hvc hC
theorem PR_map {ρ ρ':Operand → Value}:∀ (ps:List (Nat × Operand)),(∀ p ∈ ps,OpR μ ρ ρ' p.2) → PR μ (ps.map fun (i,x)=>(i,ρ x)) (ps.map fun (i,x)=>(i,ρ' x))
 |[],_=>trivial
 |p :: ps,h=>⟨rfl,h p (by simp),PR_map ps fun q hq=>h q (by simp [hq])⟩
theorem LR.self {z:Value} (h:∀ μ,VR μ z z):LR μ z.cells.toList z.cells.toList:=(h μ).cells
theorem build_sim {t:TypeId} {l l':List (Nat × Value)} {v:Value} (hp:PR μ l l') (h:abuild P t l=some v):∃ v',(Instr.build t l'.toArray).run P w=.ok v' w∧VR μ v v':=by
 unfold abuild at h
 split at h
 ·rename_i z fs e1 e2;obtain ⟨inf,hi,hz,hr⟩:=zeroOf_spec e1
  split at h
  ·rename_i pl hpl;simp only [Option.map_eq_some_iff] at h;obtain ⟨r,hf,rfl⟩:=h;obtain ⟨r',h1,h2⟩:=fill_LR (fun i=>pl[i]?) l l' _ _ r hp (LR.self hr) hf;refine ⟨.agg r',?_,VR.agg' h2⟩
   have hm:∀ (fl:List Field) (pl:List (Nat × Nat)) (w:World),fl.mapM (fun f=>(sz P f.type).map fun n=>(f.offset,n))=some pl → (fl.mapM (m:=Sem) fun f=>do pure (f.offset,← sizeOf f.type)).run P w=.ok pl w:=by
    intro fl
    induction fl with
    |nil=>intro pl w h;simp at h;subst h;simp
    |cons f fl ih =>
     intro pl w h;rw [List.mapM_cons] at h;simp only [bind,Option.bind_eq_some_iff,pure,Option.some.injEq] at h;obtain ⟨a,h1,b,h2,rfl⟩:=h;simp only [Option.map_eq_some_iff] at h1;obtain ⟨n,h3,rfl⟩:=h1;obtain ⟨i3,h4,h5⟩:=sz_spec h3;rw [List.mapM_cons];simp only [Sem.run_bind,run_sz h4,h5,Result.andThen_ok,Sem.run_pure,ih b w h2]
   have hm2:=hm fs.toList pl w hpl
   have hm3:(fs.mapM (m:=Sem) fun f=>do pure (f.offset,← sizeOf f.type)).run P w=.ok pl.toArray w:=by
    rw [Array.mapM_eq_mapM_toList];simp only [Sem.run_map,hm2,Result.andThen_ok]
   simp only [Instr.build,Sem.run_bind,run_zero hi hz,Result.andThen_ok,run_underlying e2,hm3];(have:(fun (i:Nat)=>(pl.toArray)[i]?)=fun (i:Nat)=>pl[i]?:=by funext i;simp);rw [this,h1];rfl
  ·cases h
 ·rename_i z k e e1 e2;obtain ⟨inf,hi,hz,hr⟩:=zeroOf_spec e1
  split at h
  ·rename_i n hs;obtain ⟨i2,hi2,hn⟩:=sz_spec hs;simp only [Option.map_eq_some_iff] at h;obtain ⟨r,hf,rfl⟩:=h;obtain ⟨r',h1,h2⟩:=fill_LR _ l l' _ _ r hp (LR.self hr) hf;refine ⟨.agg r',?_,VR.agg' h2⟩;simp [Instr.build,run_zero hi hz,run_underlying e2,run_sz hi2,hn,h1]
  ·cases h
 ·cases h
end Go.Proofs.Ytpbhkdamkbopkaa.Rf
namespace Go.Proofs.Ytpbhkdamkbopkaa.Rf
open Go
variable {P:Program} {μ:Mu} {A:AW} {w:World}
theorem LR.refl {l:List Value} (h:∀ v ∈ l,VR μ v v):LR μ l l:=⟨rfl,fun i v v' a b=>by rw [a] at b;cases b;exact h v (List.mem_of_getElem? a)⟩
theorem buildSlice_sim {t:TypeId} {len:Nat} {l l':List (Nat × Value)} {r:Res} (R:Rel μ A.heap.get w) (hp:PR μ l l') (h:abuildSlice P t len l A=some r) (hf:Fresh μ A r.aw):SimV P μ A w r (Instr.buildSlice t len l'.toArray):=by
 unfold abuildSlice at h
 split at h
 ·rename_i e e1
  split at h
  ·rename_i n z h1 h2;obtain ⟨i,hi,hn⟩:=sz_spec h1;obtain ⟨i2,hi2,hz,hr⟩:=zeroOf_spec h2;cases hb:(Nat.ble (len*n) 1000000 && Nat.blt 0 n) with
   |false=>rw [hb] at h;cases h
   |true =>
    rw [hb] at h;simp only [cond_true] at h;simp only [Bool.and_eq_true] at hb;have hle:=Nat.le_of_ble_eq_true hb.1;cases hfl:Instr.fill (fun i=>some (i*n,n)) ((Array.range (len*n)).map (z.cells[· % z.cells.size]!)) l with
    |none=>rw [hfl] at h;cases h
    |some cs =>
     rw [hfl] at h;simp only at h;cases hfc:cs.toList.all flatCell with
     |false=>rw [hfc] at h;cases h
     |true =>
      rw [hfc] at h;simp only [cond_true,Option.some.injEq] at h;subst h;have hzc:=(LR.self hr (μ:=μ))
      have hcell:∀ (j:Nat),VR μ (z.cells[j % z.cells.size]!) (z.cells[j % z.cells.size]!):=fun j=>by
       rcases Nat.eq_zero_or_pos z.cells.size with h0 | h0
       ·rw [show z.cells[j % z.cells.size]! = default from getElem!_neg z.cells _ (by omega)];exact .bool _
       ·have hlt:=Nat.mod_lt j h0;have e:z.cells[j % z.cells.size]! = z.cells[j % z.cells.size]:=getElem!_pos z.cells _ hlt;rw [e];exact hzc.2 (j % z.cells.size) _ _ (by simp [hlt]) (by simp [hlt])
      obtain ⟨cs',h3,h4⟩:=fill_LR _ l l' _ _ cs hp (LR.refl fun v hv=>by
       simp only [Array.toList_map,List.mem_map] at hv;obtain ⟨j,_,rfl⟩:=hv;exact hcell j) hfl
      have hsz:∀ (C:Array Value) (l:List (Nat × Value)) (r:Array Value),Instr.fill (fun i=>some (i*n,n)) C l=some r → r.size=C.size:=by
       intro C l
       induction l generalizing C with
       |nil=>intro r h;simp only [Instr.fill,Option.some.injEq] at h;subst h;rfl
       |cons p l ih =>
        intro r h;obtain ⟨i,v⟩:=p;unfold Instr.fill at h;simp only at h
        split at h
        ·cases h
        ·rw [ih _ r h];rw [← Array.foldl_toList]
         have:∀ (q:List (Value × Nat)) (C:Array Value),(q.foldl (fun cs (x:Value × Nat)=>cs.setIfInBounds (i*n+x.2) x.1) C).size=C.size:=by
          intro q
          induction q with
          |nil=>intro C;rfl
          |cons a q ih=>intro C;simp only [List.foldl_cons];rw [ih];simp
         exact this _ C
      (have hcs:cs'.size=len*n:=by rw [hsz _ _ _ h3];simp);have hm:μ A.next=none:=hf _ (Nat.le_refl _) (Nat.lt_succ_self _);have p:=newRow_sim (w:=w) R hm h4 e [] (0,0) (.inl (Nat.le_refl _));simp only [List.append_nil,Array.toArray_toList,Array.length_toList,hcs] at p;refine ⟨_,_,_,_,.slice (some ⟨w.heap.size,0,none⟩) len len,rfl,?_,?_,p⟩
      ·have hle':¬ (len*n > 2 ^ 24):=by omega
       by_cases h0:len*n=0;rotate_left
       ·simp only [Instr.buildSlice,Sem.run_bind,run_underlying e1,Result.andThen_ok,run_sz hi,hn,if_neg hle',if_neg h0,run_zero hi2 hz,Sem.run_pure,h3];rfl
       have h3':Instr.fill (fun i=>some (i*n,n)) ((Array.range 0).map ((#[]:Array Value)[· % (#[]:Array Value).size]!)) l'=some cs':=by
        rw [h0,Array.range_zero',Array.map_empty] at h3;rw [Array.range_zero',Array.map_empty];exact h3
       simp only [Instr.buildSlice,Sem.run_bind,run_underlying e1,Result.andThen_ok,run_sz hi,hn,if_neg hle',if_pos h0,Sem.run_pure];rw [h0];simp only [h3'];rfl
      ·exact VR.slice (m:=⟨w.heap.size,0,len*n⟩) rfl (upd_same _ _ _) (Nat.le_refl _) (.inr (by simp))
  ·cases h
 ·cases h
theorem makeSlice_sim {t:TypeId} {l c l' c':Value} {r:Res} (R:Rel μ A.heap.get w) (hl:VR μ l l') (hc:VR μ c c') (h:amakeSlice P t l c A=some r) (hf:Fresh μ A r.aw):SimV P μ A w r (Instr.makeSlice t l' c'):=by
 unfold amakeSlice at h
 split at h
 ·rename_i e n m e1 el ec;obtain ⟨k1,rfl⟩:=asN_spec el;obtain ⟨k2,rfl⟩:=asN_spec ec;obtain rfl:=hl.int_inv;obtain rfl:=hc.int_inv
  split at h
  ·rename_i i hi
   split at h
   ·rename_i z hz0;obtain ⟨i2,hi2,hz,hr⟩:=zeroOf_spec hz0;rw [hi] at hi2;cases hi2;cases hb:(Nat.blt 0 z.cells.size && Nat.beq z.cells.size i.size && Nat.ble n m && Nat.ble (i.bytes*m) 281474976710656 && Nat.ble m 281474976710656) with
    |false=>rw [hb] at h;cases h
    |true =>
     rw [hb] at h;simp only [cond_true,Option.some.injEq] at h;subst h;simp only [Bool.and_eq_true] at hb;obtain ⟨⟨⟨⟨b1,b2⟩,b3⟩,b4⟩,b5⟩:=hb;have b1:=blt_lt b1;have b2:=Nat.eq_of_beq_eq_true b2;have b3:=Nat.le_of_ble_eq_true b3;have b4:=Nat.le_of_ble_eq_true b4;have b5:=Nat.le_of_ble_eq_true b5;have hm:μ A.next=none:=hf _ (Nat.le_refl _) (Nat.lt_succ_self _);have hzc:=(LR.self hr (μ:=μ))
     have hcell:∀ (j:Nat),VR μ (z.cells[j % z.cells.size]!) (z.cells[j % z.cells.size]!):=fun j=>by
      have hlt:=Nat.mod_lt j b1;have e:z.cells[j % z.cells.size]! = z.cells[j % z.cells.size]:=getElem!_pos z.cells _ hlt;rw [e];exact hzc.2 (j % z.cells.size) _ _ (by simp [hlt]) (by simp [hlt])
     have hsplit:((Array.range (m*i.size)).map (z.cells[· % z.cells.size]!)).toList=((List.range (n*i.size)).map (z.cells[· % z.cells.size]!)) ++ ((List.range' (n*i.size) ((m - n)*i.size)).map (z.cells[· % z.cells.size]!)):=by
      rw [Array.toList_map,Array.toList_range,← List.map_append]
      congr 1
      obtain ⟨q,rfl⟩:∃ q,m=n+q:=⟨m - n,by omega⟩;rw [show n+q - n=q by omega,Nat.add_mul,List.range_eq_range',List.range_eq_range'];have e:=List.range'_append_1 (s:=0) (m:=n*i.size) (n:=q*i.size);rw [Nat.zero_add] at e;exact e.symm
     have p:=newRow_sim (w:=w) R hm (LR.refl (μ:=μ) (l:=(List.range (n*i.size)).map (z.cells[· % z.cells.size]!)) fun v hv=>by
      simp only [List.mem_map] at hv;obtain ⟨j,_,rfl⟩:=hv;exact hcell j) e ((List.range' (n*i.size) ((m - n)*i.size)).map (z.cells[· % z.cells.size]!)) (0,0) (.inl (Nat.le_refl _))
     rw [← hsplit] at p;simp only [Array.toArray_toList,Array.length_toList,Array.size_map,Array.size_range] at p;refine ⟨_,_,_,_,.slice (some ⟨w.heap.size,0,none⟩) n m,rfl,?_,VR.slice (m:=⟨w.heap.size,0,m*i.size⟩) rfl (upd_same _ _ _) b3 (.inr (by simp)),p⟩
     have hbz:(i.bytes:Int)*(m:Int)≤281474976710656:=by
      (have:((i.bytes*m:Nat):Int)≤281474976710656:=by omega);rw [Int.natCast_mul] at this;omega
     have:=run_make (P:=P) w t e i z e1 hi hz k1 k2 n m (by omega) (by omega) hbz (by omega)
     simpa [madeCells] using this
   ·cases h
  ·cases h
 ·cases h
theorem src_sim {size n : Nat} {x x' : Value} {l : List Value} (R : Rel μ A.heap.get w) (hx : VR μ x x') (h : srcCells A size x = some (l, n)) :
  ∃ l',(Builtin.lenOf x').run P w=.ok n w∧(Builtin.firstCells size n x').run P w=.ok l'.toArray w∧LR μ l l'∧l.length=n*size:=by
 unfold srcCells at h
 split at h
 ·cases hx;simp only [Option.some.injEq,Prod.mk.injEq] at h;obtain ⟨rfl,rfl⟩:=h;exact ⟨[],by simp [Builtin.lenOf],by simp [Builtin.firstCells],LR.nil μ,by simp⟩
 ·rename_i a len cap
  have key:∀ {a':Addr} {cap':Nat},AR μ a a' → ∃ l',(Builtin.lenOf (.slice (some a') len cap')).run P w=.ok n w∧(Builtin.firstCells size n (.slice (some a') len cap')).run P w=.ok l'.toArray w∧LR μ l l'∧l.length=n*size:=fun {a' cap'} ha=>by
   cases hb:Nat.beq len 0 with
   |true =>
    rw [hb] at h;simp only [cond_true,Option.some.injEq,Prod.mk.injEq] at h;obtain ⟨rfl,rfl⟩:=h;have:=Nat.eq_of_beq_eq_true hb;subst this;refine ⟨[],by simp [Builtin.lenOf],?_,LR.nil μ,by simp⟩;have:=run_loadCells_list (P:=P) w a' [] (fun j v h=>by cases h)
    simpa [Builtin.firstCells] using this
   |false =>
    rw [hb] at h;simp only [cond_false,Option.map_eq_some_iff,Prod.mk.injEq] at h;obtain ⟨l0,hc,rfl,rfl⟩:=h;obtain ⟨l',h1,h2,h3⟩:=cells_sim R ha hc;have hr:=run_loadCells_list (P:=P) w a' l' h3;rw [← h1.1,h2] at hr;exact ⟨l',by simp [Builtin.lenOf],by simpa [Builtin.firstCells] using hr,h1,h2⟩
  cases hx with
  |slice hs hm hl hr=>exact key (.at_ hs hm)
  |sliceO hs hl hk=>exact key (.opq hs)
 ·rename_i s;obtain rfl:=hx.str_inv;cases hb:Nat.beq size 1 with
  |false=>rw [hb] at h;cases h
  |true =>
   rw [hb] at h;simp only [cond_true,Option.some.injEq,Prod.mk.injEq] at h;obtain ⟨rfl,rfl⟩:=h;have:=Nat.eq_of_beq_eq_true hb;subst this;refine ⟨_,by simp [Builtin.lenOf],?_,LR.refl (μ:=μ) (l:=s.data.toList.map fun b=>Value.int .u8 b.toNat) fun v hv=>?_,by simp⟩
   ·have e : (s.extract 0 s.size).data = s.data := by
     (have:s.extract 0 s.size=s:=by simp);rw [this]
    simp only [Builtin.firstCells,e,Sem.run_pure]
    congr 1
    apply Array.ext';simp
   ·simp only [List.mem_map] at hv;obtain ⟨b,_,rfl⟩:=hv;exact .int _ _
 ·cases h
end Go.Proofs.Ytpbhkdamkbopkaa.Rf
namespace Go.Proofs.Ytpbhkdamkbopkaa.Rf
open Go
variable {P:Program} {μ:Mu} {A:AW} {w:World}
theorem post_kill (R:Rel μ A.heap.get w) (b0:Nat):Post μ A w μ (A.turn b0 .dead) w:=by
 have hh:∀ b o,(A.turn b0 .dead).heap.get b=some o → o ≠ .dead → A.heap.get b=some o:=fun b o e hd=>by
  rw [get_turn] at e;by_cases hb:b=b0
  ·rw [if_pos hb] at e;cases e;exact absurd rfl hd
  ·rwa [if_neg hb] at e
 refine ⟨Ext.refl μ,R.keep (Nat.le_refl _) (fun b o _ e hd=>⟨hh b o e hd,fun _ _=>rfl⟩),rfl,rfl,rfl,Nat.le_refl _,fun _ _ _=>rfl,?_,fun b m e=>.inl e,Nat.le_refl _⟩;rintro β _ ⟨b,m,e1,e2,e3⟩;refine ⟨b,m,e1,e2,?_⟩
 rcases e3 with ⟨r,h,hr⟩ | ⟨es,c,h⟩ | ⟨i,s,n,l,h⟩
 ·exact .inl ⟨r,hh b _ h (by simp),hr⟩
 ·exact .inr (.inl ⟨es,c,hh b _ h (by simp)⟩)
 ·exact .inr (.inr ⟨i,s,n,l,hh b _ h (by simp)⟩)
def noCount (P:Program) (ts:Array TypeId):Prop:=ts[1]?=none ∨ ∃ u d,ts[1]?=some u∧P.underlying u=some d∧∀ k,d ≠ .int k
set_option maxHeartbeats 2000000 in
theorem append_grow {ts : Array TypeId} {t0 ty e : TypeId} {i : TypeInfo} {z : Value} {base : Option Addr} {len cap n : Nat} {x : Value} {old new : Array Value} (h0 : ts[0]? = some t0) (h1 : P.underlying t0 = some (.slice e)) (hc : noCount P ts) (hi : P.info? e = some i) (hz : i.zero = some z)
  (hlen:(Builtin.lenOf x).run P w=.ok n w) (hold:(Builtin.firstCells i.size len (.slice base len cap)).run P w.drew=.ok old w.drew) (hnew:(Builtin.firstCells i.size n x).run P w.drew=.ok new w.drew)
  (hgt:cap < len+n) (hb:i.bytes ≠ 0) (hn:2*(len+n)*i.bytes≤281474976710656) :
  (Builtin.append_ ts ty #[.slice base len cap,x]).run P w=.ok (.slice (some ⟨w.heap.size,0,none⟩) (len+n) (grownCap w (len+n) cap e)) (w.drew.alloc (.cells (old ++ new ++ Builtin.zeroCells z.cells (grownCap w (len+n) cap e - (len+n))) e)):=by
 have hg:¬ (len+n≤cap):=by omega
 have h2:2*(len+n)*1≤2*(len+n)*i.bytes:=Nat.mul_le_mul (Nat.le_refl _) (Nat.pos_of_ne_zero hb);have h63:¬ (9223372036854775807 < ((len:Int)+(n:Int))):=by omega
 have hle:=nextslicecap_le hgt
 have h48:¬ (281474976710656 < Builtin.nextslicecap (len+n) cap*i.bytes):=by
  have:Builtin.nextslicecap (len+n) cap*i.bytes≤(2*(len+n))*i.bytes:=Nat.mul_le_mul hle (Nat.le_refl _);omega
 rcases hc with hc | ⟨u,d,hc,hd,hk⟩
 ·simp [Builtin.append_,h0,hc,run_underlying h1,run_sz hi,hlen,hg,h63,h48,typeInfo,hi,Question.forced,hold,hnew,zeroValue,hz,newRow,grownCap]
 ·have hm:(match d with | .int _=>true | _=>false)=false:=by cases d <;> first | rfl | exact absurd rfl (hk _)
  simp [Builtin.append_,h0,hc,run_underlying h1,run_underlying hd,hm,run_sz hi,hlen,hg,h63,h48,typeInfo,hi,Question.forced,hold,hnew,zeroValue,hz,newRow,grownCap]
set_option maxHeartbeats 2000000 in
theorem append_fits {ts : Array TypeId} {t0 ty e : TypeId} {i : TypeInfo} {base : Option Addr} {len cap n : Nat} {x : Value} {new : Array Value} {w' : World} (h0 : ts[0]? = some t0) (h1 : P.underlying t0 = some (.slice e)) (hc : noCount P ts) (hi : P.info? e = some i)
  (hlen:(Builtin.lenOf x).run P w=.ok n w) (hnew:(Builtin.firstCells i.size n x).run P w=.ok new w) (hle:len+n≤cap)
  (hst:match base with | some a=>(storeCells (a.add (len*i.size)) new.toList).run P w=.ok () w' | none=>w'=w) :
  (Builtin.append_ ts ty #[.slice base len cap,x]).run P w=.ok (.slice base (len+n) cap) w':=by
 rcases hc with hc | ⟨u,d,hc,hd,hk⟩
 ·cases base with
  |none=>simp only at hst;subst hst;simp [Builtin.append_,h0,hc,run_underlying h1,run_sz hi,hlen,hle,hnew]
  |some a=>simp only at hst;simp [Builtin.append_,h0,hc,run_underlying h1,run_sz hi,hlen,hle,hnew,hst]
 ·have hm:(match d with | .int _=>true | _=>false)=false:=by cases d <;> first | rfl | exact absurd rfl (hk _)
  cases base with
  |none=>simp only at hst;subst hst;simp [Builtin.append_,h0,hc,run_underlying h1,run_underlying hd,hm,run_sz hi,hlen,hle,hnew]
  |some a=>simp only at hst;simp [Builtin.append_,h0,hc,run_underlying h1,run_underlying hd,hm,run_sz hi,hlen,hle,hnew,hst]
theorem size_zero (z:Array Value) (n:Nat):(Builtin.zeroCells z n).toList.length=n*z.size:=by simp [Builtin.zeroCells]
theorem post_extend {a : Addr} {m : ME} {r : Row} {C : Array Value} {t : TypeId} {fz : Nat × Nat} {l new new' : List Value} {w' : World} (R : Rel μ A.heap.get w) (hm : μ a.block = some m) (hr : A.heap.get a.block = some (.row r)) (hro : r.ro = false) (hn : μ A.next = none)
  (hC:w.heap[m.blk]?=some (.cells C t fz)) (hl:readCells r.cells a.off (r.size - a.off)=some l) (hoff:a.off≤r.size) (hnew:LR μ new new') (hfit:r.size+new.length≤m.room)
  (ho:Only w w' m.blk (.cells (writeL C (m.base+r.size) new') t fz)):Post μ A w (upd μ A.next ⟨m.blk,m.base+a.off,m.room - a.off⟩) ((A.newRow (l ++ new)).turn a.block .dead) w':=by
 have e:=upd_ext (μ:=μ) (b:=A.next) ⟨m.blk,m.base+a.off,m.room - a.off⟩ hn;obtain ⟨hroom,C2,t2,fz2,hC2,hfz,hsz,hcell⟩:=R.row a.block m r hm hr;have hfz:=hfz hro;rw [hC] at hC2;cases hC2;obtain ⟨hlen,hget⟩:=readCells_spec _ _ _ _ hl;have hne:a.block ≠ A.next:=fun h=>by rw [h,hn] at hm;cases hm
 have hh:∀ b,((A.newRow (l ++ new)).turn a.block .dead).heap.get b=if b=a.block then some .dead else if b=A.next then some (.row ⟨mkCells (l ++ new) 0 .e,(l ++ new).length,false⟩) else A.heap.get b:=fun b=>by
  rw [get_turn];by_cases hb:b=a.block
  ·rw [if_pos hb,if_pos hb]
  ·rw [if_neg hb,if_neg hb];exact get_new A _ b
 have hdis:∀ b o m1,b ≠ a.block → A.heap.get b=some o → o ≠ .dead → μ b=some m1 → m1.blk ≠ m.blk:=fun b o m1 hb ho hd hm1 hx=>by
  refine hb (R.inj b a.block m1 m hm1 hm ?_ (.inl ⟨r,hr⟩) hx);cases o with
  |row r=>exact .inl ⟨r,ho⟩
  |map es c=>exact .inr (.inl ⟨es,c,ho⟩)
  |iter i s n l=>exact .inr (.inr ⟨i,s,n,l,ho⟩)
  |dead=>exact absurd rfl hd
 have hlv:∀ b,live ((A.newRow (l ++ new)).turn a.block .dead).heap.get b → b ≠ A.next → ∃ o,b ≠ a.block∧A.heap.get b=some o∧o ≠ .dead:=fun b lv hb=>by
  have:∀ o,((A.newRow (l ++ new)).turn a.block .dead).heap.get b=some o → o ≠ .dead → ∃ o,b ≠ a.block∧A.heap.get b=some o∧o ≠ .dead:=fun o ho hd=>by
   rw [hh b] at ho;by_cases h1:b=a.block
   ·rw [if_pos h1] at ho;cases ho;exact absurd rfl hd
   ·rw [if_neg h1,if_neg hb] at ho;exact ⟨o,h1,ho,hd⟩
  rcases lv with ⟨r,h⟩ | ⟨es,c,h⟩ | ⟨i,s,n,l,h⟩
  ·exact this _ h (by simp)
  ·exact this _ h (by simp)
  ·exact this _ h (by simp)
 have hrow:Rel (upd μ A.next ⟨m.blk,m.base+a.off,m.room - a.off⟩) ((A.newRow (l ++ new)).turn a.block .dead).heap.get w':=by
  refine Rel.one A.next ⟨m.blk,m.base+a.off,m.room - a.off⟩ _ _ (upd_same _ _ _) (by rw [hh,if_neg (fun h=>hne h.symm),if_pos rfl]) ho.here ?_ (by rw [ho.size];exact R.blk a.block m hm) ?_ ?_
  ·refine ⟨?_,fun _=>by rw [size_writeL];exact hfz,by rw [size_writeL,hsz];show _=m.base+a.off+(m.room - a.off);omega,fun i v hi hv=>?_⟩
   ·show (l ++ new).length≤m.room - a.off;simp [hlen];omega
   ·rw [get_mkCells] at hv;simp only [Nat.zero_le,Nat.zero_add,true_and,Nat.sub_zero] at hv;have hi':i < (l ++ new).length:=hi;rw [if_pos hi'] at hv;show ∃ v',(writeL C (m.base+r.size) new')[m.base+a.off+i]?=some v'∧_;rw [get_writeL new' C _ _ (by rw [← hnew.1];omega),← hnew.1];simp only [List.length_append,hlen] at hi';by_cases hx:i < r.size - a.off
    ·rw [if_neg (by omega)];rw [List.getElem?_append_left (by omega)] at hv;rw [← hget i hx] at hv;obtain ⟨v',q1,q2⟩:=hcell (a.off+i) v (by omega) hv;exact ⟨v',by rw [Nat.add_assoc];exact q1,q2.mono e⟩
    ·rw [if_pos (by omega)];rw [List.getElem?_append_right (by omega),hlen] at hv;obtain ⟨v',q1,q2⟩:=hnew.get hv;exact ⟨v',by rw [show m.base+a.off+i - (m.base+r.size)=i - (r.size - a.off) by omega];exact q1,q2.mono e⟩
  ·refine Rel.upd_none hn (by rw [ho.size];exact R.blk a.block m hm) ?_ (by simp);refine R.keep (by rw [ho.size];exact Nat.le_refl _) fun b o e1 e2 hd=>?_;by_cases hb:b=A.next
   ·simp [hb] at e2
   ·simp only [if_neg hb] at e2;rw [hh b] at e2;by_cases h1:b=a.block
    ·rw [if_pos h1] at e2;cases e2;exact absurd rfl hd
    ·rw [if_neg h1,if_neg hb] at e2;exact ⟨e2,fun m1 hm1=>ho.rest _ (hdis b o m1 h1 e2 hd hm1)⟩
  ·intro b m1 hb hm1 lv;obtain ⟨o,q1,q2,q3⟩:=hlv b lv hb;rw [upd_ne hb] at hm1;exact hdis b o m1 q1 q2 q3 hm1
 have ht:Tch μ A.heap.get m.blk:=⟨a.block,m,hm,rfl,.inl ⟨r,hr,hro⟩⟩;refine ⟨e,hrow,ho.out.1,ho.out.2.1,ho.out.2.2,by rw [ho.size];exact Nat.le_refl _,fun β hb hnt=>ho.rest β fun h=>hnt (h ▸ ht),?_,?_,Nat.le_succ _⟩
 ·rintro β hb ⟨b,m1,e1,e2,e3⟩;by_cases hx:b=A.next
  ·subst hx;rw [upd_same] at e1;cases e1;subst e2;exact ht
  rw [upd_ne hx] at e1
  have:∀ o,((A.newRow (l ++ new)).turn a.block .dead).heap.get b=some o → o ≠ .dead → A.heap.get b=some o:=fun o ho hd=>by
   rw [hh b] at ho;by_cases h1:b=a.block
   ·rw [if_pos h1] at ho;cases ho;exact absurd rfl hd
   ·rwa [if_neg h1,if_neg hx] at ho
  refine ⟨b,m1,e1,e2,?_⟩
  rcases e3 with ⟨r,h,q⟩ | ⟨es,c,h⟩ | ⟨i,s,n,l,h⟩
  ·exact .inl ⟨r,this _ h (by simp),q⟩
  ·exact .inr (.inl ⟨es,c,this _ h (by simp)⟩)
  ·exact .inr (.inr ⟨i,s,n,l,this _ h (by simp)⟩)
 ·intro b m1 h1;by_cases hx:b=A.next
  ·subst hx;exact .inr ⟨Nat.le_refl _,Nat.lt_succ_self _⟩
  ·rw [upd_ne hx] at h1;exact .inl h1
end Go.Proofs.Ytpbhkdamkbopkaa.Rf
namespace Go.Proofs.Ytpbhkdamkbopkaa.Rf
open Go
variable {P:Program} {μ:Mu} {A:AW} {w:World}
theorem zc_VR {z:Value} {n:Nat}:(Builtin.zeroCells z.cells n).toList.length=n*z.cells.size:=size_zero _ _
theorem grow_sim {ts : Array TypeId} {t0 ty e : TypeId} {i : TypeInfo} {z : Value} {base : Option Addr} {len cap n : Nat} {x : Value} {old old' new new' : List Value} (R : Rel μ A.heap.get w) (h0 : ts[0]? = some t0) (h1 : P.underlying t0 = some (.slice e)) (hc : noCount P ts) (hi : P.info? e = some i) (hz : i.zero = some z)
  (hzs:z.cells.size=i.size) (hlen:(Builtin.lenOf x).run P w=.ok n w) (hold:(Builtin.firstCells i.size len (.slice base len cap)).run P w.drew=.ok old'.toArray w.drew) (hnew:(Builtin.firstCells i.size n x).run P w.drew=.ok new'.toArray w.drew)
  (hgt:cap < len+n) (hb:i.bytes ≠ 0) (hn:2*(len+n)*i.bytes≤281474976710656) (ho:LR μ old old') (hw:LR μ new new') (hol:old.length=len*i.size) (hnl:new.length=n*i.size) (hm:μ A.next=none) :
  ∃ μ' w' v',(Builtin.append_ ts ty #[.slice base len cap,x]).run P w=.ok v' w'∧VR μ' (.slice (some ⟨A.next,0,none⟩) (len+n) i.size) v'∧Post μ A w μ' (A.newRow (old ++ new)) w':=by
 have hr:=append_grow (P:=P) (w:=w) (ty:=ty) h0 h1 hc hi hz hlen hold hnew hgt hb hn;have hge:=grownCap_ge w (len+n) cap e;have p1:=post_drew R;have p2:=newRow_sim (w:=w.drew) p1.rel hm (ho.append hw) e (Builtin.zeroCells z.cells (grownCap w (len+n) cap e - (len+n))).toList (0,0) (.inl (Nat.le_refl _))
 have hl:(old' ++ new' ++ (Builtin.zeroCells z.cells (grownCap w (len+n) cap e - (len+n))).toList).length=grownCap w (len+n) cap e*i.size:=by
  rw [List.length_append,List.length_append,zc_VR,hzs,← ho.1,← hw.1,hol,hnl,← Nat.add_mul,← Nat.add_mul]
  congr 1;omega
 rw [hl] at p2;refine ⟨upd μ A.next ⟨w.heap.size,0,grownCap w (len+n) cap e*i.size⟩,_,_,hr,?_,p1.trans ?_⟩
 ·exact VR.slice (m:=⟨w.heap.size,0,grownCap w (len+n) cap e*i.size⟩) rfl (upd_same _ _ _) hge (.inr (by simp))
 ·have : (old' ++ new' ++ (Builtin.zeroCells z.cells (grownCap w (len + n) cap e - (len + n))).toList).toArray = old'.toArray ++ new'.toArray ++ Builtin.zeroCells z.cells (grownCap w (len + n) cap e - (len + n)) := by
   apply Array.ext';simp
  rw [this] at p2;exact p2
theorem append_sim {ts:Array TypeId} {ty:TypeId} {s x s' x':Value} {r:Res} (R:Rel μ A.heap.get w) (hs:VR μ s s') (hx:VR μ x x') (h:aappend P ts s x A=some r) (hf:Fresh μ A r.aw):SimV P μ A w r (Builtin.append_ ts ty #[s',x']):=by
  unfold aappend at h
  split at h
  · rename_i e base len cap e1;cases ht:ts[0]? with
    | none=>rw [ht] at e1;cases e1
    | some t0 =>
      rw [ht] at e1;have h1:P.underlying t0=some (.slice e):=e1;cases hcb:noCountB P ts with
      | false=>rw [hcb] at h;cases h
      | true =>
      rw [hcb] at h;simp only [Bool.not_true,cond_false] at h
      have hc:noCount P ts:=by
        unfold noCountB at hcb
        split at hcb
        · rename_i u hu
          split at hcb
          · rename_i q hq;exact .inr ⟨u,_,hu,hq,fun k hk=>by cases hk⟩
          · rename_i hq;exact .inr ⟨u,_,hu,hq,fun k hk=>by cases hk⟩
          · cases hcb
        · rename_i hu;exact .inl hu
      split at h
      · rename_i size i hsz hi;obtain ⟨i2,hi2,hn⟩:=sz_spec hsz;rw [hi] at hi2;cases hi2;subst hn;cases hb:(Nat.beq i.size 0 || Nat.beq i.bytes 0 || !zeroFits P e i.size) with
        | true=>rw [hb] at h;cases h
        | false =>
          rw [hb] at h;simp only [cond_false] at h;simp only [Bool.or_eq_false_iff,Bool.not_eq_false'] at hb;obtain ⟨⟨b1,b2⟩,b3⟩:=hb;(have b1:i.size ≠ 0:=fun e=>by rw [e] at b1;cases b1);(have b2:i.bytes ≠ 0:=fun e=>by rw [e] at b2;cases b2);unfold zeroFits at b3;cases hz0:zeroOf P e with
          | none=>rw [hz0] at b3;cases b3
          | some z =>
            rw [hz0] at b3;obtain ⟨i3,hi3,hz,_⟩:=zeroOf_spec hz0;rw [hi] at hi3;cases hi3;have hzs:=Nat.eq_of_beq_eq_true b3;cases hsrc:srcCells A i.size x with
            | none=>rw [hsrc] at h;cases h
            | some q =>
              obtain ⟨new,n⟩:=q;rw [hsrc] at h;simp only at h;obtain ⟨new',g1,g2,g3,g4⟩:=src_sim (P:=P) (w:=w) R hx hsrc;obtain ⟨new2,g1',g2',g3',_⟩:=src_sim (P:=P) (w:=w.drew) R.drew hx hsrc;cases hn0:Nat.beq n 0 with
              | true =>
                have hn0':=Nat.eq_of_beq_eq_true hn0;rw [hn0] at h;simp only [cond_true,Option.some.injEq] at h;subst h;subst hn0'
                have hnil:new'=[]:=by
                  (have:new'.length=0:=by rw [← g3.1,g4];simp);exact List.eq_nil_of_length_eq_zero this
                subst hnil;cases hs with
                | slice0 =>
                  exact ⟨_,_,μ,w,_,rfl,append_fits (w':=w) ht h1 hc hi g1 g2 (Nat.le_refl _) rfl,by simpa using VR.slice0,Post.refl R⟩
                | slice hsp hm hl hr =>
                  exact ⟨_,_,μ,w,_,rfl,append_fits (w':=w) ht h1 hc hi g1 g2 (by simpa using hl) rfl,by simpa using VR.slice hsp hm hl hr,Post.refl R⟩
                | sliceO hsp hl hk =>
                  exact ⟨_,_,μ,w,_,rfl,append_fits (w':=w) ht h1 hc hi g1 g2 (by simpa using hl) rfl,by simpa using VR.sliceO hsp hl hk,Post.refl R⟩
              | false =>
                rw [hn0] at h;simp only [cond_false] at h
                have hnpos:0 < n:=by
                  rcases Nat.eq_zero_or_pos n with h0 | h0
                  · subst h0;cases hn0
                  · exact h0
                cases hfl:(!(new.all flatCell) || !Nat.ble (2*(len+n)*i.bytes) 281474976710656) with
                | true=>rw [hfl] at h;cases h
                | false =>
                  rw [hfl] at h;simp only [cond_false] at h;simp only [Bool.or_eq_false_iff,Bool.not_eq_false'] at hfl;have hlim:2*(len+n)*i.bytes≤281474976710656:=Nat.le_of_ble_eq_true hfl.2;cases base with
                  | none =>
                    simp only at h;cases hl0:Nat.beq len 0 with
                    | false=>rw [hl0] at h;cases h
                    | true =>
                      rw [hl0] at h;simp only [cond_true,Option.some.injEq] at h;subst h;cases hs;have hm:μ A.next=none:=hf _ (Nat.le_refl _) (Nat.lt_succ_self _);obtain ⟨μ',w',v',q1,q2,q3⟩:=grow_sim (ty:=ty) (base:=none) (len:=0) (cap:=0) (old:=[]) (old':=[]) R ht h1 hc hi hz hzs g1 (by simp [Builtin.firstCells]) g2' (by omega) b2 hlim (LR.nil μ) g3' (by simp) g4 hm;simp only [Nat.zero_add,List.nil_append] at q2 q3;exact ⟨_,_,μ',w',v',rfl,q1,q2,q3⟩
                  | some a =>
                    simp only at h;cases hsp:a.spot with
                    | some k =>
                      rw [hsp] at h;simp only at h;cases hk0:(Nat.beq k 0 && Nat.beq len 0 && Nat.beq cap 0) with
                      | false=>rw [hk0] at h;cases h
                      | true =>
                        rw [hk0] at h;simp only [cond_true,Option.some.injEq] at h;subst h;simp only [Bool.and_eq_true] at hk0;have k0:=Nat.eq_of_beq_eq_true hk0.1.1;have l0:=Nat.eq_of_beq_eq_true hk0.1.2;have c0:=Nat.eq_of_beq_eq_true hk0.2;subst k0;subst l0;subst c0;cases hs with
                        | slice hq=>rw [hsp] at hq;cases hq
                        | sliceO hq hl hk =>
                          rename_i a' k' cap';rw [hsp] at hq;cases hq
                          have hcap : cap' = 0 := by rcases hk with hk | hk; · cases hk
                                                     · exact hk
                          subst hcap;have hm:μ A.next=none:=hf _ (Nat.le_refl _) (Nat.lt_succ_self _)
                          have hold:(Builtin.firstCells i.size 0 (.slice (some a') 0 0)).run P w.drew=.ok ([]:List Value).toArray w.drew:=by
                            have:=run_loadCells_list (P:=P) w.drew a' [] (fun j v h=>by cases h)
                            simpa [Builtin.firstCells] using this
                          obtain ⟨μ',w',v',q1,q2,q3⟩:=grow_sim (ty:=ty) (base:=some a') (len:=0) (cap:=0) (old:=[]) (old':=[]) R ht h1 hc hi hz hzs g1 hold g2' (by omega) b2 hlim (LR.nil μ) g3' (by simp) g4 hm;simp only [Nat.zero_add,List.nil_append] at q2 q3;exact ⟨_,_,μ',w',v',rfl,q1,q2,q3⟩
                    | none =>
                      rw [hsp] at h;simp only at h;cases hr:A.row? a.block with
                      | none=>rw [hr] at h;cases h
                      | some r0 =>
                        rw [hr] at h;simp only at h;have hr0:=row_of hr;cases hq0:(Nat.beq (a.off+len*i.size) r0.size && !r0.ro && Nat.beq cap i.size) with
                        | false=>rw [hq0] at h;cases h
                        | true =>
                          rw [hq0] at h;simp only [cond_true] at h;simp only [Bool.and_eq_true,Bool.not_eq_true'] at hq0;have c1:=Nat.eq_of_beq_eq_true hq0.1.1;have c2:=hq0.1.2;have c3:=Nat.eq_of_beq_eq_true hq0.2;subst c3;cases hold:readCells r0.cells a.off (len*i.size) with
                          | none=>rw [hold] at h;cases h
                          | some old =>
                            rw [hold] at h;simp only [Option.some.injEq] at h;subst h;have hm0:μ A.next=none:=hf _ (Nat.le_refl _) (Nat.lt_succ_self _);cases hs with
                            | sliceO hq=>rw [hsp] at hq;cases hq
                            | slice hq hm hl hrm =>
                              rename_i m cap';have hrm:a.off+cap'*i.size≤m.room:=hrm.resolve_left b1;obtain ⟨hroom,C,t,fz,hC,hfz,hszC,hcell⟩:=R.row a.block m r0 hm hr0
                              have hcells:A.cells? a (len*i.size)=some old:=by
                                unfold AW.cells?;rw [hsp,hr];simp only;rw [Nat.ble_eq_true_of_le (by omega),cond_true,hold]
                              by_cases hfit:len+n≤cap';rotate_left
                              · have hcd:=cells_sim (w:=w.drew) R.drew (.at_ hsp hm) hcells;obtain ⟨old',d1,d2,d3⟩:=hcd;have hlr:=run_loadCells_list (P:=P) w.drew _ old' d3;rw [← d1.1,d2] at hlr;obtain ⟨μ',w',v',q1,q2,q3⟩:=grow_sim (ty:=ty) (base:=some ⟨m.blk,m.base+a.off,none⟩) (cap:=cap') R ht h1 hc hi hz hzs g1 (by simpa [Builtin.firstCells] using hlr) g2' (by omega) b2 hlim d1 g3' d2 g4 hm0;exact ⟨_,_,μ',w',v',rfl,q1,q2,q3.trans (post_kill q3.rel _)⟩
                              have hlt:(len+n)*i.size≤cap'*i.size:=Nat.mul_le_mul_right _ hfit;rw [Nat.add_mul] at hlt;obtain ⟨w',s1,s2⟩:=run_storeL P m.blk t fz new' (m.base+r0.size) 0 C w hC (hfz c2) (by rw [← g3.1,g4];omega) (flat_LR g3 hfl.1);rw [Nat.add_zero] at s2;(have e2:r0.size - a.off=len*i.size:=by omega);refine ⟨_,_,_,w',_,rfl,append_fits (w':=w') ht h1 hc hi g1 g2 hfit ?_,?_,post_extend R hm hr0 c2 hm0 hC (by rw [e2];exact hold) (by omega) g3 (by rw [g4];omega) s2⟩
                              · simp only [add_off];rw [Nat.add_assoc,c1];exact s1
                              · have:(⟨m.blk,m.base+a.off,none⟩:Addr)=⟨(⟨m.blk,m.base+a.off,m.room - a.off⟩:ME).blk,(⟨m.blk,m.base+a.off,m.room - a.off⟩:ME).base+(⟨A.next,0,none⟩:Addr).off,none⟩:=rfl;rw [this];exact VR.slice (a:=⟨A.next,0,none⟩) rfl (upd_same _ _ _) hfit (.inr (by show 0+cap'*i.size≤m.room - a.off;omega))
      · cases h
  · cases h
end Go.Proofs.Ytpbhkdamkbopkaa.Rf
namespace Go.Proofs.Ytpbhkdamkbopkaa.Rf
open Go
variable {P:Program} {μ:Mu} {A:AW} {w:World}
theorem copy_sim {ts:Array TypeId} {ty:TypeId} {d x d' x':Value} {r:Res} (R:Rel μ A.heap.get w) (hd:VR μ d d') (hx:VR μ x x') (h:acopy P ts d x A=some r):SimV P μ A w r (Builtin.copy_ ts ty #[d',x']):=by
 unfold acopy at h
 split at h
 ·rename_i e base dLen cap e1;cases ht:ts[0]? with
  |none=>rw [ht] at e1;cases e1
  |some t0 =>
   rw [ht] at e1;have h1:P.underlying t0=some (.slice e):=e1
   split at h
   ·rename_i size hsz;obtain ⟨i,hi,hn⟩:=sz_spec hsz;subst hn;cases h0:Nat.beq i.size 0 with
    |true=>rw [h0] at h;cases h
    |false =>
    rw [h0] at h;simp only [cond_false] at h
    split at h
    ·rename_i b len c a;cases hc:A.cells? b (Nat.min len dLen*i.size) with
     |none=>rw [hc] at h;cases h
     |some l =>
      rw [hc] at h;simp only at h
      have key:∀ {b':Addr} {c':Nat},AR μ b b' → ∀ {a':Addr} {cap':Nat},AR μ a a' → SimV P μ A w r (Builtin.copy_ ts ty #[.slice (some a') dLen cap',.slice (some b') len c']):=fun {b' c'} hb {a' cap'} ha=>by
       obtain ⟨l',q1,q2,q3⟩:=cells_sim R hb hc;have hlr:=run_loadCells_list (P:=P) w b' l' q3;rw [← q1.1,q2] at hlr
       have hrun:∀ {w':World},(storeCells a' l').run P w=.ok () w' → (Builtin.copy_ ts ty #[.slice (some a') dLen cap',.slice (some b') len c']).run P w=.ok (goInt (Nat.min len dLen)) w':=fun {w'} hs=>by
        simp only [Builtin.copy_,ht,List.getElem?_toArray,List.getElem?_cons_zero,List.getElem?_cons_succ,Sem.run_bind,run_underlying h1,Result.andThen_ok,Builtin.lenOf,Sem.run_pure,run_sz hi,Builtin.firstCells,hlr,hs]
       cases hz:Nat.beq (Nat.min len dLen) 0 with
       |true =>
        rw [hz] at h;simp only [cond_true,Option.some.injEq] at h;subst h;have hz:=Nat.eq_of_beq_eq_true hz;have hnil:l'=[]:=List.eq_nil_of_length_eq_zero (by rw [← q1.1,q2,hz,Nat.zero_mul]);subst hnil;refine ⟨_,_,μ,w,_,rfl,hrun rfl,?_,Post.refl R⟩;rw [hz];exact .int _ _
       |false =>
        rw [hz] at h;simp only [cond_false,Option.map_eq_some_iff] at h;obtain ⟨A',hw,rfl⟩:=h;obtain ⟨w',s1,s2⟩:=write_sim (P:=P) R ha q1 hw;exact ⟨_,_,μ,w',_,rfl,hrun s1,.int _ _,s2⟩
      cases hd with
      |slice hs1 hm1 _ _=>cases hx with
       |slice hs2 hm2 _ _=>exact key (.at_ hs2 hm2) (.at_ hs1 hm1)
       |sliceO hs2 _ _=>exact key (.opq hs2) (.at_ hs1 hm1)
      |sliceO hs1 _ _=>cases hx with
       |slice hs2 hm2 _ _=>exact key (.at_ hs2 hm2) (.opq hs1)
       |sliceO hs2 _ _=>exact key (.opq hs2) (.opq hs1)
    ·rename_i l0 c0;simp only [Option.some.injEq] at h;subst h;cases hx;refine ⟨_,_,μ,w,.int .i64 0,rfl,?_,.int _ _,Post.refl R⟩;cases hd <;> simp [Builtin.copy_,ht,run_underlying h1,Builtin.lenOf,run_sz hi,Builtin.firstCells,storeCells,goInt]
    ·cases h
   ·cases h
 ·cases h
theorem foldI_sim {f : Int → Int → Int} {g : Value → Value → Sem Value} (hg : ∀ (w : World) k k' x y, (g (.int k x) (.int k' y)).run P w = .ok (.int k (f x y)) w) :
  ∀ (l l':List Value) (v v' r:Value),VR μ v v' → LR μ l l' → (l ≠ [] → ∃ k x,v=.int k x) → foldI f v l=some r → ∃ r',(l'.foldlM g v').run P w=.ok r' w∧VR μ r r'
 |[],l',v,v',r,hv,hl,_,h=>by
  simp only [foldI,Option.some.injEq] at h;subst h;have:l'=[]:=List.eq_nil_of_length_eq_zero (by rw [← hl.1];rfl);subst this;exact ⟨v',by simp,hv⟩
 |u :: l,[],v,v',r,hv,hl,_,h=>by have:=hl.1;simp at this
 |u :: l,u' :: l',v,v',r,hv,hl,hi,h=>by
  obtain ⟨k,x,rfl⟩:=hi (by simp);obtain rfl:=hv.int_inv;cases u <;> simp only [foldI] at h <;> try cases h
  rename_i k' y;have hu:VR μ (.int k' y) u':=hl.2 0 _ _ rfl rfl;obtain rfl:=hu.int_inv;have ht:LR μ l l':=⟨by simpa using hl.1,fun i x x' a b=>hl.2 (i+1) x x' (by simpa using a) (by simpa using b)⟩;obtain ⟨r',q1,q2⟩:=foldI_sim hg l l' _ _ r (.int k (f x y)) ht (fun _=>⟨_,_,rfl⟩) h;exact ⟨r',by simp [List.foldlM_cons,hg,q1],q2⟩
end Go.Proofs.Ytpbhkdamkbopkaa.Rf
namespace Go.Proofs.Ytpbhkdamkbopkaa.Rf
open Go
variable {P:Program} {μ:Mu} {A:AW} {w:World}
theorem ckey_sim (em:Bool):∀ (d D:Nat) (t:TypeId) (v v':Value),d≤D → VR μ v v' → ckey P d t v=true → (Instr.checkKey em D t v').run P w=.ok () w:=by
 intro d
 induction d with
 |zero=>intro D t v v' _ _ h;simp [ckey] at h
 |succ d ih =>
  intro D t v v' hD hv h;obtain ⟨D,rfl⟩:∃ E,D=E+1:=⟨D - 1,by omega⟩;unfold ckey at h
  split at h
  ·rename_i hu;obtain rfl:=hv.int_inv;simp [Instr.checkKey,run_underlying hu]
  ·rename_i hu;obtain rfl:=hv.str_inv;simp [Instr.checkKey,run_underlying hu]
  ·rename_i hu;obtain rfl:=hv.bool_inv;simp [Instr.checkKey,run_underlying hu]
  ·rename_i fs xs hu;obtain ⟨xs',rfl,hl⟩:=hv.agg_inv;simp only [Bool.and_eq_true] at h;obtain ⟨hn,h⟩:=h;rw [Instr.checkKey];simp only [Sem.run_bind,run_underlying hu,Result.andThen_ok];rw [← Array.forIn_toList];generalize fs.toList=L at hn h
   induction L with
   |nil=>simp
   |cons f L ihl =>
    simp only [List.all_cons,Bool.and_eq_true] at hn;(have hn' : f.name ≠ "_" := by simpa using hn.1);simp only [List.map_cons,ckeyL] at h;cases e1:apart P f.type xs f.offset with
    |none=>rw [e1] at h;cases h
    |some a =>
     rw [e1] at h;simp only [Bool.and_eq_true] at h;obtain ⟨a',p1,q1⟩:=part_sim (w:=w) hl e1;have p2:=ih D f.type a a' (by omega) q1 h.1;simp only [List.forIn_cons,Sem.run_bind,hn',ne_eq,not_false_eq_true,if_true,Result.andThen_ok,p1,p2,Sem.run_pure];exact ihl hn.2 h.2
  ·rename_i len e xs hu;obtain ⟨xs',rfl,hl⟩:=hv.agg_inv
   split at h
   ·rename_i n hs;obtain ⟨i,hi,hn⟩:=sz_spec hs;rw [Instr.checkKey];simp only [Sem.run_bind,run_underlying hu,Result.andThen_ok];simp only [Std.Legacy.Range.forIn_eq_forIn_range',Std.Legacy.Range.size,Nat.sub_zero,Nat.add_one_sub_one,Nat.div_one];rw [List.range_eq_range'] at h;generalize List.range' 0 len=L at h
    induction L with
    |nil=>simp
    |cons j L ihl =>
     simp only [List.map_cons,ckeyL] at h;cases e1:apart P e xs (j*n) with
     |none=>rw [e1] at h;cases h
     |some a =>
      rw [e1] at h;simp only [Bool.and_eq_true] at h;obtain ⟨a',p1,q1⟩:=part_sim (w:=w) hl e1;have p2:=ih D e a a' (by omega) q1 h.1;simp only [List.forIn_cons,Sem.run_bind,run_sz hi,hn,Result.andThen_ok,p1,p2,Sem.run_pure];exact ihl h.2
   ·cases h
  ·cases h
theorem MR.get {es:List MapEntry} {es':Array MapEntry} (h:MR μ es es') {i:Nat} {e:MapEntry} (he:es[i]?=some e):∃ e',es'[i]?=some e'∧VR μ e.key e'.key∧VR μ e.val e'.val∧e.born=e'.born:=by
 have hi:i < es.length:=(List.getElem?_eq_some_iff.1 he).1;have hi':i < es'.size:=by rw [← h.1];exact hi
 exact ⟨es'[i],Array.getElem?_eq_getElem hi',h.2 i e _ he (Array.getElem?_eq_getElem hi')⟩
theorem afind_run {kt : TypeId} {k k' : Value} (hk : VR μ k k') : ∀ (es : List MapEntry) (l : List MapEntry) (i : Nat) (o : Option (Nat × Value)), es.length = l.length → (∀ (j : Nat) e e', es[j]? = some e → l[j]? = some e' → VR μ e.key e'.key ∧ VR μ e.val e'.val) → afind P kt k es i = some o →
  ∃ o',(Instr.findAsking kt k' l i).run P w=.ok o' w∧(match o,o' with | none,none=>True | some (j,v),some (j',v')=>j=j'∧VR μ v v'∧i≤j∧j < i+es.length | _,_=>False)
 |[],[],i,o,_,_,h=>by
  simp only [afind,Option.some.injEq] at h;subst h;exact ⟨none,rfl,trivial⟩
 |[],_ :: _,_,_,h,_,_=>by simp at h
 |_ :: _,[],_,_,h,_,_=>by simp at h
 |e :: es,e' :: l,i,o,hlen,hh,h=>by
  have h0:=hh 0 e e' rfl rfl;have hrest:∀ (j:Nat) x x',es[j]?=some x → l[j]?=some x' → VR μ x.key x'.key∧VR μ x.val x'.val:=fun j x x' a b=>hh (j+1) x x' (by simpa using a) (by simpa using b);unfold afind at h;cases he:aeq P 50 kt k e.key with
  |none=>rw [he] at h;cases h
  |some b =>
   have hr:=aeq_sim (w:=w) 50 Op.maxDepth kt k e.key k' e'.key b (by decide) hk h0.1 he;rw [he] at h;have hr':(Op.equal kt k' e'.key).run P w=.ok b w:=hr;cases b with
   |true =>
    simp only [Option.some.injEq] at h;subst h;exact ⟨some (i,e'.val),by simp [Instr.findAsking,hr'],rfl,h0.2,Nat.le_refl _,by simp⟩
   |false =>
    simp only at h;obtain ⟨o',q1,q2⟩:=afind_run hk es l (i+1) o (by simpa using hlen) hrest h;refine ⟨o',by simp [Instr.findAsking,hr',q1],?_⟩;cases o with
    |none=>cases o' <;> exact q2
    |some p=>cases o' with
     |none=>exact q2
     |some p' =>
      obtain ⟨j,v⟩:=p;obtain ⟨j',v'⟩:=p';exact ⟨q2.1,q2.2.1,by omega,by have:=q2.2.2.2;simp only [List.length_cons];omega⟩
theorem same_eq {kt:TypeId} {d:TypeDesc} (hu:P.underlying kt=some d) (k q:Value) (b:Bool) (hb:Instr.sameNow d k q=some b):(Op.equal kt k q).run P w=.ok b w:=by
 show (Op.equalIn (9999+1) kt k q).run P w=_;rw [Op.equalIn];simp only [Sem.run_bind,run_underlying hu,Result.andThen_ok];unfold Instr.sameNow at hb
 split at hb
 ·split at hb
  ·rename_i hk;simp only [Option.some.injEq] at hb;subst hb;simp only [if_pos hk,Sem.run_pure]
  ·cases hb
 ·simp only [Option.some.injEq] at hb;subst hb;rfl
 ·simp only [Option.some.injEq] at hb;subst hb;rfl
 ·cases hb
theorem findNow_asking {kt:TypeId} {d:TypeDesc} (hu:P.underlying kt=some d) (k:Value):∀ (l:List MapEntry) (i:Nat) (r:Option (Nat × Value)),Instr.findNow d k l i=some r → (Instr.findAsking kt k l i).run P w=.ok r w
 |[],i,r,h=>by simp only [Instr.findNow,Option.some.injEq] at h;subst h;rfl
 |e :: l,i,r,h=>by
  unfold Instr.findNow at h;have hs:∀ b,Instr.sameNow d k e.key=some b → (Op.equal kt k e.key).run P w=.ok b w:=fun b hb=>same_eq hu k e.key b hb;cases hb:Instr.sameNow d k e.key with
  |none=>rw [hb] at h;cases h
  |some b =>
   rw [hb] at h;cases b with
   |true=>simp only [Option.some.injEq] at h;subst h;simp [Instr.findAsking,hs true hb]
   |false=>simp only at h;simp [Instr.findAsking,hs false hb,findNow_asking hu k l (i+1) r h]
theorem find_sim {kt : TypeId} {k k' : Value} {es : List MapEntry} {es' : Array MapEntry} {o : Option (Nat × Value)} (hk : VR μ k k') (hm : MR μ es es') (hkt : P.underlying kt ≠ none) (h : afind P kt k es 0 = some o) :
  ∃ o',(Instr.findKey kt k' es'.toList).run P w=.ok o' w∧(match o,o' with | none,none=>True | some (j,v),some (j',v')=>j=j'∧VR μ v v'∧j < es.length | _,_=>False):=by
 obtain ⟨o',q1,q2⟩:=afind_run (w:=w) hk es es'.toList 0 o (by simpa using hm.1) (fun j e e' a b=>by have:=hm.2 j e e' a (by simpa using b);exact ⟨this.1,this.2.1⟩) h;refine ⟨o',?_,?_⟩
 ·cases hu:P.underlying kt with
  |none=>exact absurd hu hkt
  |some d =>
   unfold Instr.findKey;simp only [Sem.run_bind,run_underlying hu,Result.andThen_ok];cases hf:Instr.findNow d k' es'.toList 0 with
   |none=>exact q1
   |some r =>
    have:=findNow_asking (w:=w) hu k' es'.toList 0 r hf;rw [q1] at this;cases this;rfl
 ·cases o with
  |none=>cases o' <;> exact q2
  |some p=>cases o' with
   |none=>exact q2
   |some p' =>
    obtain ⟨j,v⟩:=p;obtain ⟨j',v'⟩:=p';exact ⟨q2.1,q2.2.1,by have:=q2.2.2.2;omega⟩
end Go.Proofs.Ytpbhkdamkbopkaa.Rf
namespace Go.Proofs.Ytpbhkdamkbopkaa.Rf
open Go
variable {P:Program} {μ:Mu} {A:AW} {w:World}
theorem bits1_spec {a b:Value} (h:bits1 a b=true):a=b∧scalar a=true:=by
 unfold bits1 at h
 split at h
 ·simp only [Bool.and_eq_true] at h;have:=keq_spec h.1;subst this;rw [ieq_spec] at h;have:=h.2;simp only [beq_iff_eq] at this;subst this;exact ⟨rfl,rfl⟩
 ·simp only [beq_iff_eq] at h;rw [WideShapes.bytes_inj h];exact ⟨rfl,rfl⟩
 ·simp only [beq_iff_eq] at h;subst h;exact ⟨rfl,rfl⟩
 ·cases h
theorem allBits_spec:∀ (l l':List Value),allBits l l'=true → l=l'∧∀ v ∈ l,scalar v=true
 |[],[],_=>⟨rfl,fun _ h=>by cases h⟩
 |[],_ :: _,h=>by cases h
 |_ :: _,[],h=>by cases h
 |a :: l,b :: l',h=>by
  simp only [allBits,Bool.and_eq_true] at h;obtain ⟨rfl,h1⟩:=bits1_spec h.1;obtain ⟨rfl,h2⟩:=allBits_spec l l' h.2
  exact ⟨rfl,fun v hv=>by cases hv with
   |head=>exact h1
   |tail _ hv=>exact h2 v hv⟩
theorem same_scalar (n:Nat) {v:Value} (h:scalar v=true):Instr.sameBits n v v=true:=by
 cases v <;> cases h <;> cases n <;> simp [Instr.sameBits] <;> (show ByteArray.beq _ _=true;unfold ByteArray.beq;simp)
theorem keyBits_spec {a b a' b':Value} (h:keyBits a b=true) (ha:VR μ a a') (hb:VR μ b b'):a'=b'∧Instr.sameBits 10000 a' b'=true:=by
 unfold keyBits at h
 split at h
 ·rename_i x y;obtain ⟨hxy,hs⟩:=allBits_spec _ _ h;have hxy:x=y:=Array.ext' hxy;subst hxy;obtain ⟨x',rfl,hl⟩:=ha.agg_inv;obtain ⟨y',rfl,hl'⟩:=hb.agg_inv
  have key:∀ {z:Array Value},LR μ x.toList z.toList → z=x:=fun {z} hl=>by
   apply Array.ext';apply List.ext_getElem?;intro i;cases e:x.toList[i]? with
   |none=>exact hl.none e
   |some v =>
    obtain ⟨v',q1,q2⟩:=hl.get e;rw [q1,scalar_VR (hs v (List.mem_of_getElem? e)) q2]
  have e1:=key hl;have e2:=key hl';subst e1;subst e2;refine ⟨rfl,?_⟩;show Instr.sameBits (9999+1) _ _=true;simp only [Instr.sameBits,beq_self_eq_true,Bool.true_and,List.all_eq_true];intro p hp;obtain ⟨i,hi⟩:=List.getElem?_of_mem hp;rw [List.getElem?_zip_eq_some] at hi;obtain ⟨q1,q2⟩:=hi;have e:=Option.some.inj (q1.symm.trans q2);obtain ⟨p1,p2⟩:=p;simp only at e q1 ⊢;subst e;exact same_scalar _ (hs _ (List.mem_of_getElem? q1))
 ·obtain ⟨rfl,hs⟩:=bits1_spec h;have e1:=scalar_VR hs ha;have e2:=scalar_VR hs hb;subst e1;rw [e2];exact ⟨rfl,same_scalar _ hs⟩
theorem map_of {A:AW} {r:Nat} {es:List MapEntry} {c:Nat} (h:A.map? r=some (es,c)):A.heap.get r=some (.map es c):=by
 unfold AW.map? at h
 split at h
 ·rename_i e;cases h;exact e
 ·cases h
theorem VR.map_inv {r:Nat} {v':Value} (h:VR μ (.map (some r)) v'):∃ m,μ r=some m∧v'=.map (some m.blk):=by
 cases h with
 |map h=>exact ⟨_,h,rfl⟩
theorem run_getMap {b:Nat} {es:Array MapEntry} {c:Nat} (h:w.heap[b]?=some (.map es c)):(getObj b).run P w=.ok (.map es c) w:=by
 simp [getObj,Sem.run,h]
theorem setMap_sim (R : Rel μ A.heap.get w) {r : Nat} {m : ME} {es : List MapEntry} {c : Nat} {es' : Array MapEntry} (hm : μ r = some m) (ho : A.heap.get r = some (.map es c)) (hw : w.heap[m.blk]? = some (.map es' c)) {fs : List MapEntry} {fs' : Array MapEntry} (c2 : Nat) (hM : MR μ fs fs') :
  ∃ w',(setObj m.blk (.map fs' c2)).run P w=.ok () w'∧Post μ A w μ (A.setMap r fs c2) w':=by
 have hlt:=R.blk r m hm;refine ⟨{ w with heap:=w.heap.setIfInBounds m.blk (.map fs' c2) },by simp [setObj,Sem.run,hw],?_⟩;refine post_turn R r m _ _ (.map fs' c2) hm ho (.inr (.inl ⟨es,c,ho⟩)) ⟨r,m,hm,rfl,.inr (.inl ⟨es,c,ho⟩)⟩ ?_ ⟨rfl,hM⟩ ?_ ?_ ⟨rfl,rfl,rfl⟩
 ·simp [hlt]
 ·intro k hk;simp only;rw [Array.getElem?_setIfInBounds_ne (by omega)]
 ·simp
theorem MR.modify {es:List MapEntry} {es':Array MapEntry} (h:MR μ es es') (i:Nat) {f g:MapEntry → MapEntry} (hf:∀ e e',es[i]?=some e → es'[i]?=some e' → VR μ (f e).key (g e').key∧VR μ (f e).val (g e').val∧(f e).born=(g e').born):MR μ (es.modify i f) (es'.modify i g):=by
 refine ⟨by simp [h.1],fun j e e' a b=>?_⟩;rw [List.getElem?_modify] at a;rw [Array.getElem?_modify] at b;by_cases hj:i=j;rotate_left
 ·rw [if_neg hj] at b;simp only [if_neg hj,Option.map_eq_map] at a;refine h.2 j e e' ?_ b
  simpa using a
 subst hj;cases h1:es[i]? with
 |none=>rw [h1] at a;cases a
 |some x =>
  obtain ⟨x',q1,_⟩:=h.get h1;rw [h1] at a;rw [q1] at b;simp only [if_true,Option.map_eq_map,Option.map_some,Option.some.injEq] at a b;subst a;subst b;exact hf x x' h1 q1
theorem MR.push {es:List MapEntry} {es':Array MapEntry} (h:MR μ es es') {e e':MapEntry} (he:VR μ e.key e'.key∧VR μ e.val e'.val∧e.born=e'.born):MR μ (es ++ [e]) (es'.push e'):=by
 refine ⟨by simp [h.1],fun j x x' a b=>?_⟩;rw [Array.getElem?_push] at b;by_cases hj:j=es'.size
 ·rw [if_pos hj] at b;rw [List.getElem?_append_right (by rw [h.1];omega),h.1,hj,Nat.sub_self] at a;simp at a b;subst a;subst b;exact he
 ·rw [if_neg hj] at b;have:=(Array.getElem?_eq_some_iff.1 b).1;rw [List.getElem?_append_left (by rw [h.1];exact this)] at a;exact h.2 j x x' a b
theorem lookup_sim {t:TypeId} {x x' k k' v:Value} {ok:Bool} (R:Rel μ A.heap.get w) (hx:VR μ x x') (hk:VR μ k k') (h:alookup P t x k ok A=some v):∃ v',(Instr.lookup t x' k' ok).run P w=.ok v' w∧VR μ v v':=by
 unfold alookup at h
 split at h
 ·rename_i kt et e1
  split at h
  ·rename_i es he
   obtain ⟨es',g1,g2⟩:∃ es':Array MapEntry,((x'=.map none∧es'=#[]) ∨ ∃ (m:ME) (c:Nat),x'=.map (some m.blk)∧w.heap[m.blk]?=some (.map es' c))∧MR μ es es':=by
    split at he
    ·cases hx;simp only [Option.some.injEq] at he;subst he;exact ⟨#[],.inl ⟨rfl,rfl⟩,rfl,fun i e e' a=>by cases a⟩
    ·rename_i r;obtain ⟨m,hm,rfl⟩:=hx.map_inv;simp only [Option.map_eq_some_iff] at he;obtain ⟨⟨es0,c⟩,q1,rfl⟩:=he;obtain ⟨es',q2,q3⟩:=R.map r m _ c hm (map_of q1);exact ⟨es',.inr ⟨m,c,rfl,q2⟩,q3⟩
    ·cases he
   cases hc:ckey P 50 kt k with
   |false=>rw [hc] at h;cases h
   |true =>
    rw [hc] at h;simp only [cond_true] at h;have hck:=ckey_sim (w:=w) es'.isEmpty 50 10000 kt k k' (by decide) hk hc;(have hkt:P.underlying kt ≠ none:=fun e=>by simp [ckey,e] at hc);cases hf:afind P kt k es 0 with
    |none=>rw [hf] at h;cases h
    |some o =>
     obtain ⟨o',q1,q2⟩:=find_sim (w:=w) hk g2 hkt hf;rw [hf] at h;cases o with
     |some p =>
      obtain ⟨j,u⟩:=p;cases o' with
      |none=>exact q2.elim
      |some p' =>
       obtain ⟨j',u'⟩:=p';simp only [Option.some.injEq] at h;subst h;refine ⟨if ok then .tuple #[u',.bool true] else u',?_,?_⟩
       ·rcases g1 with ⟨rfl,rfl⟩ | ⟨m,c,rfl,q⟩
        ·simp only [Instr.lookup,Sem.run_bind,run_underlying e1,Result.andThen_ok,hck,q1,Sem.run_pure]
        ·simp only [Instr.lookup,Sem.run_bind,run_underlying e1,Result.andThen_ok,run_getMap q,hck,q1,Sem.run_pure]
       ·cases ok
        ·exact q2.2.1
        ·exact VR.tuple' (LR.cons q2.2.1 (LR.cons (.bool _) (LR.nil μ)))
     |none =>
      cases o' with
      |some p'=>exact q2.elim
      |none =>
       simp only [Option.map_eq_some_iff] at h;obtain ⟨z,hz0,rfl⟩:=h;obtain ⟨i,hi,hz,hr⟩:=zeroOf_spec hz0;refine ⟨if ok then .tuple #[z,.bool false] else z,?_,?_⟩
       ·rcases g1 with ⟨rfl,rfl⟩ | ⟨m,c,rfl,q⟩
        ·simp only [Instr.lookup,Sem.run_bind,run_underlying e1,Result.andThen_ok,hck,q1,Sem.run_pure,run_zero hi hz]
        ·simp only [Instr.lookup,Sem.run_bind,run_underlying e1,Result.andThen_ok,run_getMap q,hck,q1,Sem.run_pure,run_zero hi hz]
       ·cases ok
        ·exact hr μ
        ·exact VR.tuple' (LR.cons (hr μ) (LR.cons (.bool _) (LR.nil μ)))
  ·cases h
 ·cases h
theorem keyStays {a b:Value} (h:Instr.sameBits 10000 a b=true):(Instr.keyThatStays a b).run P w=.ok b w:=by simp [Instr.keyThatStays,h]
theorem hasKey_spec {es:List MapEntry} {es':Array MapEntry} {i:Nat} {k k':Value} (h:hasKey es i k=true) (hM:MR μ es es') (hk:VR μ k k'):∃ e e',es[i]?=some e∧es'[i]?=some e'∧Instr.sameBits 10000 e'.key k'=true∧VR μ e.val e'.val∧e.born=e'.born:=by
 unfold hasKey at h
 split at h
 ·rename_i e he;obtain ⟨e',q1,q2,q3,q4⟩:=hM.get he;exact ⟨e,e',he,q1,(keyBits_spec h q2 hk).2,q3,q4⟩
 ·cases h
theorem update_sim {t:TypeId} {m m' k k' v v':Value} {A':AW} (R:Rel μ A.heap.get w) (hm:VR μ m m') (hk:VR μ k k') (hv:VR μ v v') (h:amapUpdate P t m k v A=some A'):∃ w',(Instr.mapUpdate t m' k' v').run P w=.ok () w'∧Post μ A w μ A' w':=by
 unfold amapUpdate at h
 split at h
 ·rename_i kt et r e1;obtain ⟨me,hme,rfl⟩:=hm.map_inv;cases hmp:A.map? r with
  |none=>rw [hmp] at h;cases h
  |some q =>
   obtain ⟨es,c⟩:=q;rw [hmp] at h;simp only at h;have ho:=map_of hmp;obtain ⟨es',q2,q3⟩:=R.map r me _ c hme ho;cases hc:ckey P 50 kt k with
   |false=>rw [hc] at h;cases h
   |true =>
    rw [hc] at h;simp only [cond_true] at h;have hck:=ckey_sim (w:=w) false 50 10000 kt k k' (by decide) hk hc;(have hkt:P.underlying kt ≠ none:=fun e=>by simp [ckey,e] at hc);cases hf:afind P kt k es 0 with
    |none=>rw [hf] at h;cases h
    |some o =>
     obtain ⟨o',p1,p2⟩:=find_sim (w:=w) hk q3 hkt hf;rw [hf] at h;cases o with
     |some p =>
      obtain ⟨j,u⟩:=p;cases o' with
      |none=>exact p2.elim
      |some p' =>
       obtain ⟨j',u'⟩:=p';obtain ⟨rfl,_,_⟩:=p2;simp only at h;cases hh:hasKey es j k with
       |false=>rw [hh] at h;cases h
       |true =>
        rw [hh] at h;simp only [cond_true,Option.some.injEq] at h;subst h;obtain ⟨e,e',s1,s2,s3,s4,s5⟩:=hasKey_spec hh q3 hk
        obtain ⟨w',x1,x2⟩:=setMap_sim (P:=P) R hme ho q2 c (q3.modify j (f:=fun e=>{ e with key:=k,val:=v }) (g:=fun e=>{ e with key:=k',val:=v' }) fun a a' b1 b2=>⟨hk,hv,by
         rw [s1] at b1;rw [s2] at b2;cases b1;cases b2;exact s5⟩)
        refine ⟨w',?_,x2⟩;simp only [Instr.mapUpdate,Sem.run_bind,run_underlying e1,Result.andThen_ok,run_getMap q2,hck,p1,s2,Option.map_some,Option.getD_some,keyStays s3];exact x1
     |none =>
      cases o' with
      |some p'=>exact p2.elim
      |none =>
       simp only [Option.some.injEq] at h;subst h;obtain ⟨w',x1,x2⟩:=setMap_sim (P:=P) R hme ho q2 (c+1) (q3.push (e:={ key:=k,val:=v,born:=c }) (e':={ key:=k',val:=v',born:=c }) ⟨hk,hv,rfl⟩);refine ⟨w',?_,x2⟩;simp only [Instr.mapUpdate,Sem.run_bind,run_underlying e1,Result.andThen_ok,run_getMap q2,hck,p1];exact x1
 ·cases h
theorem entry_sim {t:TypeId} {m m' k k':Value} {r0:Res} (R:Rel μ A.heap.get w) (hm:VR μ m m') (hk:VR μ k k') (h:amapEntry P t m k A=some r0):SimV P μ A w r0 (Instr.mapEntry t m' k'):=by
 unfold amapEntry at h
 split at h
 ·rename_i kt et r e1;obtain ⟨me,hme,rfl⟩:=hm.map_inv;cases hmp:A.map? r with
  |none=>rw [hmp] at h;cases h
  |some q =>
   obtain ⟨es,c⟩:=q;rw [hmp] at h;simp only at h;have ho:=map_of hmp;obtain ⟨es',q2,q3⟩:=R.map r me _ c hme ho;cases hc:ckey P 50 kt k with
   |false=>rw [hc] at h;cases h
   |true =>
    rw [hc] at h;simp only [cond_true] at h;have hck:=ckey_sim (w:=w) false 50 10000 kt k k' (by decide) hk hc;(have hkt:P.underlying kt ≠ none:=fun e=>by simp [ckey,e] at hc);cases hf:afind P kt k es 0 with
    |none=>rw [hf] at h;cases h
    |some o =>
     obtain ⟨o',p1,p2⟩:=find_sim (w:=w) hk q3 hkt hf;rw [hf] at h;cases o with
     |some p =>
      obtain ⟨j,u⟩:=p;cases o' with
      |none=>exact p2.elim
      |some p' =>
       obtain ⟨j',u'⟩:=p';obtain ⟨rfl,hu,_⟩:=p2;simp only at h;cases hh:hasKey es j k with
       |false=>rw [hh] at h;cases h
       |true =>
        rw [hh] at h;simp only [cond_true,Option.some.injEq] at h;subst h;obtain ⟨e,e',s1,s2,s3,s4,s5⟩:=hasKey_spec hh q3 hk
        obtain ⟨w',x1,x2⟩:=setMap_sim (P:=P) R hme ho q2 c (q3.modify j (f:=fun e=>{ e with key:=k }) (g:=fun e=>{ e with key:=k' }) fun a a' b1 b2=>⟨hk,by
         rw [s1] at b1;rw [s2] at b2;cases b1;cases b2;exact ⟨s4,s5⟩⟩)
        refine ⟨_,_,μ,w',.tuple #[u',goInt e'.born],rfl,?_,?_,x2⟩
        ·simp only [Instr.mapEntry,Sem.run_bind,run_underlying e1,Result.andThen_ok,run_getMap q2,hck,p1,s2,Option.map_some,Option.getD_some,keyStays s3,x1,Sem.run_pure]
        ·rw [s1];exact VR.tuple' (LR.cons hu (LR.cons (by rw [← s5];exact .int _ _) (LR.nil μ)))
     |none =>
      cases o' with
      |some p'=>exact p2.elim
      |none =>
       simp only [Option.map_eq_some_iff] at h;obtain ⟨z,hz0,rfl⟩:=h;obtain ⟨i,hi,hz,hr⟩:=zeroOf_spec hz0;obtain ⟨w',x1,x2⟩:=setMap_sim (P:=P) R hme ho q2 (c+1) (q3.push (e:={ key:=k,val:=z,born:=c }) (e':={ key:=k',val:=z,born:=c }) ⟨hk,hr μ,rfl⟩);refine ⟨_,_,μ,w',.tuple #[z,goInt c],rfl,?_,VR.tuple' (LR.cons (hr μ) (LR.cons (.int _ _) (LR.nil μ))),x2⟩;simp only [Instr.mapEntry,Sem.run_bind,run_underlying e1,Result.andThen_ok,run_getMap q2,hck,p1,run_zero hi hz,x1,Sem.run_pure]
 ·cases h
theorem findIdx_born {es:List MapEntry} {es':Array MapEntry} (hM:MR μ es es') (b:Nat) {i:Nat} (h:es.findIdx? (fun e=>Nat.beq e.born b)=some i):es'.findIdx? (fun e=>(e.born:Int) == (b:Int))=some i:=by
 rw [List.findIdx?_eq_some_iff_getElem] at h;obtain ⟨hi,h1,h2⟩:=h;rw [Array.findIdx?_eq_some_iff_getElem];have hsz:=hM.1;refine ⟨by omega,?_,fun j hj=>?_⟩
 ·have:=(hM.2 i _ _ (List.getElem?_eq_getElem hi) (Array.getElem?_eq_getElem (by omega))).2.2;rw [← this];have:=Nat.eq_of_beq_eq_true h1;simp [this]
 ·have:=(hM.2 j _ _ (List.getElem?_eq_getElem (by omega)) (Array.getElem?_eq_getElem (by omega))).2.2;rw [← this];have h3:=h2 j hj;simp only [Bool.not_eq_true] at h3 ⊢;cases hq:Nat.beq (es[j]).born b with
  |true=>rw [hq] at h3;cases h3
  |false =>
   (have:(es[j]).born ≠ b:=fun e=>by rw [e] at hq;simp at hq);simp;omega
theorem entryStore_sim {t:TypeId} {m m' s s' v v':Value} {A':AW} (R:Rel μ A.heap.get w) (hm:VR μ m m') (hs:VR μ s s') (hv:VR μ v v') (h:aentryStore m s v A=some A'):∃ w',(Instr.entryStore t m' s' v').run P w=.ok () w'∧Post μ A w μ A' w':=by
 unfold aentryStore at h
 split at h
 ·rename_i r b e1;obtain ⟨me,hme,rfl⟩:=hm.map_inv;obtain ⟨k,rfl⟩:=asN_spec e1;obtain rfl:=hs.int_inv;cases hmp:A.map? r with
  |none=>rw [hmp] at h;cases h
  |some q =>
   obtain ⟨es,c⟩:=q;rw [hmp] at h;simp only at h;have ho:=map_of hmp;obtain ⟨es',q2,q3⟩:=R.map r me _ c hme ho;cases hi:es.findIdx? (fun e=>Nat.beq e.born b) with
   |none=>rw [hi] at h;cases h
   |some i =>
    rw [hi] at h;simp only [Option.some.injEq] at h;subst h;have hi':=findIdx_born q3 b hi;obtain ⟨w',x1,x2⟩:=setMap_sim (P:=P) R hme ho q2 c (q3.modify i (f:=fun e=>{ e with val:=v }) (g:=fun e=>{ e with val:=v' }) fun a a' b1 b2=>⟨(q3.2 i a a' b1 b2).1,hv,(q3.2 i a a' b1 b2).2.2⟩);refine ⟨w',?_,x2⟩;simp only [Instr.entryStore,Sem.run_bind,run_getMap q2,Result.andThen_ok,asInt,asIntOf,Sem.run_pure,hi'];exact x1
 ·cases h
end Go.Proofs.Ytpbhkdamkbopkaa.Rf
namespace Go.Proofs.Ytpbhkdamkbopkaa.Rf
open Go
variable {P:Program} {μ:Mu} {A:AW} {w:World}
def NR (μ:Mu):Res → Next → Prop
 |.val v _,.value v'=>VR μ v v'
 |.skip _,.skip=>True
 |.enter f args _,.enter f' args'=>f'=f∧LR μ args.toList args'.toList
 |_,_=>False
def SimO (P:Program) (μ:Mu) (A:AW) (w:World) (r:Res) (m:Sem Next):Prop:=∃ μ' w' n,m.run P w=.ok n w'∧NR μ' r n∧Post μ A w μ' r.aw w'
theorem simO_v {r:Res} {m:Sem Value} (h:SimV P μ A w r m):SimO P μ A w r (do pure (.value (← m))):=by
 obtain ⟨v,A',μ',w',v',rfl,h1,h2,h3⟩:=h;exact ⟨μ',w',.value v',by simp [h1],h2,h3⟩
theorem simO_p {v v':Value} {m:Sem Value} (R:Rel μ A.heap.get w) (h:m.run P w=.ok v' w) (hv:VR μ v v'):SimO P μ A w (.val v A) (do pure (.value (← m))):=simO_v ⟨v,A,μ,w,v',rfl,h,hv,Post.refl R⟩
theorem simO_u {A':AW} {w':World} {m:Sem Unit} (h:m.run P w=.ok () w') (hp:Post μ A w μ A' w'):SimO P μ A w (.skip A') (do m;pure .skip):=⟨μ,w',.skip,by simp [h],trivial,hp⟩
theorem LR.map {ρ ρ':Operand → Value}:∀ (l:List Operand),(∀ x ∈ l,OpR μ ρ ρ' x) → LR μ (l.map ρ) (l.map ρ')
 |[],_=>LR.nil μ
 |x :: l,h=>LR.cons (h x (by simp)) (LR.map l fun y hy=>h y (by simp [hy]))
theorem VR.func_inv {f:Fn} {a b:Array Value} {v':Value} (h:VR μ (.func f a b) v'):∃ a' b',v'=.func f a' b'∧LR μ a.toList a'.toList∧LR μ b.toList b'.toList:=by
 cases h with
 |func _ ha hb h1 h2=>exact ⟨_,_,rfl,⟨by simpa using ha,fun i v v' x y=>h1 i v v' (by simpa using x) (by simpa using y)⟩,⟨by simpa using hb,fun i v v' x y=>h2 i v v' (by simpa using x) (by simpa using y)⟩⟩
theorem VR.func' (f:Fn) {a a' b b':Array Value} (ha:LR μ a.toList a'.toList) (hb:LR μ b.toList b'.toList):VR μ (.func f a b) (.func f a' b') :=
 .func f (by simpa using ha.1) (by simpa using hb.1) (fun i v v' x y=>ha.2 i v v' (by simpa using x) (by simpa using y)) (fun i v v' x y=>hb.2 i v v' (by simpa using x) (by simpa using y))
theorem box_sim (R:Rel μ A.heap.get w) (hn:μ A.next=none) {t:TypeId} {v v':Value} (hv:VR μ v v'):SimV P μ A w (.val (.pointer (some ⟨A.next,0,none⟩)) (A.newRow v.cells.toList)) (do pure (.pointer (some (← newVar t v')))):=by
 have p:=newRow_sim (w:=w) R hn hv.cells t [] (0,0) (.inl (Nat.le_refl _));simp only [List.append_nil,Array.toArray_toList] at p;refine ⟨_,_,_,_,.pointer (some ⟨w.heap.size,0,none⟩),rfl,?_,?_,p⟩
 ·simp [newVar,newRow]
 ·exact .ptr (.at_ (a:=⟨A.next,0,none⟩) (m:=⟨w.heap.size,0,v'.cells.toList.length⟩) rfl (upd_same _ _ _))
theorem builtin_sim {b:Builtin} {ts:Array TypeId} {ty:TypeId} {cs:Array Bool} {args args':List Value} {r:Res} (R:Rel μ A.heap.get w) (hl:LR μ args args') (h:abuiltin P b ts args A=some r) (hf:Fresh μ A r.aw):SimO P μ A w r (builtin b ts ty cs args'.toArray):=by
 unfold abuiltin at h
 split at h
 ·rename_i s x
  match args',hl with
  |[s',x'],hl=>exact simO_v (append_sim R (hl.2 0 _ _ rfl rfl) (hl.2 1 _ _ rfl rfl) h hf)
  |[],hl=>have:=hl.1;simp at this
  |[_],hl=>have:=hl.1;simp at this
  |_ :: _ :: _ :: _,hl=>have:=hl.1;simp at this
 ·rename_i s x
  match args',hl with
  |[s',x'],hl=>exact simO_v (copy_sim R (hl.2 0 _ _ rfl rfl) (hl.2 1 _ _ rfl rfl) h)
  |[],hl=>have:=hl.1;simp at this
  |[_],hl=>have:=hl.1;simp at this
  |_ :: _ :: _ :: _,hl=>have:=hl.1;simp at this
 ·rename_i x;simp only [Option.map_eq_some_iff] at h;obtain ⟨v,hv,rfl⟩:=h
  match args',hl with
  |[x'],hl =>
   have hx:VR μ x x':=hl.2 0 _ _ rfl rfl;unfold alen at hv
   split at hv
   ·rename_i t ht
    split at hv
    ·rename_i s hu _;obtain rfl:=hx.str_inv;simp only [Option.some.injEq] at hv;subst hv;exact simO_p (m:=Builtin.len_ ts ty #[.string s]) R (by simp [Builtin.len_,ht,run_underlying hu,goInt]) (.int _ _)
    ·rename_i e a n c hu _;simp only [Option.some.injEq] at hv;subst hv;cases hx with
     |slice0=>exact simO_p (m:=Builtin.len_ ts ty #[.slice none 0 0]) R (by simp [Builtin.len_,ht,run_underlying hu,goInt]) (.int _ _)
     |slice hs hm hl hr=>exact simO_p (m:=Builtin.len_ ts ty #[.slice _ n _]) R (by simp [Builtin.len_,ht,run_underlying hu,goInt]) (.int _ _)
     |sliceO hs hl hk=>exact simO_p (m:=Builtin.len_ ts ty #[.slice _ n _]) R (by simp [Builtin.len_,ht,run_underlying hu,goInt]) (.int _ _)
    ·cases hv
   ·cases hv
  |[],hl=>have:=hl.1;simp at this
  |_ :: _ :: _,hl=>have:=hl.1;simp at this
 ·rename_i v l;simp only [Option.map_eq_some_iff] at h;obtain ⟨u,hu,rfl⟩:=h
  match args',hl with
  |v' :: l',hl =>
   have hv:VR μ v v':=hl.2 0 _ _ rfl rfl;have ht:LR μ l l':=⟨by simpa using hl.1,fun i x x' a b=>hl.2 (i+1) x x' (by simpa using a) (by simpa using b)⟩
   obtain ⟨r',q1,q2⟩:=foldI_sim (P:=P) (w:=w) (f:=fun x y=>bif ilt y x then y else x) (g:=Builtin.min2) (fun w k k' x y=>by
    rw [ilt_spec];simp only [Builtin.min2,Sem.run_pure];congr 2
    by_cases h:y < x <;> simp [h]) l l' v v' u hv ht (fun hne=>by
     cases l with
     |nil=>exact absurd rfl hne
     |cons a l=>cases v <;> first | exact ⟨_,_,rfl⟩ | (simp only [foldI] at hu;cases hu)) hu
   exact simO_p (m:=Builtin.min_ ts ty (v' :: l').toArray) R (by simpa [Builtin.min_] using q1) q2
  |[],hl=>have:=hl.1;simp at this
 ·rename_i v l;simp only [Option.map_eq_some_iff] at h;obtain ⟨u,hu,rfl⟩:=h
  match args',hl with
  |v' :: l',hl =>
   have hv:VR μ v v':=hl.2 0 _ _ rfl rfl;have ht:LR μ l l':=⟨by simpa using hl.1,fun i x x' a b=>hl.2 (i+1) x x' (by simpa using a) (by simpa using b)⟩
   obtain ⟨r',q1,q2⟩:=foldI_sim (P:=P) (w:=w) (f:=fun x y=>bif ilt x y then y else x) (g:=Builtin.max2) (fun w k k' x y=>by
    rw [ilt_spec];simp only [Builtin.max2,Sem.run_pure];congr 2
    by_cases h:x < y <;> simp [h]) l l' v v' u hv ht (fun hne=>by
     cases l with
     |nil=>exact absurd rfl hne
     |cons a l=>cases v <;> first | exact ⟨_,_,rfl⟩ | (simp only [foldI] at hu;cases hu)) hu
   exact simO_p (m:=Builtin.max_ ts ty (v' :: l').toArray) R (by simpa [Builtin.max_] using q1) q2
  |[],hl=>have:=hl.1;simp at this
 ·cases h
def RO (μ:Mu) (ρ ρ':Operand → Value) (o:Op):Prop:=∀ x ∈ o.operands,OpR μ ρ ρ' x
theorem aop_sim {ρ ρ':Operand → Value} {o:Oper} {r:Res} (R:Rel μ A.heap.get w) (hρ:RO μ ρ ρ' o.op) (h:aop P ρ o A=some r) (hf:Fresh μ A r.aw):SimO P μ A w r (execOp ρ' o):=by
 obtain ⟨dst,op,type,pos,after,guard⟩:=o;simp only at hρ;unfold aop at h;simp only at h;have h1:∀ {x:Operand},x ∈ op.operands → VR μ (ρ x) (ρ' x):=fun hx=>hρ _ hx;cases op <;> (try simp only at h) <;> try (cases h;done)
 case move x=>simp only [Option.some.injEq] at h;subst h;exact ⟨μ,w,_,rfl,h1 (by simp [Op.operands]),Post.refl R⟩
 case assign x=>simp only [Option.some.injEq] at h;subst h;exact ⟨μ,w,_,rfl,h1 (by simp [Op.operands]),Post.refl R⟩
 case pick c a b =>
  have hc:VR μ (ρ c) (ρ' c):=h1 (by simp [Op.operands]);have ha:VR μ (ρ a) (ρ' a):=h1 (by simp [Op.operands]);have hb:VR μ (ρ b) (ρ' b):=h1 (by simp [Op.operands])
  split at h
  ·rename_i t ht;rw [ht] at hc;simp only [Option.some.injEq] at h;subst h;refine ⟨μ,w,.value (if t then ρ' a else ρ' b),?_,?_,Post.refl R⟩
   ·simp only [execOp,hc.bool_inv,asBool,Sem.run_bind,Sem.run_pure,Result.andThen_ok]
   ·cases t
    ·exact hb
    ·exact ha
  ·cases h
 case alloc t =>
  split at h
  ·rename_i z hz;cases hb:z.cells.toList.all flatCell with
   |false=>rw [hb] at h;cases h
   |true =>
    rw [hb] at h;simp only [cond_true,Option.some.injEq] at h;subst h;obtain ⟨i,hi,hz',hr⟩:=zeroOf_spec hz;have:=box_sim (P:=P) (t:=t) R (hf _ (Nat.le_refl _) (Nat.lt_succ_self _)) (hr μ);obtain ⟨v,A',μ',w',v',e,q1,q2,q3⟩:=this;cases e;refine ⟨μ',w',.value v',?_,q2,q3⟩;simp only [Sem.run_bind,Sem.run_pure] at q1;simp only [execOp,Instr.alloc,Sem.run_bind,run_zero hi hz',Result.andThen_ok,Sem.run_pure];rw [q1];rfl
  ·cases h
 case box t x =>
  have hx:VR μ (ρ x) (ρ' x):=h1 (by simp [Op.operands]);cases hb:(ρ x).cells.toList.all flatCell with
  |false=>rw [hb] at h;cases h
  |true =>
   rw [hb] at h;simp only [cond_true,Option.some.injEq] at h;subst h;have:=box_sim (P:=P) (t:=t) R (hf _ (Nat.le_refl _) (Nat.lt_succ_self _)) hx;exact simO_v (m:=Instr.box t (ρ' x)) this
 case build t ps =>
  simp only [Option.map_eq_some_iff] at h;obtain ⟨v,hv,rfl⟩:=h;have hp:=PR_map (μ:=μ) (ρ:=ρ) (ρ':=ρ') ps.toList fun p hp=>hρ p.2 (by simp only [Op.operands,List.mem_toArray,List.mem_map];exact ⟨p,hp,rfl⟩)
  have hv':abuild P t (ps.toList.map fun (i,x)=>(i,ρ x))=some v:=by
   (have:(mapN ρ ps).toList=ps.toList.map fun (i,x)=>(i,ρ x):=by simp [mapN]);rw [← this];exact hv
  obtain ⟨v',q1,q2⟩:=build_sim (w:=w) hp hv';have e:(ps.toList.map fun (i,x)=>(i,ρ' x)).toArray=ps.map fun (i,x)=>(i,ρ' x):=by apply Array.ext';simp
  rw [e] at q1;exact simO_p R q1 q2
 case buildSlice t len ps =>
  have hp:=PR_map (μ:=μ) (ρ:=ρ) (ρ':=ρ') ps.toList fun p hp=>hρ p.2 (by simp only [Op.operands,List.mem_toArray,List.mem_map];exact ⟨p,hp,rfl⟩)
  have hv':abuildSlice P t len (ps.toList.map fun (i,x)=>(i,ρ x)) A=some r:=by
   (have:(mapN ρ ps).toList=ps.toList.map fun (i,x)=>(i,ρ x):=by simp [mapN]);rw [← this];exact h
  have:=buildSlice_sim (P:=P) R hp hv' hf;have e:(ps.toList.map fun (i,x)=>(i,ρ' x)).toArray=ps.map fun (i,x)=>(i,ρ' x):=by apply Array.ext';simp
  rw [e] at this;exact simO_v this
 case load t x =>
  have hx:VR μ (ρ x) (ρ' x):=h1 (by simp [Op.operands])
  split at h
  ·rename_i a ha;rw [ha] at hx;obtain ⟨a',e,har⟩:=hx.ptr_inv;simp only [Option.map_eq_some_iff] at h;obtain ⟨v,hv,rfl⟩:=h;obtain ⟨v',q1,q2⟩:=load_sim (P:=P) R har hv;exact simO_p (m:=Instr.loadAt t (ρ' x)) R (by rw [e];simpa [Instr.loadAt,Instr.sureAddr] using q1) q2
  ·cases h
 case store t x v =>
  have hx:VR μ (ρ x) (ρ' x):=h1 (by simp [Op.operands]);have hv:VR μ (ρ v) (ρ' v):=h1 (by simp [Op.operands])
  split at h
  ·rename_i a ha;rw [ha] at hx;obtain ⟨a',e,har⟩:=hx.ptr_inv;simp only [Option.map_eq_some_iff] at h;obtain ⟨A',hs,rfl⟩:=h;obtain ⟨w',q1,q2⟩:=store_sim (P:=P) R har hv hs;exact simO_u (m:=Instr.storeAt t (ρ' x) (ρ' v)) (by rw [e];simpa [Instr.storeAt,Instr.sureAddr] using q1) q2
  ·cases h
 case nilCheck x =>
  have hx:VR μ (ρ x) (ρ' x):=h1 (by simp [Op.operands])
  split at h
  ·rename_i a ha;simp only [Option.some.injEq] at h;subst h;rw [ha] at hx;obtain ⟨a',e,har⟩:=hx.ptr_inv;exact ⟨μ,w,.value (.pointer (some a')),by simp only [execOp,e];rfl,.ptr har,Post.refl R⟩
  ·rename_i f a b ha;simp only [Option.some.injEq] at h;subst h;rw [ha] at hx;obtain ⟨a',b',e,q1,q2⟩:=hx.func_inv;exact ⟨μ,w,.value (.func (.func f) a' b'),by simp only [execOp,e];rfl,VR.func' _ q1 q2,Post.refl R⟩
  ·cases h
 case binOp op t x y yt =>
  have hx:VR μ (ρ x) (ρ' x):=h1 (by simp [Op.operands]);have hy:VR μ (ρ y) (ρ' y):=h1 (by simp [Op.operands]);simp only [Option.map_eq_some_iff] at h;obtain ⟨v,hv,rfl⟩:=h;obtain ⟨q1,q2⟩:=abin_sim (P:=P) (w:=w) (ox:=x) (oy:=y) hx hy hv;exact simO_p R q1 q2
 case unOp op t x =>
  have hx:VR μ (ρ x) (ρ' x):=h1 (by simp [Op.operands]);cases hs:scalar (ρ x) with
  |false=>rw [hs] at h;cases h
  |true =>
   rw [hs] at h;simp only [cond_true,Option.map_eq_some_iff] at h;obtain ⟨v,hv,rfl⟩:=h;obtain ⟨q1,q2⟩:=unop_sim (P:=P) (w:=w) hx hs hv;exact simO_p R q1 q2
 case convert s d x=>exact simO_v (aconv_sim R (h1 (by simp [Op.operands])) h hf)
 case makeFunc fn a b =>
  cases fn <;> simp only at h <;> try (cases h;done)
  simp only [Option.some.injEq] at h;subst h;have ha:=LR.map (μ:=μ) (ρ:=ρ) (ρ':=ρ') a.toList fun x hx=>hρ x (by simp only [Op.operands,Array.mem_append];exact .inl (by simpa using hx));have hb:=LR.map (μ:=μ) (ρ:=ρ) (ρ':=ρ') b.toList fun x hx=>hρ x (by simp only [Op.operands,Array.mem_append];exact .inr (by simpa using hx));exact ⟨μ,w,_,rfl,VR.func' _ (by simpa using ha) (by simpa using hb),Post.refl R⟩
 case makeMap t hint =>
  cases hint with
  |some x=>cases h
  |none =>
   simp only at h
   split at h
   ·simp only [Option.some.injEq] at h;subst h;have hm:μ A.next=none:=hf _ (Nat.le_refl _) (Nat.lt_succ_self _);have p:=post_new R hm ⟨w.heap.size,0,0⟩ (.map [] 0) (.map #[] 0) rfl ⟨rfl,rfl,fun i e e' a=>by cases a⟩;refine ⟨_,_,.value (.map (some w.heap.size)),?_,.map (m:=⟨w.heap.size,0,0⟩) (upd_same _ _ _),p⟩;simp [execOp,Instr.makeMap]
   ·cases h
 case makeSlice t l c=>exact simO_v (makeSlice_sim R (h1 (by simp [Op.operands])) (h1 (by simp [Op.operands])) h hf)
 case slice t x lo hi mx =>
  simp only [Option.map_eq_some_iff] at h;obtain ⟨v,hv,rfl⟩:=h;obtain ⟨v',q1,q2⟩:=aslice_sim (P:=P) (w:=w) (ρ':=ρ') (h1 (x:=x) (by simp [Op.operands])) (fun y e=>hρ y (by subst e;simp [Op.operands])) (fun y e=>hρ y (by subst e;simp [Op.operands])) (fun y e=>hρ y (by subst e;simp [Op.operands])) hv;exact simO_p R q1 q2
 case fieldAddr s x f =>
  have hx:VR μ (ρ x) (ρ' x):=h1 (by simp [Op.operands])
  split at h
  ·rename_i fs a e1 ha
   split at h
   ·rename_i fd e2 e3
    split at h
    ·rename_i n hs;cases hn:Nat.beq n 0 with
     |true=>rw [hn] at h;cases h
     |false =>
      rw [hn] at h;simp only [cond_false,Option.some.injEq] at h;subst h;rw [ha] at hx;obtain ⟨a',e,har⟩:=hx.ptr_inv;obtain ⟨v',q1,q2⟩:=fieldAddr_sim (P:=P) (w:=w) e1 e2 e3 hs (fun e=>by subst e;cases hn) har;exact simO_p (m:=Instr.fieldAt s (ρ' x) f) R (by rw [e];exact q1) q2
    ·cases h
   ·cases h
  ·cases h
 case field t x f =>
  have hx:VR μ (ρ x) (ρ' x):=h1 (by simp [Op.operands])
  split at h
  ·rename_i fs cs e1 ha
   split at h
   ·rename_i fd e2;simp only [Option.map_eq_some_iff] at h;obtain ⟨v,hv,rfl⟩:=h;rw [ha] at hx;obtain ⟨cs',e,hl⟩:=hx.agg_inv;obtain ⟨v',q1,q2⟩:=field_sim (P:=P) (w:=w) e1 e2 hl hv;exact simO_p (m:=Instr.field t (ρ' x) f) R (by rw [e];exact q1) q2
   ·cases h
  ·cases h
 case indexAddr t x i =>
  simp only [Option.map_eq_some_iff] at h;obtain ⟨v,hv,rfl⟩:=h;obtain ⟨v',q1,q2⟩:=indexAddr_sim (P:=P) (w:=w) (h1 (x:=x) (by simp [Op.operands])) (h1 (x:=i) (by simp [Op.operands])) hv;exact simO_p R q1 q2
 case index t x i =>
  simp only [Option.map_eq_some_iff] at h;obtain ⟨v,hv,rfl⟩:=h;obtain ⟨v',q1,q2⟩:=index_sim (P:=P) (w:=w) (h1 (x:=x) (by simp [Op.operands])) (h1 (x:=i) (by simp [Op.operands])) hv;exact simO_p R q1 q2
 case lookup t x k ok =>
  simp only [Option.map_eq_some_iff] at h;obtain ⟨v,hv,rfl⟩:=h;obtain ⟨v',q1,q2⟩:=lookup_sim (P:=P) (w:=w) R (h1 (x:=x) (by simp [Op.operands])) (h1 (x:=k) (by simp [Op.operands])) hv;exact simO_p R q1 q2
 case mapUpdate t m k v =>
  simp only [Option.map_eq_some_iff] at h;obtain ⟨A',hv,rfl⟩:=h;obtain ⟨w',q1,q2⟩:=update_sim (P:=P) R (h1 (x:=m) (by simp [Op.operands])) (h1 (x:=k) (by simp [Op.operands])) (h1 (x:=v) (by simp [Op.operands])) hv;exact simO_u q1 q2
 case insert t m k v =>
  simp only [Option.map_eq_some_iff] at h;obtain ⟨A',hv,rfl⟩:=h;obtain ⟨w',q1,q2⟩:=update_sim (P:=P) R (h1 (x:=m) (by simp [Op.operands])) (h1 (x:=k) (by simp [Op.operands])) (h1 (x:=v) (by simp [Op.operands])) hv;exact simO_u q1 q2
 case mapEntry t m k=>exact simO_v (entry_sim R (h1 (by simp [Op.operands])) (h1 (by simp [Op.operands])) h)
 case entryStore t m s v =>
  simp only [Option.map_eq_some_iff] at h;obtain ⟨A',hv,rfl⟩:=h;obtain ⟨w',q1,q2⟩:=entryStore_sim (P:=P) (t:=t) R (h1 (x:=m) (by simp [Op.operands])) (h1 (x:=s) (by simp [Op.operands])) (h1 (x:=v) (by simp [Op.operands])) hv;exact simO_u q1 q2
 case extract x i =>
  have hx:VR μ (ρ x) (ρ' x):=h1 (by simp [Op.operands])
  split at h
  ·rename_i vs ha;simp only [Option.map_eq_some_iff] at h;obtain ⟨v,hv,rfl⟩:=h;rw [ha] at hx;obtain ⟨vs',e,hl⟩:=hx.tuple_inv;obtain ⟨v',q1,q2⟩:=hl.get (i:=i) (v:=v) (by simpa using hv);exact simO_p (m:=Instr.extract (ρ' x) i) R (by rw [e];simp only [Instr.extract];rw [show vs'[i]?=some v' by simpa using q1];rfl) q2
  ·cases h
 case call c =>
  cases hcal:c.callee with
  |invoke a b=>rw [hcal] at h;cases h
  |builtin b =>
   rw [hcal] at h;simp only at h;have hl:=LR.map (μ:=μ) (ρ:=ρ) (ρ':=ρ') c.args.toList fun x hx=>hρ x (by simp only [Op.operands,Call.operands,hcal,Array.mem_append];exact .inr (by simpa using hx));(have e:(List.map ρ' c.args.toList).toArray=c.args.map ρ':=by apply Array.ext';simp)
   have q:∀ cs,SimO P μ A w r (builtin b c.argTypes type cs (c.args.map ρ')):=fun cs=>by
    have:=builtin_sim (P:=P) (ty:=type) (cs:=cs) R (by simpa using hl) h hf
    rwa [e] at this
   obtain ⟨μ',w',n,q1,q2,q3⟩:=q (c.args.map fun | .const _=>true | _=>false);refine ⟨μ',w',n,?_,q2,q3⟩;simp only [execOp,resolve,hcal,Sem.run_bind,Sem.run_pure,Result.andThen_ok,invoke];exact q1
  |value f =>
   rw [hcal] at h;simp only at h;have hfv:VR μ (ρ f) (ρ' f):=h1 (by simp [Op.operands,Call.operands,hcal])
   split at h
   ·rename_i g a b hg;rw [hg] at hfv;obtain ⟨a',b',e,ha,hb⟩:=hfv.func_inv
    split at h
    ·rename_i fn hfn;cases hcond : (fn.body.isSome && !(fn.name == "runtime.NumGoroutine")) with
     |false=>rw [hcond] at h;cases h
     |true =>
      rw [hcond] at h;simp only [cond_true,Option.some.injEq] at h;subst h;simp only [Bool.and_eq_true,Bool.not_eq_true'] at hcond;have hl:=LR.map (μ:=μ) (ρ:=ρ) (ρ':=ρ') c.args.toList fun x hx=>hρ x (by simp only [Op.operands,Call.operands,hcal,Array.mem_append];exact .inr (by simpa using hx));refine ⟨μ,w,.enter g (a' ++ c.args.map ρ' ++ b'),?_,⟨rfl,?_⟩,Post.refl R⟩
      ·have hbn:fn.body.isNone=false:=by cases hbd:fn.body <;> rw [hbd] at hcond <;> simp at hcond ⊢
       simp only [execOp,resolve,hcal,Sem.run_bind,Sem.run_pure,Result.andThen_ok,e,Deferred.ofValue,invoke,callFunc,program,Sem.run,hfn,hcond.2,hbn,Bool.false_eq_true,if_false]
      ·have:=(ha.append (by simpa using hl:LR μ (c.args.map ρ).toList (c.args.map ρ').toList)).append hb
       simpa using this
    ·cases h
   ·cases h
end Go.Proofs.Ytpbhkdamkbopkaa.Rf
namespace Go.Proofs.Ytpbhkdamkbopkaa.Rf
open Go
variable {P:Program} {call:Callf} {nt:Nat}
structure TR (μ:Mu) (nt:Nat) (tm:Tr Value) (a:Act):Prop where
 size:a.tmps.size=nt
 defers:a.defers=[]
 val:∀ t,VR μ (tget tm t) (a.tmps.getD t undef)
theorem TR.mono {μ μ':Mu} (e:Ext μ μ') {tm:Tr Value} {a:Act} (h:TR μ nt tm a):TR μ' nt tm a:=⟨h.size,h.defers,fun t=>(h.val t).mono e⟩
theorem fV_eq {β:Type} (v:Value) (k:Value → β):fV v k=k v:=by
 have hN:∀ (m:Nat) (g:Nat → β),fN m g=g m:=fun m g=>by cases m <;> rfl
 unfold fV
 split
 ·exact hN _ _
 ·exact hN _ _
 ·rfl
 ·rfl
 ·rfl
theorem opClean_RO' {μ:Mu} {ops:Array Oper} {tm:Tr Value} {a:Act} {o:Oper} (h:∀ t ∈ o.looksAt ops,VR μ (tget tm t) (a.tmps.getD t undef)) (hc:opClean o.op=true):RO μ (ev tm) a.eval o.op:=fun x hx=>by
 unfold opClean at hc;rw [List.all_eq_true] at hc;have hcl:=hc x (by simpa using hx);cases x with
 |tmp t=>exact h t (by unfold Oper.looksAt;rw [List.mem_append];left;rw [List.mem_filterMap];exact ⟨.tmp t,by simpa using hx,rfl⟩)
 |const v=>exact clean_VR hcl
 |global g=>exact .ptr (.opq (k:=0) rfl)
 |func f=>exact VR.func' _ (LR.nil μ) (LR.nil μ)
theorem tget_set (tm:Tr Value) (d:Nat) (v:Value) (t:Nat):tget (tm.set d v) t=if t=d then v else tget tm t:=by
 unfold tget;rw [Tr.get_set];by_cases h:t=d
 ·rw [if_pos h,if_pos h]
 ·rw [if_neg h,if_neg h]
theorem putD_sim {μ:Mu} {tm tm':Tr Value} {a:Act} (h:TR μ nt tm a) {d:Option Tmp} {v v':Value} (hv:VR μ v v') (e:putD nt tm d v=some tm'):TR μ nt tm' (a.put d v'):=by
 unfold putD at e;cases d with
 |none=>simp only [Option.some.injEq] at e;subst e;exact h
 |some d =>
  simp only at e;cases hb:Nat.blt d nt with
  |false=>rw [hb] at e;cases e
  |true =>
   rw [hb] at e;simp only [cond_true,fV_eq,Option.some.injEq] at e;subst e;have hlt:=blt_lt hb;refine ⟨by simp [Act.put,h.size],h.defers,fun t=>?_⟩;rw [tget_set];simp only [Act.put,Array.getD_eq_getD_getElem?,Array.getElem?_setIfInBounds];by_cases ht:t=d
   ·subst ht;rw [if_pos rfl,if_pos rfl,if_pos (by rw [h.size];exact hlt)];exact hv
   ·rw [if_neg ht,if_neg (fun e=>ht e.symm),← Array.getD_eq_getD_getElem?];exact h.val t
theorem awanted_sim {μ:Mu} {ops:Array Oper} {tm:Tr Value} {a:Act} {o:Oper} (h:∀ t ∈ o.looksAt ops,VR μ (tget tm t) (a.tmps.getD t undef)) {b:Bool} (e:awanted ops tm o=some b):Region.wanted o (yielded ops a.tmps)=b:=by
 unfold awanted at e;unfold Region.wanted;cases hg:o.guard with
 |none=>rw [hg] at e;simp only [Option.some.injEq] at e;subst e;rfl
 |some gw =>
  obtain ⟨g,want⟩:=gw;rw [hg] at e;simp only at e ⊢;unfold yielded;cases hd:(ops[g]?).bind (·.dst) with
  |none=>rw [hd] at e;simp only [Option.some.injEq] at e;subst e;simp
  |some d =>
   rw [hd] at e;simp only at e;have hv:=h d (by unfold Oper.looksAt;rw [List.mem_append];right;rw [hg];simp [hd]);cases ht:a.tmps[d]? with
   |none =>
    rw [Array.getD_eq_getD_getElem?,ht] at hv;(have hnb:∀ b,tget tm d ≠ .bool b:=fun b q=>by rw [q] at hv;cases hv)
    split at e
    ·rename_i b' q;exact absurd q (hnb b')
    ·simp only [Option.some.injEq] at e;subst e;simp [ht]
   |some v =>
    rw [Array.getD_eq_getD_getElem?,ht] at hv;simp only [Option.getD_some] at hv;simp only [Option.bind_some,ht]
    split at e
    ·rename_i b' q;rw [q] at hv;obtain rfl:=hv.bool_inv;simp only [Option.some.injEq] at e;subst e;simp
    ·rename_i q;simp only [Option.some.injEq] at e;subst e
     have hnb:∀ b,v ≠ .bool b:=fun b q2=>by
      subst q2;cases hq:tget tm d <;> rw [hq] at hv q <;> first | (exact absurd rfl (q _)) | (cases hv;done)
     cases v <;> first | rfl | exact absurd rfl (hnb _)
def CS (P:Program) (call:Callf):Prop:=∀ f args A v A',WF A → call f args A=some (v,A') → ∀ (μ:Mu) (w:World) (args':Array Value),LR μ args.toList args'.toList → Rel μ A.heap.get w → Fresh μ A A' →
 Calls P f args' w fun e w'=>∃ μ' v',e=.returned v'∧VR μ' v v'∧Post μ A w μ' A' w'
theorem Fresh.left {μ:Mu} {A A1 A2:AW} (h:Fresh μ A A2) (k:A1.next≤A2.next):Fresh μ A A1:=fun b hb hl=>h b hb (Nat.lt_of_lt_of_le hl k)
theorem Fresh.right {μ μ1:Mu} {A A1 A2:AW} {w w1:World} (h:Fresh μ A A2) (p:Post μ A w μ1 A1 w1):Fresh μ1 A1 A2:=fun b hb hl=>by
 cases e:μ1 b with
 |none=>rfl
 |some m =>
  rcases p.fresh b m e with q | ⟨q1,q2⟩
  ·have:=h b (Nat.le_trans p.next hb) hl;rw [q] at this;cases this
  ·exact absurd q2 (by omega)
theorem stepOp_sim' (hs : CS P call) (hm : CM call) {ops : Array Oper} {o : Oper} {tm : Tr Value} {A : AW} {s' : St} {μ : Mu} {a : Act} {w : World} {K : Act → World → Prop} {Q : Exit → Act → World → Prop} (hw : WF A) (ht : ∀ t ∈ o.looksAt ops, VR μ (tget tm t) (a.tmps.getD t undef)) (R : Rel μ A.heap.get w) (e : stepOp P call nt ops o ⟨tm, A⟩ = some s') (hf : Fresh μ A s'.A)
  (hK:∀ μ' v v' w',VR μ' v v' → putD nt tm o.dst v=some s'.tm → Post μ A w μ' s'.A w' → K (a.put o.dst v') w'):if Region.wanted o (yielded ops a.tmps)=true then o.wp P a w K Q else K (a.put o.dst undef) w:=by
 unfold stepOp at e
 split at e
 ·rename_i hwt;rw [if_pos (awanted_sim ht hwt)];simp only [Bool.cond_eq_ite] at e;by_cases hcl:opClean o.op=true;rotate_left
  ·rw [if_neg hcl] at e;cases e
  rw [if_pos hcl] at e;cases ha:aop P (ev tm) o A with
  |none=>rw [ha] at e;cases e
  |some r =>
   rw [ha] at e;have hst:=aop_step hw ha;have hro:=opClean_RO' ht hcl;cases r with
   |val v A1 =>
    simp only [Option.map_eq_some_iff] at e;obtain ⟨tm',htm,rfl⟩:=e;obtain ⟨μ',w',n,q1,q2,q3⟩:=aop_sim R hro ha hf;(cases n <;> try exact q2.elim);rename_i v';unfold Oper.wp;rw [q1];exact hK μ' v v' w' q2 htm q3
   |skip A1 =>
    simp only [Option.map_eq_some_iff] at e;obtain ⟨tm',htm,rfl⟩:=e;obtain ⟨μ',w',n,q1,q2,q3⟩:=aop_sim R hro ha hf;(cases n <;> try exact q2.elim);unfold Oper.wp;rw [q1];exact hK μ' undef undef w' (VR.undef μ') htm q3
   |enter f args A1 =>
    simp only at e;cases hcl2:call f args A1 with
    |none=>rw [hcl2] at e;cases e
    |some va =>
     obtain ⟨v,A2⟩:=va;rw [hcl2] at e;simp only [Option.map_eq_some_iff] at e;obtain ⟨tm',htm,rfl⟩:=e;have hst2:=hm _ _ _ _ _ hst.wf hcl2;obtain ⟨μ',w',n,q1,q2,q3⟩:=aop_sim R hro ha (hf.left hst2.next);(cases n <;> try exact q2.elim);rename_i f' args';obtain ⟨rfl,hl⟩:=q2;unfold Oper.wp;rw [q1];refine Calls.mono (hs _ _ _ _ _ hst.wf hcl2 μ' w' args' hl q3.rel (hf.right q3)) fun e2 w2 ⟨μ2,v2,he,hv2,hp2⟩=>?_;subst he;exact hK μ2 v v2 w2 hv2 htm (q3.trans hp2)
 ·rename_i hwt;rw [awanted_sim ht hwt,if_neg (by decide)];simp only [Option.map_eq_some_iff] at e;obtain ⟨tm',htm,rfl⟩:=e;exact hK μ undef undef w (VR.undef μ) htm (Post.refl R)
 ·cases e
theorem stepOp_sim (hs : CS P call) (hm : CM call) {ops : Array Oper} {o : Oper} {s s' : St} {μ : Mu} {a : Act} {w : World} {K : Act → World → Prop} {Q : Exit → Act → World → Prop} (hw : WF s.A) (ht : TR μ nt s.tm a) (R : Rel μ s.A.heap.get w) (e : stepOp P call nt ops o s = some s') (hf : Fresh μ s.A s'.A)
  (hK:∀ μ' v' w',TR μ' nt s'.tm (a.put o.dst v') → Post μ s.A w μ' s'.A w' → K (a.put o.dst v') w'):if Region.wanted o (yielded ops a.tmps)=true then o.wp P a w K Q else K (a.put o.dst undef) w :=
 stepOp_sim' hs hm hw (fun t _=>ht.val t) R e hf fun μ' v v' w' hv hp p=>hK μ' v' w' (putD_sim (ht.mono p.ext) hv hp) p
theorem runOps_sim (hs : CS P call) (hm : CM call) {ops : Array Oper} {Q : Exit → Act → World → Prop} : ∀ (l : List Oper) (i : Nat) (s s' : St) (μ : Mu) (a : Act) (w : World), ops.toList.drop i = l → WF s.A → TR μ nt s.tm a → Rel μ s.A.heap.get w → runOps P call nt ops l s = some s' → Fresh μ s.A s'.A →
  (∀ μ' a' w',TR μ' nt s'.tm a' → Post μ s.A w μ' s'.A w' → Q .normal a' w') → wpOps P ops Q (List.range' i l.length) a w
 |[],i,s,s',μ,a,w,_,_,ht,R,e,_,hQ=>by
  simp only [runOps,Option.some.injEq] at e;subst e;exact hQ μ a w ht (Post.refl R)
 |o :: l,i,s,s',μ,a,w,hd,hw,ht,R,e,hf,hQ=>by
  unfold runOps at e
  split at e
  ·rename_i s1 h1;have k1:=stepOp_step hm hw h1;have k2:=runOps_step hm _ _ _ k1.wf e
   have hi:ops[i]?=some o:=by
    (have:(ops.toList.drop i)[0]?=some o:=by rw [hd];rfl);rw [List.getElem?_drop] at this
    simpa using this
   have hd':ops.toList.drop (i+1)=l:=by
    (have:(ops.toList.drop i).drop 1=l:=by rw [hd];rfl);rw [List.drop_drop] at this;exact this
   simp only [List.length_cons,List.range'_succ];rw [wpOps_cons];unfold wpOp;rw [hi];simp only
   have:=stepOp_sim hs hm (K:=wpOps P ops Q (List.range' (i+1) l.length)) (Q:=Q) hw ht R h1 (hf.left k2.next) fun μ1 v1 w1 t1 p1 =>
    runOps_sim hs hm l (i+1) s1 s' μ1 _ w1 hd' k1.wf t1 p1.rel e (hf.right p1) fun μ2 a2 w2 t2 p2=>hQ μ2 a2 w2 t2 (p1.trans p2)
   split
   ·rename_i hwt;rw [if_pos hwt] at this;exact .inl this
   ·rename_i hwt;rw [if_neg hwt] at this;exact this
  ·cases e
end Go.Proofs.Ytpbhkdamkbopkaa.Rf
