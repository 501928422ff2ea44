/- Parts of the proof, glued by a program of this session (wip/tools/claimfit.py). -/
import Derived.Test.YtpbhkdamkbopkaaMPPB
namespace Go.Proofs.Ytpbhkdamkbopkaa.Inf
set_option linter.unusedSimpArgs false
set_option linter.unusedVariables false
open Go.RowKit Go.Proofs.Ytpbhkdamkbopkaa.Ext Go.Proofs.Ytpbhkdamkbopkaa.RefP Go.Proofs.YtpbhkdamkbopkaaW.PrintWords Go.Proofs.YtpbhkdamkbopkaaW.PrintLast Go.Proofs.YtpbhkdamkbopkaaW.PrintMore
def bits_Mul64.f (a0:Int) (a1:Int):Option (Int × Int):=some (IntKind.u64.wrap ((IntKind.u64.wrap ((IntKind.u64.wrap ((a0 / 4294967296)*(a1 / 4294967296)))+((IntKind.u64.wrap ((IntKind.u64.wrap ((a0 / 4294967296)*(Go.bits .and .u64 a1 4294967295)))+((IntKind.u64.wrap ((Go.bits .and .u64 a0 4294967295)*(Go.bits .and .u64 a1 4294967295))) / 4294967296))) / 4294967296)))+((IntKind.u64.wrap ((Go.bits .and .u64 (IntKind.u64.wrap ((IntKind.u64.wrap ((a0 / 4294967296)*(Go.bits .and .u64 a1 4294967295)))+((IntKind.u64.wrap ((Go.bits .and .u64 a0 4294967295)*(Go.bits .and .u64 a1 4294967295))) / 4294967296))) 4294967295)+(IntKind.u64.wrap ((Go.bits .and .u64 a0 4294967295)*(a1 / 4294967296))))) / 4294967296)),IntKind.u64.wrap (a0*a1))
set_option maxHeartbeats 8000000 in
set_option maxRecDepth 100000 in
theorem bits_Mul64.calls (a0 : Int) (a1 : Int) (r1 : Int) (r2 : Int) (w : World) (h : bits_Mul64.f a0 a1 = some (r1, r2)) :
  Calls Try.prog 119 #[.int .u64 a0,.int .u64 a1] w fun e w'=>e=.returned (.tuple #[.int .u64 r1,.int .u64 r2])∧Drawn0 w w':=by
 have H:(some (IntKind.u64.wrap ((IntKind.u64.wrap ((IntKind.u64.wrap ((a0 / 4294967296)*(a1 / 4294967296)))+((IntKind.u64.wrap ((IntKind.u64.wrap ((a0 / 4294967296)*(Go.bits .and .u64 a1 4294967295)))+((IntKind.u64.wrap ((Go.bits .and .u64 a0 4294967295)*(Go.bits .and .u64 a1 4294967295))) / 4294967296))) / 4294967296)))+((IntKind.u64.wrap ((Go.bits .and .u64 (IntKind.u64.wrap ((IntKind.u64.wrap ((a0 / 4294967296)*(Go.bits .and .u64 a1 4294967295)))+((IntKind.u64.wrap ((Go.bits .and .u64 a0 4294967295)*(Go.bits .and .u64 a1 4294967295))) / 4294967296))) 4294967295)+(IntKind.u64.wrap ((Go.bits .and .u64 a0 4294967295)*(a1 / 4294967296))))) / 4294967296)),IntKind.u64.wrap (a0*a1)))=some (r1,r2):=h;clear h;simp only [Option.some.injEq,Prod.mk.injEq] at H;obtain ⟨rfl,rfl⟩:=H;go_enter Try.func119,Try.ntmps119;go_wp2;go_ret2;exact ⟨by first | rfl | (simp;done) | (simp [*];done),by repeat (first | exact Drawn0.refl _ | apply Drawn0.step)⟩
def bits_Mul.f (a0:Int) (a1:Int):Option (Int × Int):=(bits_Mul64.f a0 a1).bind fun bt128=>(some (bt128.1,bt128.2))
set_option maxHeartbeats 8000000 in
set_option maxRecDepth 100000 in
theorem bits_Mul.calls (a0 : Int) (a1 : Int) (r1 : Int) (r2 : Int) (w : World) (h : bits_Mul.f a0 a1 = some (r1, r2)) :
  Calls Try.prog 115 #[.int .u64 a0,.int .u64 a1] w fun e w'=>e=.returned (.tuple #[.int .u64 r1,.int .u64 r2])∧Drawn0 w w':=by
 have H:((bits_Mul64.f a0 a1).bind fun Qa=>(some (Qa.1,Qa.2)))=some (r1,r2):=h;clear h;replace H:=Option.bind_eq_some_iff.mp H;obtain ⟨⟨Qb,Qc⟩,A30,H⟩:=H;replace H:(some (Qb,Qc))=some (r1,r2):=H;have A3:=Aside0.mk A30;clear A30;simp only [Option.some.injEq,Prod.mk.injEq] at H;obtain ⟨rfl,rfl⟩:=H;go_enter Try.func115,Try.ntmps115;go_wp2_with (first | ((with_reducible refine gate_callee (f:=119) rfl ?_);refine goesL_ (some 25) rfl rfl Try.func119 (by kernel_rfl) rfl #[.int .u64 a0,.int .u64 a1] rfl (by (try simp only [List.map_toArray,List.map_cons,List.map_nil]);first | done | rfl | (simp only [List.length_drop,List.length_take];rfl)) ?_;(with_reducible refine (bits_Mul64.calls a0 a1 Qb Qc _ A3.out).mono ?_);rintro e w' ⟨rfl,⟨nd,rfl⟩⟩;refine ⟨_,rfl,?_⟩))
 go_ret2;exact ⟨by first | rfl | (simp;done) | (simp [*];done),by repeat (first | exact Drawn0.refl _ | apply Drawn0.step)⟩
section
variable {P:Program}
/-- copy of elements of one cell into a row. -/
theorem run_copy_one (w : World) (dT sT ty elem : TypeId) (g o dLen dCap : Nat) (a : Addr) (sLen sCap : Nat) (cur : Array Value) (t : TypeId) (cs : List Value)
  (hu:P.underlying dT=some (.slice elem)) (hs:(P.info? elem).map (·.size)=some 1)
  (hg:w.heap[g]?=some (.cells cur t (0,0))) (hn:cs.length=Nat.min sLen dLen)
  (hsrc:∀ j v,cs[j]?=some v → w.cell? (a.add j)=some v) (hfit:o+cs.length≤cur.size) (h1:∀ v ∈ cs,v.oneCell'=true) :
  (Builtin.copy_ #[dT,sT] ty #[.slice (some ⟨g,o,none⟩) dLen dCap,.slice (some a) sLen sCap]).run P w =
   .ok (goInt (Nat.min sLen dLen)) (w.setRow g (cur.toList.take o ++ cs ++ cur.toList.drop (o+cs.length)).toArray):=by
 have hl:=run_loadCells_list (P:=P) w a cs hsrc;have hst:=run_storeCells_at P g o t cs 0 cur w hg (by simpa using hfit) h1;cases hq:P.info? elem with
 |none=>simp [hq] at hs
 |some i =>
  have hi:i.size=1:=by simpa [hq] using hs
  simp [Builtin.copy_,run_underlying hu,Builtin.lenOf,Builtin.firstCells,sizeOf,typeInfo,hq,hi,← hn,hl,hst]
theorem wpList_copy_one {w : World} {ops : Array Oper} {rest : List Oper} {o : Oper} {a : Act} {Q : Exit → Act → World → Prop} (hgd : o.guard = none) (d s : Operand) (dT sT : TypeId)
  (ho:o.op=.call { callee:=.builtin .copy,args:=#[d,s],argTypes:=#[dT,sT] }) (elem:TypeId) (hu:P.underlying dT=some (.slice elem)) (hsz:(P.info? elem).map (·.size)=some 1)
  (g off dLen dCap:Nat) (ad:Addr) (sLen sCap:Nat) (hd:a.eval d=.slice (some ⟨g,off,none⟩) dLen dCap) (hs:a.eval s=.slice (some ad) sLen sCap)
  (cur:Array Value) (t:TypeId) (hg:w.heap[g]?=some (.cells cur t (0,0))) (cs:List Value) (hn:cs.length=Nat.min sLen dLen)
  (hsrc:∀ j v,cs[j]?=some v → w.cell? (ad.add j)=some v) (hfit:off+cs.length≤cur.size) (h1:∀ v ∈ cs,v.oneCell'=true)
  (h:wpList P ops Q rest (a.put o.dst (goInt (Nat.min sLen dLen))) (w.setRow g (cur.toList.take off ++ (cs ++ cur.toList.drop (off+cs.length))).toArray)):wpList P ops Q (o :: rest) a w:=by
 refine wpList_plain hgd fun K hK=>?_;have hrun:=run_copy_one (P:=P) w dT sT o.type elem g off dLen dCap ad sLen sCap cur t cs hu hsz hg hn hsrc hfit h1;unfold Oper.wp;simp [execOp,ho,resolve,invoke,builtin,hd,hs,hrun,Result.andThen];exact hK _ _ h
theorem step_copy_one (m : Nat) {ops : Array Oper} {o : Oper} {a : Act} {w : World} {K : Act → World → Prop} {Q : Exit → Act → World → Prop} {E : Prop} (hgd : o.guard = none) (d s : Operand) (dT sT : TypeId)
  (ho:o.op=.call { callee:=.builtin .copy,args:=#[d,s],argTypes:=#[dT,sT] }) (elem:TypeId) (hu:P.underlying dT=some (.slice elem)) (hsz:(P.info? elem).map (·.size)=some 1)
  (g off dLen dCap:Nat) (ad:Addr) (sLen sCap:Nat) (hm:Nat.min sLen dLen=m) (hd:a.eval d=.slice (some ⟨g,off,none⟩) dLen dCap) (hs:a.eval s=.slice (some ad) sLen sCap)
  (cur:Array Value) (t:TypeId) (hg:w.heap[g]?=some (.cells cur t (0,0))) (cs:List Value) (hn:cs.length=m)
  (hsrc:∀ j v,cs[j]?=some v → w.cell? (ad.add j)=some v) (hfit:off+cs.length≤cur.size) (h1:∀ v ∈ cs,v.oneCell'=true)
  (h:K (a.put o.dst (goInt m)) (w.setRow g (cur.toList.take off ++ (cs ++ cur.toList.drop (off+cs.length))).toArray)) :
  if Region.wanted o (yielded ops a.tmps)=true then Oper.wp P o a w K Q else E:=by
 subst hm;have hw:Region.wanted o (yielded ops a.tmps)=true:=by simp [Region.wanted,hgd]
 rw [if_pos hw];have hrun:=run_copy_one (P:=P) w dT sT o.type elem g off dLen dCap ad sLen sCap cur t cs hu hsz hg hn hsrc hfit h1;unfold Oper.wp;simp [execOp,ho,resolve,invoke,builtin,hd,hs,hrun,Result.andThen];exact h
end
theorem mask32 (n:Nat) (h:n < 4294967296):Go.bits .and .u64 (n:Int) 4294967295=n:=by
 have e:=u64_and_nat n 4294967295 (by omega) (by decide);have e2:n &&& 4294967295=n % 2 ^ 32:=Nat.and_two_pow_sub_one_eq_mod n 32;rw [e2,Nat.mod_eq_of_lt (by omega)] at e;exact e
theorem u64_in (n:Int) (h0:0≤n) (h1:n < 18446744073709551616):IntKind.u64.wrap n=n:=by
 simp only [IntKind.wrap,IntKind.signed,IntKind.bits];simp;omega
theorem mul_is (n:Nat) (h:n≤65536):bits_Mul.f 1 (n:Int)=some (0,(n:Int)):=by
 have e1:Go.bits .and .u64 1 4294967295=1:=mask32 1 (by decide);have e0:Go.bits .and .u64 0 4294967295=0:=mask32 0 (by decide);have e2:=mask32 n (by omega);have d1:(1:Int) / 4294967296=0:=by decide
 have d2:(n:Int) / 4294967296=0:=by omega
 have w0:IntKind.u64.wrap 0=0:=u64_in 0 (by decide) (by decide);have w1:IntKind.u64.wrap (n:Int)=n:=u64_in n (by omega) (by omega);have z:(0:Int) / 4294967296=0:=by decide
 unfold bits_Mul.f bits_Mul64.f;simp only [Option.bind_some,d1,d2,e1,e2,Int.zero_mul,Int.mul_zero,Int.one_mul,Int.zero_add,Int.add_zero,w0,w1,z,e0]
/-- The first k cells of a row that is being filled are x. -/
structure RI (w0:World) (g cap:Nat) (x:Int) (k:Nat) (w':World):Prop where
 c:∃ cur:List Value,w'.heap[g]?=some (.cells cur.toArray 3 (0,0))∧cur.length=cap∧∀ j,j < k → cur[j]?=some (.int .i64 x)
 hg:w0.heap.size≤g
 b:Below w0.heap.size w0 w'
/-- So many more. -/
theorem fill_more {x : Int} {cur cs : List Value} {cap k m : Nat} (hl : cur.length = cap) (hc : ∀ j, j < k → cur[j]? = some (.int .i64 x)) (hm : cs.length = m) (hs : ∀ j, j < m → cs[j]? = some (.int .i64 x)) (hk : k + m ≤ cap) :
  (cur.take k ++ (cs ++ cur.drop (k+cs.length))).length=cap∧∀ j,j < k+m → (cur.take k ++ (cs ++ cur.drop (k+cs.length)))[j]?=some (.int .i64 x):=by
 refine ⟨by simp only [List.length_append,List.length_take,List.length_drop];omega,fun j hj=>?_⟩;by_cases h1:j < k
 ·rw [List.getElem?_append_left (by rw [List.length_take];omega),List.getElem?_take,if_pos h1];exact hc j h1
 ·rw [List.getElem?_append_right (by rw [List.length_take];omega),List.length_take,List.getElem?_append_left (by omega),show j - min k cur.length=j - k by omega,hs _ (by omega)]
theorem RI.copy {w0 w1 : World} {g cap k m : Nat} {x : Int} {cur : List Value} (hc : w1.heap[g]? = some (.cells cur.toArray 3 (0, 0))) (hl : cur.length = cap) (hk : ∀ j, j < k → cur[j]? = some (.int .i64 x)) (hg : w0.heap.size ≤ g) (hb : Below w0.heap.size w0 w1)
  {cs:List Value} (hm:cs.length=m) (hs:∀ j,j < m → cs[j]?=some (.int .i64 x)) (hkm:k+m≤cap):RI w0 g cap x (k+m) (w1.setRow g (cur.take k ++ (cs ++ cur.drop (k+cs.length))).toArray) :=
 ⟨⟨_,setRow_heap w1 g cur.toArray _ 3 (0,0) hc,(fill_more hl hk hm hs hkm).1,(fill_more hl hk hm hs hkm).2⟩,hg,below_setRow hb hg _⟩
theorem RI.row {w0 w':World} {g cap k:Nat} {x:Int} (h:RI w0 g cap x k w') (hk:k≤cap) (hm:cap≤maxLen):Kd.R (Kd.int .i64) 3 w' w0.heap.size (fun _=>True) (.slice (some ⟨g,0,none⟩) k cap) (List.replicate k x):=by
 obtain ⟨cur,hc,hl,hx⟩:=h.c;refine ⟨fun _ _=>trivial,cur.take k,?_,?_,?_⟩
 ·rw [List.length_replicate];refine ⟨by rw [List.length_take,hl];show min k cap=k*1;omega,.inr ⟨g,cap,cur.toArray,rfl,h.hg,hc,hk,hm,by rw [List.size_toArray,hl];show cap=cap*1;omega,by show cur.take (k*1)=_;rw [Nat.mul_one]⟩⟩
 ·rw [List.length_take,List.length_replicate,hl];show min k cap=k*1;omega
 ·intro j p hp;obtain ⟨hj,rfl⟩:=List.getElem?_eq_some_iff.1 hp;rw [List.length_replicate] at hj;rw [List.getElem_replicate]
  have e:((cur.take k).drop (j*1)).take 1=[.int .i64 x]:=by
   refine List.ext_getElem? fun i=>?_;rw [List.getElem?_take,List.getElem?_drop,List.getElem?_take];by_cases hi:i < 1
   ·rw [if_pos hi,if_pos (by omega),hx _ (by omega)];(obtain rfl:i=0:=by omega);rfl
   ·rw [if_neg hi];rw [List.getElem?_eq_none (by show 1≤i;omega)]
  show (Kd.int .i64).M w' w0.heap.size _ x (((cur.take k).drop (j*1)).take 1);rw [e];rfl
theorem add_at (g j:Nat):(⟨g,0,none⟩:Addr).add j=⟨g,j,none⟩:=by unfold Addr.add;split <;> simp_all
theorem info3n:(Try.prog.info? 3).map (fun i=>(i.zero,i.size,i.bytes))=some (some (.int .i64 0),1,8):=by kernel_rfl
set_option maxRecDepth 100000 in
set_option maxHeartbeats 1000000 in
theorem repeat_calls (ad : Addr) (c : Nat) (x : Int) (n : Nat) (w : World) (h1 : 1 ≤ n) (h2 : n ≤ 65536) (hx : w.cell? (ad.add 0) = some (.int .i64 x)) :
  Calls Try.prog 109 #[.slice (some ad) 1 c,.int .i64 n] w fun e w'=>∃ v0_:Value,e=.returned v0_∧Kd.R (Kd.int .i64) 3 w' w.heap.size (fun _=>True) v0_ (List.replicate n x)∧Below w.heap.size w w':=by
 have HX:=Aside0.mk hx;clear hx;have d0:decide ((n:Int) < 0)=false:=decide_eq_false (by omega);have d1:decide ((9223372036854775807:Int) < n)=false:=decide_eq_false (by omega);have u1:IntKind.u64.wrap (n:Int)=n:=u64_in n (by omega) (by omega);have u2:IntKind.u64.wrap 1=1:=u64_in 1 (by decide) (by decide);go_enter Try.func109,Try.ntmps109;go_upto_region 6 with (first | (go_at_call 115;refine (bits_Mul.calls 1 n 0 n _ (mul_is n h2)).mono ?_;rintro e w' ⟨rfl,⟨nd,rfl⟩⟩))
 have u3:IntKind.i64.wrap (n:Int)=n:=by rw [i64_w];unfold wrap64;omega
 go_upto_region 7 with ((with_reducible refine gate_dst (N:=30) rfl ?_);refine Kd.R_make (Kd.int .i64) (w0:=w) w.heap.size 3 rfl (N:=30) rfl 22 _ _ rfl (n:Int) rfl rfl Try.underlying22 (.int .i64 0) 8 info3n rfl (by decide) (by decide) 0 (ok:=fun _=>True) (okp:=fun _=>True) (rfl) (fun _ hk=>hk) trivial (Int.natCast_nonneg _) (by rw [Int.toNat_natCast];omega) (pw_below_drewN (Below.refl _ _) _) (Nat.le_refl _) ?_;intro v1 w1 hr1 hb1 hg1 hn1;have HR1:=Aside0.mk hr1;have HB1:=Aside0.mk hb1;clear hr1 hb1 hg1 hn1)
 obtain ⟨inner,ho⟩:=Kd.R_own HR1.out;rw [List.length_replicate,Int.toNat_natCast] at ho
 rcases ho.2 with ⟨_,h0⟩ | ⟨g,cap,cur,rfl,hbg,hgc,hnc,hcm,hcs,htk⟩
 ·omega
 have HG:=Aside0.mk hgc
 have HX1:Aside0 (∀ j v,[Value.int .i64 x][j]?=some v → w1.cell? (ad.add j)=some v):=⟨fun j v hv=>by
  have hj:j < 1:=(List.getElem?_eq_some_iff.1 hv).1;obtain rfl:j=0:=by omega
  rw [(HB1.out.cell (World.block_lt_of_cell? w _ HX.out)),HX.out];exact hv⟩
 clear ho HR1 hgc htk;obtain ⟨curl,ecur⟩:∃ curl:List Value,cur=curl.toArray:=⟨cur.toList,by simp⟩;subst ecur;have hcl:curl.length=cap:=by (have h:=hcs;rw [List.size_toArray] at h;rw [h];exact Nat.mul_one _)
 have hmin:Nat.min 1 n=1:=by show min 1 n=1;omega
 have F1:(Try.prog.info? 3).map (·.size)=some 1:=by kernel_rfl
 have F2:[Value.int IntKind.i64 x].length=Nat.min 1 n:=by rw [hmin];rfl
 have F3:0+[Value.int IntKind.i64 x].length≤curl.toArray.size:=by show 0+1≤curl.length;rw [hcl];omega
 have F4:∀ v ∈ [Value.int IntKind.i64 x],v.oneCell'=true:=by intro v hv;simp at hv;rw [hv];rfl
 have F5:Aside0 (∀ w',w'=w1.setRow g (curl.take 0 ++ ([Value.int IntKind.i64 x] ++ curl.drop (0+[Value.int IntKind.i64 x].length))).toArray → RI w g cap x 1 w'):=⟨fun w' hw'=>by rw [hw'];exact RI.copy (k:=0) (m:=1) HG.out hcl (fun j hj=>absurd hj (by omega)) hbg HB1.out rfl (fun j hj=>by rw [show j=0 by omega];rfl) (by omega)⟩;go_wp2_with ((with_reducible refine gate_dst (N:=33) rfl ?_);refine wpList_copy_one rfl (.tmp 31) (.tmp 32) 22 22 rfl 3 Try.underlying22 F1 g 0 n cap ad 1 c rfl rfl curl.toArray 3 HG.out [.int .i64 x] F2 HX1.out F3 F4 ?_;rw [hmin];have HRI:=Aside0.mk (F5.out _ rfl);generalize w1.setRow g _=w2 at HRI ⊢)
 go_loopw [8] (fun v8 w'=>∃ k:Nat,1≤k∧k≤n∧v8=.int .i64 k∧Aside0 (RI w g cap x k w')) (fun v8 _=>n - (intOf v8).toNat)
 case atStart=>exact ⟨1,Nat.le_refl _,h1,rfl,HRI⟩
 clear HRI;obtain ⟨k,hk1,hk2,rfl,HQ⟩:=hrel;by_cases hlt:k < n;rotate_left
 ·have hdec:decide ((k:Int) < n)=false:=decide_eq_false (by omega);obtain rfl:k=n:=by omega
  go_wp2;go_ret;exact ⟨_,rfl,HQ.out.row hnc hcm,HQ.out.b⟩
 have hdec:decide ((k:Int) < n)=true:=decide_eq_true (by omega);go_upto_region 9 with (fail)
 obtain ⟨curk,hck,hlk,hkk⟩:=HQ.out.c;have hkc:k≤cap:=by omega
 have hne:¬ cap=k:=by omega
 obtain ⟨m,hm⟩:∃ m,m=Nat.min k (n - k):=⟨_,rfl⟩
 have hm1:m≤k∧m≤n - k∧1≤m:=by
  have e:m=min k (n - k):=hm;omega
 have HCK:=Aside0.mk hck
 have hcut:∀ j,j < m → (curk.take m)[j]?=some (.int .i64 x):=fun j hj=>by
  rw [List.getElem?_take,if_pos hj];exact hkk j (by omega)
 have hclen:(curk.take m).length=m:=by rw [List.length_take];omega
 have HSRC:Aside0 (∀ j v,(curk.take m)[j]?=some v → wr.drew.cell? ((⟨g,0,none⟩:Addr).add j)=some v):=⟨fun j v hv=>by
  have hj:j < m:=by have:=(List.getElem?_eq_some_iff.1 hv).1;omega
  rw [List.getElem?_take,if_pos hj] at hv;rw [add_at g j,blk_cell (blk_drew HCK.out) j]
  simpa using hv⟩
 have HONE:Aside0 (∀ v ∈ curk.take m,v.oneCell'=true):=⟨fun v hv=>by
  obtain ⟨j,hj,rfl⟩:=List.getElem_of_mem hv;have:=hcut j (by omega);rw [List.getElem?_eq_getElem hj] at this;injection this with this
  rw [this];rfl⟩
 have HRI2:Aside0 (RI w g cap x (k+m) (wr.drew.setRow g (curk.take k ++ (curk.take m ++ curk.drop (k+(curk.take m).length))).toArray)) :=
  ⟨RI.copy (blk_drew hck) hlk hkk HQ.out.hg (below_drew1 HQ.out.b) hclen hcut (by omega)⟩
 have HFIT:Aside0 (k+(curk.take m).length≤curk.toArray.size):=⟨by rw [hclen,List.size_toArray];omega⟩;have HLEN:=Aside0.mk hclen;have HMIN:=Aside0.mk hm.symm;have hw1:IntKind.i64.wrap ((k:Int)+(m:Int))=(k:Int)+(m:Int):=by rw [i64_w];unfold wrap64;omega
 clear hck hkk hcut hclen HQ hm
 go_region_law (refine step_copy_one m (by rfl) (.tmp 41) (.tmp 44) 22 22 (by rfl) 3 Try.underlying22 (by kernel_rfl) g k (n - k) (cap - k) ⟨g,0,none⟩ k cap HMIN.out ?hd ?hs curk.toArray 3 (by exact blk_drew HCK.out) (curk.take m) (by exact HLEN.out) (by exact HSRC.out) (by exact HFIT.out) (by exact HONE.out) ?_;(case hd=>first | (go_simp;done) | (simp [Act.eval,hne];done));(case hs=>first | (go_simp;done) | rfl))
 go_wp2_with fail
 refine ⟨⟨.int .i64 ((k:Int)+m),_,_,_,_,_,_,_,_,_,_,_,_,_,⟨k+m,by omega,by omega,by simp,⟨by have h:=HRI2.out;rw [List.length_take,hlk] at h;exact h⟩⟩,rfl⟩,?_⟩;show n - (intOf (.int .i64 ((k:Int)+m))).toNat < n - (intOf (.int .i64 (k:Int))).toNat;simp [intOf];omega
end Go.Proofs.Ytpbhkdamkbopkaa.Inf
namespace Go.Proofs.Ytpbhkdamkbopkaa.Inf
set_option linter.unusedSimpArgs false
set_option linter.unusedVariables false
open Go.RowKit Go.Proofs.Ytpbhkdamkbopkaa.Ext Go.Proofs.Ytpbhkdamkbopkaa.RefP Go.Proofs.YtpbhkdamkbopkaaW.PrintWords Go.Proofs.YtpbhkdamkbopkaaW.PrintLast Go.Proofs.YtpbhkdamkbopkaaW.PrintMore
theorem row_form {e:Nat} {k:IntKind} {w:World} {base:Nat} {ok:Nat → Prop} {v:Value} {xs:List Int} (h:Kd.R (Kd.int k) e w base ok v xs) (hn:0 < xs.length):∃ go cap,v=.slice (some ⟨go,0,none⟩) xs.length cap∧ok go∧base≤go∧xs.length≤cap:=by
 obtain ⟨inner,ho⟩:=Kd.R_own h
 rcases ho.2 with ⟨_,h0⟩ | ⟨g,cap,cur,rfl,hbg,hgc,hnc,hcm,hcs,htk⟩
 ·omega
 ·exact ⟨g,cap,rfl,h.1 g rfl,hbg,hnc⟩
/-- The fixed lengths,as far as k. -/
def La (k:Nat):List Int:=(List.range 288).map fun i=>if i < 144 then 8 else if i < k then (if i < 256 then 9 else 7) else 8
theorem La_len (k:Nat):(La k).length=288:=by unfold La;simp
theorem La_start:La 144=List.replicate 288 8:=by decide +kernel
theorem La_end:La 280=plainA:=by decide +kernel
theorem La_step (k:Nat) (h0:144≤k) (h1:k < 280):(La k).set k (if k < 256 then 9 else 7)=La (k+1):=by
 refine List.ext_getElem? fun i=>?_;rw [List.getElem?_set,La_len];unfold La;rw [List.getElem?_map,List.getElem?_map];by_cases hi:i < 288;rotate_left
 ·rw [List.getElem?_eq_none (by simpa using hi),if_neg (by omega)];rfl
 rw [List.getElem?_range hi];by_cases e:k=i
 ·subst e;rw [if_pos rfl,if_pos hi];simp only [Option.map_some]
  congr 1
  (repeat' split) <;> omega
 ·rw [if_neg e];simp only [Option.map_some]
  congr 1
  (repeat' split) <;> omega
set_option maxRecDepth 100000 in
set_option maxHeartbeats 2000000 in
theorem plain_calls (w:World):Calls Try.prog 96 #[] w fun e w'=>∃ v0 v1:Value,e=.returned (.tuple #[v0,v1])∧Kd.R (Kd.int .i64) 3 w' w.heap.size (fun _=>True) v0 plainA∧Kd.R (Kd.int .i64) 3 w' w.heap.size (fun _=>True) v1 plainB∧Below w.heap.size w w':=by
 have HB0:=Aside0.mk (Below.refl w.heap.size w);have R1:Aside0 (1≤288∧288≤65536):=⟨by decide⟩;go_enter Try.func96,Try.ntmps96;have hx8:(w.alloc (.cells #[.int .i64 8] 3)).cell? ((⟨w.heap.size,0,none⟩:Addr).add 0)=some (.int .i64 8):=by rw [add_at];exact (blk_cell (blk_new _ _) 0).trans rfl
 have HX8:=Aside0.mk hx8;clear hx8;go_upto_region 2 with (go_at_call 109;(refine (repeat_calls _ 1 8 288 _ R1.out.1 R1.out.2 HX8.out).mono ?_);rintro e w1 ⟨u,rfl,hru,hb1⟩;have HU:=Aside0.mk hru;have HB1:=Aside0.mk (below_step (below_alloc (Below.refl w.heap.size w) (.cells #[.int .i64 8] 3)) hb1);clear hru hb1)
 rw [← La_start] at HU;obtain ⟨go,cp,rfl,_,hgo,hcp⟩:=row_form HU.out (by rw [La_len];decide);rw [La_len] at HU hcp ⊢;have HU2:Aside0 (Kd.R (Kd.int .i64) 3 w1 w.heap.size (fun _=>True) (.slice (some ⟨go,0,none⟩) 288 cp) (La 144)):=⟨Kd.R_lower HU.out (by show _≤(w.heap.push _).size;simp)⟩
 have hgo2:w.heap.size≤go:=by
  have e:(w.alloc (.cells #[.int .i64 8] 3)).heap.size=w.heap.size+1:=by show (w.heap.push _).size=_;simp
  omega
 clear HU HX8 hgo;go_wp2
 go_loopw [3] (fun v3 w'=>∃ k:Nat,144≤k∧k≤280∧v3=.int .i64 (k:Int)∧Aside0 (Kd.R (Kd.int .i64) 3 w' w.heap.size (fun _=>True) (.slice (some ⟨go,0,none⟩) 288 cp) (La k))∧Aside0 (Below w.heap.size w w')) (fun v3 _=>280 - (intOf v3).toNat)
 case atStart=>exact ⟨144,Nat.le_refl _,by decide,rfl,HU2,HB1⟩
 clear HU2 HB1;obtain ⟨k,hk0,hk1,rfl,HR,HB⟩:=hrel;by_cases hlt:k < 280
 ·have hdec:decide ((k:Int) < 280)=true:=decide_eq_true (by omega)
  have hc:wr.cell? ⟨go,k,none⟩=some (.int .i64 ((La k).getD k 0))∧wr.frozen? ⟨go,k,none⟩=false:=by
   have:=Kd.R_celln (0:Int) HR.out (k:Int) (by omega) (by omega);rw [Int.toNat_natCast] at this;exact this
  obtain ⟨hc,hf⟩:=hc;have h7:=Kd.R_putg HR.out (k:Int) 7;rw [Int.toNat_natCast] at h7;have H7:=Aside0.mk h7;clear h7;by_cases c:k < 256;rotate_left
  ·have hd2:decide ((k:Int) < 256)=false:=decide_eq_false (by omega);have h7:=H7.out.1;rw [show (7:Int)=(if k < 256 then 9 else 7) from (if_neg c).symm,La_step k hk0 hlt,if_neg c] at h7;have H8:=Aside0.mk h7;clear h7;go_wp2
   go_roundw
   case rel=>exact ⟨k+1,by omega,by omega,by go_num,⟨H8.out⟩,⟨below_set HB.out hgo2⟩⟩
   case measure=>simp [intOf];omega
  have hd2:decide ((k:Int) < 256)=true:=decide_eq_true (by omega);have h9:=Kd.R_putg H7.out.1 (k:Int) 9;rw [Int.toNat_natCast,List.set_set,show (9:Int)=(if k < 256 then 9 else 7) from (if_pos c).symm,La_step k hk0 hlt,if_pos c] at h9;have H9:=Aside0.mk h9;clear h9;go_wp2
  go_roundw
  case rel=>exact ⟨k+1,by omega,by omega,by go_num,⟨H9.out.1⟩,⟨below_set (below_set HB.out hgo2) hgo2⟩⟩
  case measure=>simp [intOf];omega
 ·have hdec:decide ((k:Int) < 280)=false:=decide_eq_false (by omega);obtain rfl:k=280:=by omega
  have hx5:(wr.alloc (.cells #[.int .i64 5] 3)).cell? ((⟨wr.heap.size,0,none⟩:Addr).add 0)=some (.int .i64 5):=by rw [add_at];exact (blk_cell (blk_new _ _) 0).trans rfl
  have HX5:=Aside0.mk hx5;clear hx5;have R2:Aside0 (1≤32∧32≤65536):=⟨by decide⟩;go_wp2_with (go_at_call 109;(refine (repeat_calls _ 1 5 32 _ R2.out.1 R2.out.2 HX5.out).mono ?_);rintro e w2 ⟨u2,rfl,hru,hb1⟩;have HU:=Aside0.mk hru;have HB1:=Aside0.mk hb1;clear hru hb1)
  go_ret2;rw [La_end] at HR;exact ⟨_,_,rfl,Kd.R_below HR.out (below_step (below_alloc (Below.refl _ _) _) HB1.out),Kd.R_lower HU.out (by have:=HB.out.size;show _≤(wr.heap.push _).size;simp;omega),below_step HB.out (below_step (below_alloc (Below.refl _ _) _) HB1.out)⟩
end Go.Proofs.Ytpbhkdamkbopkaa.Inf
namespace Go.Proofs.Ytpbhkdamkbopkaa.Inf
set_option linter.unusedSimpArgs false
set_option linter.unusedVariables false
open Go.RowKit Go.Proofs.Ytpbhkdamkbopkaa.Ext Go.Proofs.Ytpbhkdamkbopkaa.RefP Go.Proofs.YtpbhkdamkbopkaaW.PrintWords Go.Proofs.YtpbhkdamkbopkaaW.PrintLast Go.Proofs.YtpbhkdamkbopkaaW.PrintMore
theorem left_pos (s:ByteArray) (x:St):1≤left s x:=by unfold left;omega
theorem codes_stop (s:ByteArray) (mx:Int) (la lb:List Int) (k:Nat) (x:St) (h:x.e ≠ 0):codes s mx la lb k x=x:=by
 cases k with
 |zero=>rfl
 |succ k=>unfold codes;rw [if_neg h]
/-- What a symbol's step leaves. -/
theorem run_step {w0:World} {s:ByteArray} {mx:Int} {la lb:List Int} {y:St} {k:Nat} (hk:left s y≤k) (he:y.e=0):∃ k1,k=k1+1∧codes s mx la lb k y=if (one s mx la lb y).1=true then (one s mx la lb y).2 else codes s mx la lb k1 (one s mx la lb y).2:=by
 have:=left_pos s y;obtain ⟨k1,rfl⟩:∃ k1,k=k1+1:=⟨k - 1,by omega⟩;refine ⟨k1,rfl,?_⟩;show (if y.e=0 then _ else _)=_;rw [if_pos he]
theorem post_end {s:ByteArray} {mx:Int} {la lb:List Int} {k k1:Nat} {y z R:St} (hE:codes s mx la lb k y=R) (hc:codes s mx la lb k y=if (one s mx la lb y).1=true then (one s mx la lb y).2 else codes s mx la lb k1 (one s mx la lb y).2) (h1:one s mx la lb y=(true,z)):R=z:=by
 rw [← hE,hc,h1];rfl
theorem post_go {s:ByteArray} {mx:Int} {la lb:List Int} {k k1:Nat} {y z R:St} (hE:codes s mx la lb k y=R) (hc:codes s mx la lb k y=if (one s mx la lb y).1=true then (one s mx la lb y).2 else codes s mx la lb k1 (one s mx la lb y).2) (h1:one s mx la lb y=(false,z)):codes s mx la lb k1 z=R:=by
 rw [← hE,hc,h1];rfl
theorem len_rng:∀ q:Nat,q < 29 → 3≤lenB.getD q 0∧lenB.getD q 0≤258∧0≤lenM.getD q 0∧lenM.getD q 0≤5:=by decide +kernel
theorem dis_rng:∀ q:Nat,q < 30 → 1≤disB.getD q 0∧disB.getD q 0≤24577∧0≤disM.getD q 0∧disM.getD q 0≤13:=by decide +kernel
theorem again_len (o:List Int) (d n:Nat):(again o d n).length=o.length+n:=by
 induction n with
 |zero=>rfl
 |succ n ih=>unfold again;rw [List.length_append,ih];rfl
theorem left_less {s:ByteArray} {y z:St} {k k1:Nat} (hk:left s y≤k) (hk1:k=k1+1) (h1:y.p+1≤z.p) (h2:y.p≤8*s.size):left s z≤k1:=by
 unfold left at *;omega
theorem meas_less {w0 w w':World} {g:Nat} {v v':Value} {s:ByteArray} {mx:Int} {y z:St} (h:ISt w0 g v s mx y w) (h':ISt w0 g v' s mx z w') (h1:y.p+1≤z.p) (h2:y.p≤8*s.size):imeas s g w' < imeas s g w:=by
 rw [h.meas,h'.meas]
 split <;> split <;> omega
set_option maxRecDepth 100000 in
set_option maxHeartbeats 8000000 in
theorem codes_calls (w0 : World) (g : Nat) (v : Value) (s : ByteArray) (mx : Int) (x : St) (la lb : List Int) (tva tvb : Value) (w : World) (hs : s.size ≤ 17592186044416) (hmx : 0 ≤ mx ∧ mx ≤ 262144) (ho : (x.o.length : Int) ≤ mx) (hx : Ok s x) (he : x.e = 0 → errOf la = 0 ∧ errOf lb = 0) (h : ISt w0 g v s mx x w) (hta : Tv w g v tva la (x.e = 0)) (htb : Tv w g v tvb lb (x.e = 0)) :
  Calls Try.prog 97 #[.pointer (some ⟨g,0,none⟩),tva,tvb] w (Post w0 g v s mx w (.tuple #[]) (codes s mx la lb (left s x) x)):=by
 obtain ⟨ca,sa,A,c,rfl,hca,hfa,hqa⟩:=hta;obtain ⟨cb,sb,B,d,rfl,hcb,hfb,hqb⟩:=htb;have HH:=Aside0.mk h;have HFA:=Aside0.mk hfa;have HFB:=Aside0.mk hfb;clear h hfa hfb;have hu26:=Aside0.mk Try.underlying26;have HSB:Aside0 (s.size≤140737488351232):=⟨by omega⟩;obtain ⟨W1,hW1⟩:∃ W1,W1=w.alloc (.cells (tab ca (.slice A sa.length c)) 26):=⟨_,rfl⟩;obtain ⟨W2,hW2⟩:∃ W2,W2=W1.alloc (.cells (tab cb (.slice B sb.length d)) 26):=⟨_,rfl⟩;obtain ⟨b4,hb4⟩:∃ b4,b4=w.heap.size:=⟨_,rfl⟩;obtain ⟨b5,hb5⟩:∃ b5,b5=W1.heap.size:=⟨_,rfl⟩;have hs1:W1.heap.size=w.heap.size+1:=by rw [hW1];show (w.heap.push _).size=_;simp
 have hF1:Fro w g v W1 v:=by rw [hW1];exact (Fro.refl _ _ _).below (below_alloc (Below.refl _ _) _)
 have hF2:Fro w g v W2 v:=by rw [hW2];exact hF1.below (below_alloc (Below.refl _ _) _)
 have hI1:ISt w0 g v s mx x W1:=by rw [hW1];exact HH.out.below (below_alloc (Below.refl _ _) _)
 have hI2:ISt w0 g v s mx x W2:=by rw [hW2];exact hI1.below (below_alloc (Below.refl _ _) _)
 have hA2:Tbl W2 g v b4 ca sa A c:=⟨by rw [hW2,heap_alloc_old _ _ (by omega),hb4,hW1];exact heap_alloc_new _ _,fun e=>by have:=HH.out.glt;omega,fun e=>by have:=(HH.out.own _ e).2;omega,HFA.out.fro hF2⟩;have hB2:Tbl W2 g v b5 cb sb B d:=⟨by rw [hW2,hb5];exact heap_alloc_new _ _,fun e=>by have:=HH.out.glt;omega,fun e=>by have:=(HH.out.own _ e).2;omega,HFB.out.fro hF2⟩;have HF2:=Aside0.mk hF2;have HI2:=Aside0.mk hI2;have HA2:=Aside0.mk hA2;have HB2:=Aside0.mk hB2;have HOX:=Aside0.mk hx;have HEX:=Aside0.mk he;have HQA:=Aside0.mk hqa;have HQB:=Aside0.mk hqb;have HCA:=Aside0.mk hca;have HCB:=Aside0.mk hcb;clear hF1 hF2 hI1 hI2 hA2 hB2 hx he hqa hqb hca hcb;go_enter Try.func97,Try.ntmps97;go_upto_region 1 with fail
 rw [← hW1,← hW2,← hb4,show b4+1=b5 by omega];have HW:=Aside0.mk (And.intro hW1 (And.intro hW2 (And.intro hb4 (And.intro hb5 hs1))));clear hW1 hW2 hb4 hb5 hs1;go_upto_region 2 with (go_at_call 110;(refine (inflate_bases.calls lenB lenM disB disM _ rfl).mono ?_);rintro e w3 ⟨u6,u7,u8,u9,rfl,hr6,hr7,hr8,hr9,hb3⟩;have HR6:=Aside0.mk hr6;have HR7:=Aside0.mk hr7;have HR8:=Aside0.mk hr8;have HR9:=Aside0.mk hr9;have HB3:=Aside0.mk hb3;clear hr6 hr7 hr8 hr9 hb3)
 obtain ⟨A6,c6,rfl⟩:=Kd.R_slice HR6.out;obtain ⟨A7,c7,rfl⟩:=Kd.R_slice HR7.out;obtain ⟨A8,c8,rfl⟩:=Kd.R_slice HR8.out;obtain ⟨A9,c9,rfl⟩:=Kd.R_slice HR9.out;have hlt2:∀ k,W2.heap.size≤k → k ≠ g∧some k ≠ v.ownBlock:=fun k hk=>⟨fun e=>by have:=HI2.out.glt;omega,fun e=>by have:=(HI2.out.own _ e.symm).2;omega⟩;have F6:Foot w3 g v A6 lenB:=foot_of (Kd.R_mono HR6.out (fun _ _=>trivial)) (Nat.le_refl _) (fun k hk _=>⟨rfl,hlt2 k hk⟩);have F7:Foot w3 g v A7 lenM:=foot_of (Kd.R_mono HR7.out (fun _ _=>trivial)) (Nat.le_refl _) (fun k hk _=>⟨rfl,hlt2 k hk⟩);have F8:Foot w3 g v A8 disB:=foot_of (Kd.R_mono HR8.out (fun _ _=>trivial)) (Nat.le_refl _) (fun k hk _=>⟨rfl,hlt2 k hk⟩);have F9:Foot w3 g v A9 disM:=foot_of (Kd.R_mono HR9.out (fun _ _=>trivial)) (Nat.le_refl _) (fun k hk _=>⟨rfl,hlt2 k hk⟩);have hFr:Fro W2 g v w3 v:=(Fro.refl _ _ _).below HB3.out;have HC:Aside0 (CSt w0 g v s mx x b4 b5 ca sa cb sb A B c d A6 A7 A8 A9 w3):=⟨⟨HI2.out.below HB3.out,HA2.out.fro hFr,HB2.out.fro hFr,F6,F7,F8,F9⟩⟩;have HF3:Aside0 (Fro w g v w3 v):=⟨HF2.out.below HB3.out⟩;have L6:Aside0 (lenB.length=29∧lenM.length=29∧disB.length=30∧disM.length=30):=⟨by decide⟩;rw [L6.out.1,L6.out.2.1,L6.out.2.2.1,L6.out.2.2.2];clear HR6 HR7 HR8 HR9 hlt2 F6 F7 F8 F9 hFr HF2 HI2 HA2 HB2 HB3 HW;obtain ⟨K,hK⟩:∃ K,K=left s x:=⟨_,rfl⟩;rw [← hK];have HKK:=Aside0.mk hK;clear hK;go_wp2
 go_loopw [10] (fun v10 w'=>∃ (k:Nat) (y:St) (v1:Value),Aside0 (left s y≤k)∧Aside0 (codes s mx la lb k y=codes s mx la lb K x)∧Aside0 (Ok s y)∧Aside0 ((y.o.length:Int)≤mx)∧Aside0 (y.e=0 → x.e=0)∧Aside0 (CSt w0 g v1 s mx y b4 b5 ca sa cb sb A B c d A6 A7 A8 A9 w')∧Aside0 (Fro w g v w' v1)) (fun v10 w'=>imeas s g w')
 case atStart=>exact ⟨K,x,v,⟨Nat.le_of_eq HKK.out.symm⟩,⟨rfl⟩,HOX,⟨ho⟩,⟨fun h=>h⟩,HC,HF3⟩
 clear HC HF3 HKK HOX;obtain ⟨k,y,v1,HK,HE,HO,HL,HXE,HC,HF⟩:=hrel;have hc4:=HC.out.i.c4;by_cases c0:y.e=0;rotate_left
 ·have d0:(y.e == 0)=false:=beq_eq_false_iff_ne.2 c0;go_wp2;exact bodyPost_end (v:=.tuple #[]) (by simp [results,Try.results97,go_sem]) rfl ⟨v1,rfl,by rw [← HE.out,codes_stop s mx la lb k y c0];exact HC.out.i,HF.out⟩
 have d0:(y.e == 0)=true:=by rw [c0];rfl
 obtain ⟨k1,hk1,hcs⟩:=run_step (w0:=w0) (mx:=mx) (la:=la) (lb:=lb) HK.out c0;have HCS:=Aside0.mk hcs;obtain ⟨n,y1,ha⟩:∃ n y1,next la s y=(n,y1):=⟨_,_,rfl⟩;have hee:=HEX.out (HXE.out c0);obtain ⟨hok1,hn0,-,ho1,hgo1,-⟩:=next_get HSB.out HO.out (fun _=>hee.1) ha;have HN:=Aside0.mk ha;have HOK1:=Aside0.mk hok1;have HO1:=Aside0.mk ho1;have HG1:=Aside0.mk hgo1;have HEE:=Aside0.mk hee;have HTA:Aside0 (Tv wr g v1 (.agg (tab ca (.slice A sa.length c))) la (y.e=0)):=⟨⟨ca,sa,A,c,rfl,HCA.out,HC.out.ta.foot,fun h=>HQA.out (HXE.out h)⟩⟩;have HP1:Aside0 (y.p≤4611686018427387904):=⟨by have:=HO.out.p1;omega⟩;have HLR:Aside0 ((tab ca (.slice A sa.length c)).size=17):=⟨by rw [tab_size,HCA.out]⟩;have HM0:=Aside0.mk HC.out.i;clear ha hok1 ho1 hgo1 hee hcs
 go_upto_region 4 with (first
  |((with_reducible refine gate_load (t:=26) rfl ?_);refine wpList_load_row rfl 26 _ rfl b4 rfl 26 _ (0,0) _ HC.out.ta.blk hu26.out rfl (by rw [HLR.out];exact info26) ?_)
  |(go_at_call 111;(with_reducible refine (Inf.next_calls w0 g v1 s mx y _ la _ HSB.out HO.out.p0 HP1.out HC.out.i HTA.out (fun _=>HEE.out.1)).mono ?_);rw [HN.out];rintro e w4 ⟨v4,rfl,hi,hf⟩;have HC4:=Aside0.mk (HC.out.fro hf hi);have HF4:=Aside0.mk (HF.out.trans hf);clear hi hf HC HF hc4))
 have HMS:=Aside0.mk (fun (z:St) (v':Value) (w':World) (hz:ISt w0 g v' s mx z w') (h1:y.p+1≤z.p)=>(meas_less HM0.out hz h1 HO.out.p1:imeas s g w' < imeas s g wr));have HLL:=Aside0.mk (fun (z:St) (h1:y.p+1≤z.p)=>(left_less HK.out hk1 h1 HO.out.p1:left s z≤k1));clear HM0;have hc4:=HC4.out.i.c4;by_cases c1:y1.e=0;rotate_left
 ·have d1:(y1.e != 0)=true:=by simpa using c1
  have h1:one s mx la lb y=(true,y1):=by unfold one;rw [HN.out];simp only;rw [if_pos (.inl c1)]
  have hR:=post_end HE.out HCS.out h1;have HR:=Aside0.mk hR;clear h1 hR;go_wp2;exact bodyPost_ret (v:=.tuple #[]) (by simp [results,Try.results97,go_sem]) rfl ⟨v4,rfl,by rw [HR.out];exact HC4.out.i,HF4.out⟩
 have d1:(y1.e != 0)=false:=by rw [c1];rfl
 have hgo:=(HG1.out c1).2.1;have HGO:=Aside0.mk hgo;clear hgo;by_cases c2:n=256
 ·have d2:(n == 256)=true:=by rw [c2];rfl
  have h1:one s mx la lb y=(true,y1):=by unfold one;rw [HN.out];simp only;rw [if_pos (.inr c2)]
  have hR:=post_end HE.out HCS.out h1;have HR:=Aside0.mk hR;clear h1 hR;go_wp2;exact bodyPost_ret (v:=.tuple #[]) (by simp [results,Try.results97,go_sem]) rfl ⟨v4,rfl,by rw [HR.out];exact HC4.out.i,HF4.out⟩
 have d2:(n == 256)=false:=beq_eq_false_iff_ne.2 c2;have hor:¬ (y1.e ≠ 0 ∨ n=256):=fun h=>h.elim (fun h=>h c1) c2;by_cases c3:n < 256
 ·have d3:decide (n < 256)=true:=decide_eq_true c3;have HONE:Aside0 (one s mx la lb y=if (y1.o.length:Int)=mx then (true,fail y1 7) else (false,⟨y1.p,y1.o ++ [n],y1.e⟩)):=⟨by unfold one;rw [HN.out];simp only;rw [if_neg hor,if_pos c3,Int.emod_eq_of_lt hn0 c3]⟩;clear hor;obtain ⟨AV,cV,rfl⟩:=Kd.R_slice HC4.out.i.row;have hc2:=HC4.out.i.c2;have hc3:=HC4.out.i.c3;go_upto_region 6 with fail
  go_quiet (fail)
  generalize hw5:World.drewN _ _=w5;have HC5:Aside0 (CSt w0 g (.slice AV y1.o.length cV) s mx y1 b4 b5 ca sa cb sb A B c d A6 A7 A8 A9 w5):=⟨by rw [← hw5];exact HC4.out.below (pw_below_drewN (Below.refl _ _) _)⟩;have HF5:Aside0 (Fro w g v w5 (.slice AV y1.o.length cV)):=⟨by rw [← hw5];exact HF4.out.below (pw_below_drewN (Below.refl _ _) _)⟩;clear hw5 hc2 hc3 hc4 HC4 HF4;by_cases cm:(y1.o.length:Int)=mx
  ·have dm:((y1.o.length:Int) == mx)=true:=by rw [cm];exact beq_self_eq_true mx
   have hR:=post_end HE.out HCS.out (by rw [HONE.out,if_pos cm]);have HR:=Aside0.mk hR;clear hR;(go_wp2_with (go_at_call 100;(with_reducible refine (fail_calls w0 g _ s mx y1 7 _ HC5.out.i).mono ?_);rintro e w6 ⟨v6,rfl,hi,hf⟩;have HI6:=Aside0.mk hi;have HF6:=Aside0.mk (HF5.out.trans hf);clear hi hf));exact bodyPost_ret (v:=.tuple #[]) (by simp [results,Try.results97,go_sem]) rfl ⟨v6,rfl,by rw [HR.out];exact HI6.out,HF6.out⟩
  have dm:((y1.o.length:Int) == mx)=false:=beq_eq_false_iff_ne.2 cm;have hG:=post_go HE.out HCS.out (by rw [HONE.out,if_neg cm]);have HG:=Aside0.mk hG;have hlen:(y1.o.length:Int)≤mx:=by rw [HO1.out];exact HL.out
  have HSZ:Aside0 ((y1.o.length+1)*1≤140737488355328):=⟨by omega⟩;have HLEN:Aside0 ((((y1.o ++ [n]).length:Nat):Int)≤mx):=⟨by rw [List.length_append,List.length_singleton];omega⟩;have HGT:Aside0 (∀ q,w5.heap.size≤q → q ≠ g):=⟨fun q hq e=>by have:=HC5.out.i.glt;omega⟩;have HC5c:=Aside0.mk HC5.out.i.c2;clear hG hlen;have hc2:=HC5.out.i.c2;go_wp2_with ((with_reducible refine gate_builtin (b:=.append) (xs:=#[.tmp 56,.tmp 59]) rfl ?_);at_builtin;refine Kd.R_append (Kd.int .u8) (w0:=w0) w0.heap.size rfl (.tmp 56) (.tmp 59) 40 5 (.int .u8 0) 1 rfl Try.underlying40 info5w rfl (by decide) (by decide) (.slice AV y1.o.length cV) y1.o n [.int .u8 n] (fun k=>k ≠ g) (fun _=>False) rfl rfl rfl (fun _ hk=>hk.elim) HGT.out HC5.out.i.row HC5.out.i.bl HC5.out.i.bl.size HSZ.out ?_;intro v7 w7 hr7 hb7 hg7 hn7;obtain ⟨o7,ho7⟩:∃ o7,o7=y1.o ++ [n]:=⟨_,rfl⟩;rw [← ho7] at hr7;have HO7:=Aside0.mk ho7;clear ho7;obtain ⟨AZ,cZ,rfl⟩:=Kd.R_slice hr7;have HI7:=Aside0.mk (HC5.out.i.seto hr7 hb7 hg7);have HF7:=Aside0.mk (Fro.seto (Fro.refl w5 g (.slice AV y1.o.length cV)) hg7 hn7);have hc7:w7.cell? ⟨g,2,none⟩=some (.slice AV y1.o.length cV):=(blk_cell (blk_grown HC5.out.i.blk hg7 (Kd.R_ne HC5.out.i.row HC5.out.i.blk (by decide))) 2).trans rfl;have hf7:=blk_frozen (blk_grown HC5.out.i.blk hg7 (Kd.R_ne HC5.out.i.row HC5.out.i.blk (by decide))) 2;clear hr7 hb7 hg7 hn7 hc2)
  go_roundw
  case rel =>
   have HC8:=HC5.out.fro HF7.out HI7.out;exact ⟨k1,⟨y1.p,o7,y1.e⟩,_,⟨HLL.out _ HGO.out⟩,⟨by rw [HO7.out];exact HG.out⟩,⟨⟨HOK1.out.p0,HOK1.out.p1,HOK1.out.e⟩⟩,⟨by rw [HO7.out];exact HLEN.out⟩,⟨fun _=>HXE.out c0⟩,⟨HC8⟩,⟨HF5.out.trans HF7.out⟩⟩
  case measure=>exact HMS.out _ _ _ HI7.out HGO.out
 ·have d3:decide (n < 256)=false:=decide_eq_false c3;by_cases c4:n ≥ 286
  ·have d4:decide (n ≥ 286)=true:=decide_eq_true c4;(have h1:one s mx la lb y=(true,fail y1 3):=by unfold one;rw [HN.out];simp only;rw [if_neg hor,if_neg c3,if_pos c4]);have hR:=post_end HE.out HCS.out h1;have HR:=Aside0.mk hR;clear h1 hR hor;(go_wp2_with (go_at_call 100;(with_reducible refine (fail_calls w0 g _ s mx y1 3 _ HC4.out.i).mono ?_);rintro e w6 ⟨v6,rfl,hi,hf⟩;have HI6:=Aside0.mk hi;have HF6:=Aside0.mk (HF4.out.trans hf);clear hi hf));exact bodyPost_ret (v:=.tuple #[]) (by simp [results,Try.results97,go_sem]) rfl ⟨v6,rfl,by rw [HR.out];exact HI6.out,HF6.out⟩
  have d4:decide (n ≥ 286)=false:=decide_eq_false c4;have HONE:Aside0 (one s mx la lb y=(false,far s mx lb y1 n)):=⟨by unfold one;rw [HN.out];simp only;rw [if_neg hor,if_neg c3,if_neg c4]⟩;clear hor;obtain ⟨q,hq⟩:∃ q:Nat,n=(q:Int)+257:=⟨(n - 257).toNat,by omega⟩;have hq29:q < 29:=by omega
  have hqn:(n - 257).toNat=q:=by omega
  obtain ⟨lr0,lr1,lr2,lr3⟩:=len_rng q hq29;obtain ⟨ad6,e6,H6⟩:=foot_at HC4.out.r6 q hq29;obtain ⟨ad7,e7,H7⟩:=foot_at HC4.out.r7 q hq29;obtain ⟨lb0,hlb⟩:∃ lb0,lb0=lenB.getD q 0:=⟨_,rfl⟩;obtain ⟨lm,hlm⟩:∃ lm:Nat,lenM.getD q 0=(lm:Int):=⟨(lenM.getD q 0).toNat,by omega⟩;rw [← hlb] at lr0 lr1 H6;rw [hlm] at lr2 lr3 H7;obtain ⟨m,x2,hm⟩:∃ m x2,bits s (lm:Int) y1=(m,x2):=⟨_,_,rfl⟩;obtain ⟨hok2,hm0,hm1,ho2,hgo2,-⟩:=bits_get (n:=lm) rfl HOK1.out (by omega) hm
  have hm2:m < 32:=by
   have:(2:Int) ^ lm≤32:=by
    have h5:2 ^ lm≤2 ^ 5:=Nat.pow_le_pow_right (by decide) (by omega);(have e:((2 ^ lm:Nat):Int)=(2:Int) ^ lm:=by rw [Int.natCast_pow];rfl);omega
   omega
  obtain ⟨nn,hnn⟩:∃ nn:Nat,lb0+m=(nn:Int):=⟨(lb0+m).toNat,by omega⟩;have hnn1:nn≤300:=by omega
  obtain ⟨dd,x3,hd⟩:∃ dd x3,next lb s x2=(dd,x3):=⟨_,_,rfl⟩;obtain ⟨hok3,hdd0,-,ho3,hgo3,-⟩:=next_get HSB.out hok2 (fun _=>HEE.out.2) hd;have HFAR:Aside0 (far s mx lb y1 n=(if (if x3.e=0∧dd ≥ 30 then fail x3 3 else x3).e=0 then (if (bits s (disM.getD dd.toNat 0) (if x3.e=0∧dd ≥ 30 then fail x3 3 else x3)).2.e=0 then copy mx (bits s (disM.getD dd.toNat 0) (if x3.e=0∧dd ≥ 30 then fail x3 3 else x3)).2 (nn:Int) (disB.getD dd.toNat 0+(bits s (disM.getD dd.toNat 0) (if x3.e=0∧dd ≥ 30 then fail x3 3 else x3)).1) else (bits s (disM.getD dd.toNat 0) (if x3.e=0∧dd ≥ 30 then fail x3 3 else x3)).2) else (if x3.e=0∧dd ≥ 30 then fail x3 3 else x3))):=⟨by unfold far;simp only;rw [hqn,hlm,hm];simp only;rw [hd,← hlb,hnn]⟩;have HRUN:=Aside0.mk (post_go HE.out HCS.out HONE.out);have HM:=Aside0.mk hm;have HDD:=Aside0.mk hd;have HOK2:=Aside0.mk hok2;have HOK3:=Aside0.mk hok3;have HO2:=Aside0.mk ho2;have HO3:=Aside0.mk ho3;have HG2:=Aside0.mk hgo2;have HG3:=Aside0.mk hgo3;have HNN:=Aside0.mk hnn;have H6:=Aside0.mk H6;have H7:=Aside0.mk H7;have HPY:Aside0 (y1.p≤9223372036854775807):=⟨by have:=HOK1.out.p1;omega⟩;have HP2:Aside0 (x2.p≤4611686018427387904):=⟨by have:=hok2.p1;omega⟩;have HW1:Aside0 (wrap64 (n - 256)=(q:Int)+1):=⟨by rw [hq];rw [wrap_in (by omega) (by omega)];omega⟩;have HW2:Aside0 (wrap64 (q:Int)=(q:Int)):=⟨wrap_in (by omega) (by omega)⟩;have HW3:Aside0 (wrap64 (lb0+m)=(nn:Int)):=⟨by rw [hnn];exact wrap_in (by omega) (by omega)⟩;subst e6;subst e7;clear hm hd hok2 hok3 ho2 ho3 hgo2 hgo3 hnn hlb hlm lr0 lr1 lr2 lr3 hqn hq hm0 hm1 hm2 HE HCS HONE
  go_upto_region 11 with fail
  have hqt:((q:Int) < 29)=True:=eq_true (by omega);have hw1:=HW1.out;have hw2:=HW2.out;have hw3:=HW3.out;clear hc4 d1 d2 d3 d4;have KD:Aside0 (KeepBut w4 w4.drew g v4.ownBlock):=⟨KeepBut.of_below (below_drew1 (Below.refl _ _)) _ _⟩;refine start_ (n:=16) (S:=fun w'=>w'.cell? (ad6.add q)=some (.int .i64 lb0)∧w'.cell? (ad7.add q)=some (.int .i64 (lm:Int))) (ds:=[]) #[false,false,false,false,false,false,false,false,false,false,false,false,false,false,false,false] (by kernel_rfl) rfl rfl ⟨H6.out _ (KeepBut.of_below (below_drew1 (Below.refl _ _)) _ _),H7.out _ (KeepBut.of_below (below_drew1 (Below.refl _ _)) _ _)⟩ (fun hHeld=>?_);have HC5:=Aside0.mk (HC4.out.below (below_drew1 (Below.refl _ _)));have HF5:=Aside0.mk (HF4.out.below (below_drew1 (Below.refl _ _)));generalize w4.drew=w5 at hHeld HC5 HF5 KD ⊢;refine pure_ (i:=0) (N:=some 68) (v:=?_) (a':=?_) #[true,false,false,false,false,false,false,false,false,false,false,false,false,false,false,false] rfl rfl (by kernel_rfl) (fun _ _ _ h=>h) (Or.inl ⟨by rfl,?_⟩) ?_ ?_;rotate_left
  ·intro w';go_simp;with_reducible rfl
  rotate_left
  ·simp only [Act.put,List.setIfInBounds_toArray,List.set_cons_zero,List.set_cons_succ,i64_w,i32_w];rfl
  refine pure_ (i:=1) (N:=some 69) (v:=?_) (a':=?_) #[true,true,false,false,false,false,false,false,false,false,false,false,false,false,false,false] rfl rfl (by kernel_rfl) (fun _ _ _ h=>h) (Or.inl ⟨by rfl,?_⟩) ?_ ?_;rotate_left
  ·intro w';go_simp;with_reducible rfl
  rotate_left
  ·simp only [Act.put,List.setIfInBounds_toArray,List.set_cons_zero,List.set_cons_succ,i64_w,i32_w];rfl
  refine pure_ (i:=2) (N:=some 70) (v:=?_) (a':=?_) #[true,true,true,false,false,false,false,false,false,false,false,false,false,false,false,false] rfl rfl (by kernel_rfl) (fun _ _ _ h=>h) (Or.inl ⟨by rfl,?_⟩) ?_ ?_;rotate_left
  ·intro w';go_simp;with_reducible rfl
  rotate_left
  ·simp only [Act.put,List.setIfInBounds_toArray,List.set_cons_zero,List.set_cons_succ,i64_w,i32_w];rfl
  refine pure_ (i:=3) (N:=some 71) (v:=?_) (a':=?_) #[true,true,true,true,false,false,false,false,false,false,false,false,false,false,false,false] rfl rfl (by kernel_rfl) (fun _ _ _ h=>h) (Or.inl ⟨by rfl,?_⟩) ?_ ?_;rotate_left
  ·intro w';go_simp;with_reducible rfl
  rotate_left
  ·simp only [Act.put,List.setIfInBounds_toArray,List.set_cons_zero,List.set_cons_succ,i64_w,i32_w];rfl
  refine pure_ (i:=4) (N:=some 72) (v:=?_) (a':=?_) #[true,true,true,true,true,false,false,false,false,false,false,false,false,false,false,false] rfl rfl (by kernel_rfl) (fun _ _ _ h=>h) (Or.inl ⟨by rfl,?_⟩) ?_ ?_;rotate_left
  ·intro w';go_simp;with_reducible rfl
  rotate_left
  ·simp only [Act.put,List.setIfInBounds_toArray,List.set_cons_zero,List.set_cons_succ,i64_w,i32_w];rfl
  refine take_ (i:=5) (N:=some 73) (v:=?_) (a':=?_) #[true,true,true,true,true,true,false,false,false,false,false,false,false,false,false,false] rfl rfl (by kernel_rfl) (fun _ _ _ h=>h) (Or.inl ⟨by rfl,?_⟩) hHeld ?_ ?_;rotate_left
  ·rintro w' ⟨s0,s1⟩;go_simp;with_reducible rfl
  rotate_left
  ·simp only [Act.put,List.setIfInBounds_toArray,List.set_cons_zero,List.set_cons_succ,i64_w,i32_w];rfl
  refine pure_ (i:=6) (N:=some 74) (v:=?_) (a':=?_) #[true,true,true,true,true,true,true,false,false,false,false,false,false,false,false,false] rfl rfl (by kernel_rfl) (fun _ _ _ h=>h) (Or.inl ⟨by rfl,?_⟩) ?_ ?_;rotate_left
  ·intro w';go_simp;with_reducible rfl
  rotate_left
  ·simp only [Act.put,List.setIfInBounds_toArray,List.set_cons_zero,List.set_cons_succ,i64_w,i32_w];rfl
  refine pure_ (i:=7) (N:=some 75) (v:=?_) (a':=?_) #[true,true,true,true,true,true,true,true,false,false,false,false,false,false,false,false] rfl rfl (by kernel_rfl) (fun _ _ _ h=>h) (Or.inl ⟨by rfl,?_⟩) ?_ ?_;rotate_left
  ·intro w';go_simp;with_reducible rfl
  rotate_left
  ·simp only [Act.put,List.setIfInBounds_toArray,List.set_cons_zero,List.set_cons_succ,i64_w,i32_w];rfl
  refine pure_ (i:=8) (N:=some 76) (v:=?_) (a':=?_) #[true,true,true,true,true,true,true,true,true,false,false,false,false,false,false,false] rfl rfl (by kernel_rfl) (fun _ _ _ h=>h) (Or.inl ⟨by rfl,?_⟩) ?_ ?_;rotate_left
  ·intro w';go_simp;with_reducible rfl
  rotate_left
  ·simp only [Act.put,List.setIfInBounds_toArray,List.set_cons_zero,List.set_cons_succ,i64_w,i32_w];rfl
  refine pure_ (i:=9) (N:=some 77) (v:=?_) (a':=?_) #[true,true,true,true,true,true,true,true,true,true,false,false,false,false,false,false] rfl rfl (by kernel_rfl) (fun _ _ _ h=>h) (Or.inl ⟨by rfl,?_⟩) ?_ ?_;rotate_left
  ·intro w';go_simp;with_reducible rfl
  rotate_left
  ·simp only [Act.put,List.setIfInBounds_toArray,List.set_cons_zero,List.set_cons_succ,i64_w,i32_w];rfl
  refine pure_ (i:=10) (N:=some 78) (v:=?_) (a':=?_) #[true,true,true,true,true,true,true,true,true,true,true,false,false,false,false,false] rfl rfl (by kernel_rfl) (fun _ _ _ h=>h) (Or.inl ⟨by rfl,?_⟩) ?_ ?_;rotate_left
  ·intro w';go_simp;with_reducible rfl
  rotate_left
  ·simp only [Act.put,List.setIfInBounds_toArray,List.set_cons_zero,List.set_cons_succ,i64_w,i32_w];rfl
  refine pure_ (i:=11) (N:=some 79) (v:=?_) (a':=?_) #[true,true,true,true,true,true,true,true,true,true,true,true,false,false,false,false] rfl rfl (by kernel_rfl) (fun _ _ _ h=>h) (Or.inl ⟨by rfl,?_⟩) ?_ ?_;rotate_left
  ·intro w';go_simp;with_reducible rfl
  rotate_left
  ·simp only [Act.put,List.setIfInBounds_toArray,List.set_cons_zero,List.set_cons_succ,i64_w,i32_w];rfl
  refine take_ (i:=12) (N:=some 80) (v:=?_) (a':=?_) #[true,true,true,true,true,true,true,true,true,true,true,true,true,false,false,false] rfl rfl (by kernel_rfl) (fun _ _ _ h=>h) (Or.inl ⟨by rfl,?_⟩) hHeld ?_ ?_;rotate_left
  ·rintro w' ⟨s0,s1⟩;go_simp;with_reducible rfl
  rotate_left
  ·simp only [Act.put,List.setIfInBounds_toArray,List.set_cons_zero,List.set_cons_succ,i64_w,i32_w];rfl
  refine one_ (i:=13) (N:=some 81) #[true,true,true,true,true,true,true,true,true,true,true,true,true,true,false,false] rfl rfl (by kernel_rfl) (by decide) (fun K hK=>?_);refine goes_ Try.func94 (by kernel_rfl) rfl #[.pointer (some ⟨g,0,none⟩),.int .i64 (lm:Int)] (by rfl) rfl rfl (by (try simp only [List.map_toArray,List.map_cons,List.map_nil]);first | done | rfl) ?_
  (with_reducible refine (bits_calls w0 g v4 s mx y1 (lm:Int) _ HSB.out HPY.out HC5.out.i).mono ?_)
  rw [HM.out];rintro e w6 ⟨v6,rfl,hi,hf⟩;have HC6:=Aside0.mk (HC5.out.fro hf hi);have HF6:=Aside0.mk (HF5.out.trans hf);have hS6:w6.cell? (ad6.add q)=some (.int .i64 lb0)∧w6.cell? (ad7.add q)=some (.int .i64 (lm:Int)):=⟨H6.out _ (KD.out.trans hf.keep (.inl rfl)),H7.out _ (KD.out.trans hf.keep (.inl rfl))⟩;refine ⟨_,rfl,?_⟩;refine hK.out _ _ hS6 (fun hHeld=>?_);clear hK K hi hf;refine norm_ (a':=?_) ?_ ?_;rotate_left
  ·show Act.put _ (some 81) _=_;simp only [Act.put,List.setIfInBounds_toArray,List.set_cons_zero,List.set_cons_succ,i64_w,i32_w];rfl
  refine pure_ (i:=14) (N:=some 82) (v:=?_) (a':=?_) #[true,true,true,true,true,true,true,true,true,true,true,true,true,true,true,false] rfl rfl (by kernel_rfl) (fun _ _ _ h=>h) (Or.inl ⟨by rfl,?_⟩) ?_ ?_;rotate_left
  ·intro w';go_simp;with_reducible rfl
  rotate_left
  ·simp only [Act.put,List.setIfInBounds_toArray,List.set_cons_zero,List.set_cons_succ,i64_w,i32_w];rfl
  refine pure_ (i:=15) (N:=some 11) (v:=?_) (a':=?_) #[true,true,true,true,true,true,true,true,true,true,true,true,true,true,true,true] rfl rfl (by kernel_rfl) (fun _ _ _ h=>h) (Or.inl ⟨by rfl,?_⟩) ?_ ?_;rotate_left
  ·intro w';go_simp;with_reducible rfl
  rotate_left
  ·simp only [Act.put,List.setIfInBounds_toArray,List.set_cons_zero,List.set_cons_succ,i64_w,i32_w];rfl
  refine done_ (by kernel_rfl) ?_;clear hw1 hw2 hw3 hqt HW1 HW2 HW3 hHeld KD HC5 HF5 HC4 HF4;have HTB:Aside0 (Tv w6 g v6 (.agg (tab cb (.slice B sb.length d))) lb (x2.e=0)):=⟨⟨cb,sb,B,d,rfl,HCB.out,HC6.out.tb.foot,fun _=>HQB.out (HXE.out c0)⟩⟩;have HLB:Aside0 ((tab cb (.slice B sb.length d)).size=17):=⟨by rw [tab_size,HCB.out]⟩
  go_upto_region 13 with (first
   |((with_reducible refine gate_load (t:=26) rfl ?_);refine wpList_load_row rfl 26 _ rfl b5 rfl 26 _ (0,0) _ HC6.out.tb.blk hu26.out rfl (by rw [HLB.out];exact info26) ?_)
   |(go_at_call 111;(with_reducible refine (Inf.next_calls w0 g v6 s mx x2 _ lb _ HSB.out HOK2.out.p0 HP2.out HC6.out.i HTB.out (fun _=>HEE.out.2)).mono ?_);rw [HDD.out];rintro e w7 ⟨v7,rfl,hi,hf⟩;have HC7:=Aside0.mk (HC6.out.fro hf hi);have HF7:=Aside0.mk (HF6.out.trans hf);clear hi hf HC6 HF6))
  have hc4:=HC7.out.i.c4;by_cases c5:x3.e=0;rotate_left
  ·have d5:(x3.e == 0)=false:=beq_eq_false_iff_ne.2 c5;(have d7:(x3.e != 0)=true:=by simpa using c5);have hX:(if x3.e=0∧dd ≥ 30 then fail x3 3 else x3)=x3:=if_neg (fun h=>c5 h.1)
   have hR:codes s mx la lb K x=x3:=by
    have h1:=HFAR.out;rw [hX,if_neg c5] at h1;rw [← HRUN.out,h1,codes_stop _ _ _ _ _ _ c5]
   have HR:=Aside0.mk hR;clear hR hX;go_wp2;exact bodyPost_ret (v:=.tuple #[]) (by simp [results,Try.results97,go_sem]) rfl ⟨v7,rfl,by rw [HR.out];exact HC7.out.i,HF7.out⟩
  have d5:(x3.e == 0)=true:=by rw [c5];rfl
  by_cases c6:dd ≥ 30
  ·have d6:decide (dd ≥ 30)=true:=decide_eq_true c6;(have hfe:fail x3 3=⟨x3.p,x3.o,3⟩:=by unfold fail;rw [if_pos c5]);(have hX:(if x3.e=0∧dd ≥ 30 then fail x3 3 else x3)=⟨x3.p,x3.o,3⟩:=by rw [if_pos ⟨c5,c6⟩,hfe])
   have hR:codes s mx la lb K x=⟨x3.p,x3.o,3⟩:=by
    have h1:=HFAR.out;rw [hX,if_neg (show ¬ (3:Int)=0 by decide)] at h1;rw [← HRUN.out,h1,codes_stop _ _ _ _ _ _ (show (3:Int) ≠ 0 by decide)]
   have HR:=Aside0.mk hR;clear hR hX;(go_upto_region 15 with (go_at_call 100;(with_reducible refine (fail_calls w0 g v7 s mx x3 3 _ HC7.out.i).mono ?_);rintro e w8 ⟨v8,rfl,hi,hf⟩;rw [hfe] at hi;have HI8:=Aside0.mk hi;have HF8:=Aside0.mk (HF7.out.trans hf);clear hi hf hc4;have hc4:=HI8.out.c4));go_wp2;exact bodyPost_ret (v:=.tuple #[]) (by simp [results,Try.results97,go_sem]) rfl ⟨v8,rfl,by rw [HR.out];exact HI8.out,HF8.out⟩
  ·have d6:decide (dd ≥ 30)=false:=decide_eq_false c6;have hX:(if x3.e=0∧dd ≥ 30 then fail x3 3 else x3)=x3:=if_neg (fun h=>c6 h.2);have hfar:=HFAR.out;rw [hX,if_pos c5] at hfar;obtain ⟨dq,hdq⟩:∃ dq:Nat,dd=(dq:Int):=⟨dd.toNat,by omega⟩;(have hdq30:dq < 30:=by omega);rw [hdq,Int.toNat_natCast] at hfar;obtain ⟨lr0,lr1,lr2,lr3⟩:=dis_rng dq hdq30;obtain ⟨ad8,e8,H8⟩:=foot_at HC7.out.r8 dq hdq30;obtain ⟨ad9,e9,H9⟩:=foot_at HC7.out.r9 dq hdq30;obtain ⟨db0,hdb⟩:∃ db0,db0=disB.getD dq 0:=⟨_,rfl⟩;obtain ⟨dm,hdm⟩:∃ dm:Nat,disM.getD dq 0=(dm:Int):=⟨(disM.getD dq 0).toNat,by omega⟩;rw [← hdb] at lr0 lr1 H8 hfar;rw [hdm] at lr2 lr3 H9 hfar;obtain ⟨m3,x4,hm3⟩:∃ m3 x4,bits s (dm:Int) x3=(m3,x4):=⟨_,_,rfl⟩;rw [hm3] at hfar;simp only at hfar;obtain ⟨hok4,hm30,hm31,ho4,hgo4,-⟩:=bits_get (n:=dm) rfl HOK3.out (by omega) hm3
   have hm32:m3 < 8192:=by
    have:(2:Int) ^ dm≤8192:=by
     have h5:2 ^ dm≤2 ^ 13:=Nat.pow_le_pow_right (by decide) (by omega);(have e:((2 ^ dm:Nat):Int)=(2:Int) ^ dm:=by rw [Int.natCast_pow];rfl);omega
    omega
   obtain ⟨D,hD⟩:∃ D:Nat,db0+m3=(D:Int):=⟨(db0+m3).toNat,by omega⟩;(have hD1:1≤D:=by omega);(have hD2:D≤40000:=by omega);rw [hD] at hfar;have HFA4:=Aside0.mk hfar;have HM3:=Aside0.mk hm3;have HOK4:=Aside0.mk hok4;have HO4:=Aside0.mk ho4;have HG4:=Aside0.mk hgo4;have H8:=Aside0.mk H8;have H9:=Aside0.mk H9;have HP3:Aside0 (x3.p≤9223372036854775807):=⟨by have:=HOK3.out.p1;omega⟩;have HW2:Aside0 (wrap64 (dq:Int)=(dq:Int)):=⟨wrap_in (by omega) (by omega)⟩;have HW3:Aside0 (wrap64 (db0+m3)=(D:Int)):=⟨by rw [hD];exact wrap_in (by omega) (by omega)⟩;subst e8;subst e9;subst hdq;clear hfar hm3 hok4 ho4 hgo4 hD hdb hdm lr0 lr1 lr2 lr3 hm30 hm31 hm32 hX;(go_upto_region 16 with fail);have hqt:((dq:Int) < 30)=True:=eq_true (by omega);have hw2:=HW2.out;have hw3:=HW3.out;clear hc4 d5 d6;have KD:Aside0 (KeepBut w7 w7.drew g v7.ownBlock):=⟨KeepBut.of_below (below_drew1 (Below.refl _ _)) _ _⟩;refine start_ (n:=12) (S:=fun w'=>w'.cell? (ad8.add dq)=some (.int .i64 db0)∧w'.cell? (ad9.add dq)=some (.int .i64 (dm:Int))) (ds:=[]) #[false,false,false,false,false,false,false,false,false,false,false,false] (by kernel_rfl) rfl rfl ⟨H8.out _ (KeepBut.of_below (below_drew1 (Below.refl _ _)) _ _),H9.out _ (KeepBut.of_below (below_drew1 (Below.refl _ _)) _ _)⟩ (fun hHeld=>?_);have HC8:=Aside0.mk (HC7.out.below (below_drew1 (Below.refl _ _)));have HF8:=Aside0.mk (HF7.out.below (below_drew1 (Below.refl _ _)));generalize w7.drew=w8 at hHeld HC8 HF8 KD ⊢;refine pure_ (i:=0) (N:=some 102) (v:=?_) (a':=?_) #[true,false,false,false,false,false,false,false,false,false,false,false] rfl rfl (by kernel_rfl) (fun _ _ _ h=>h) (Or.inl ⟨by rfl,?_⟩) ?_ ?_
   rotate_left
   ·intro w';go_simp;with_reducible rfl
   rotate_left
   ·simp only [Act.put,List.setIfInBounds_toArray,List.set_cons_zero,List.set_cons_succ,i64_w,i32_w];rfl
   refine pure_ (i:=1) (N:=some 103) (v:=?_) (a':=?_) #[true,true,false,false,false,false,false,false,false,false,false,false] rfl rfl (by kernel_rfl) (fun _ _ _ h=>h) (Or.inl ⟨by rfl,?_⟩) ?_ ?_;rotate_left
   ·intro w';go_simp;with_reducible rfl
   rotate_left
   ·simp only [Act.put,List.setIfInBounds_toArray,List.set_cons_zero,List.set_cons_succ,i64_w,i32_w];rfl
   refine pure_ (i:=2) (N:=some 104) (v:=?_) (a':=?_) #[true,true,true,false,false,false,false,false,false,false,false,false] rfl rfl (by kernel_rfl) (fun _ _ _ h=>h) (Or.inl ⟨by rfl,?_⟩) ?_ ?_;rotate_left
   ·intro w';go_simp;with_reducible rfl
   rotate_left
   ·simp only [Act.put,List.setIfInBounds_toArray,List.set_cons_zero,List.set_cons_succ,i64_w,i32_w];rfl
   refine take_ (i:=3) (N:=some 105) (v:=?_) (a':=?_) #[true,true,true,true,false,false,false,false,false,false,false,false] rfl rfl (by kernel_rfl) (fun _ _ _ h=>h) (Or.inl ⟨by rfl,?_⟩) hHeld ?_ ?_;rotate_left
   ·rintro w' ⟨s0,s1⟩;go_simp;with_reducible rfl
   rotate_left
   ·simp only [Act.put,List.setIfInBounds_toArray,List.set_cons_zero,List.set_cons_succ,i64_w,i32_w];rfl
   refine pure_ (i:=4) (N:=some 106) (v:=?_) (a':=?_) #[true,true,true,true,true,false,false,false,false,false,false,false] rfl rfl (by kernel_rfl) (fun _ _ _ h=>h) (Or.inl ⟨by rfl,?_⟩) ?_ ?_;rotate_left
   ·intro w';go_simp;with_reducible rfl
   rotate_left
   ·simp only [Act.put,List.setIfInBounds_toArray,List.set_cons_zero,List.set_cons_succ,i64_w,i32_w];rfl
   refine pure_ (i:=5) (N:=some 107) (v:=?_) (a':=?_) #[true,true,true,true,true,true,false,false,false,false,false,false] rfl rfl (by kernel_rfl) (fun _ _ _ h=>h) (Or.inl ⟨by rfl,?_⟩) ?_ ?_;rotate_left
   ·intro w';go_simp;with_reducible rfl
   rotate_left
   ·simp only [Act.put,List.setIfInBounds_toArray,List.set_cons_zero,List.set_cons_succ,i64_w,i32_w];rfl
   refine pure_ (i:=6) (N:=some 108) (v:=?_) (a':=?_) #[true,true,true,true,true,true,true,false,false,false,false,false] rfl rfl (by kernel_rfl) (fun _ _ _ h=>h) (Or.inl ⟨by rfl,?_⟩) ?_ ?_;rotate_left
   ·intro w';go_simp;with_reducible rfl
   rotate_left
   ·simp only [Act.put,List.setIfInBounds_toArray,List.set_cons_zero,List.set_cons_succ,i64_w,i32_w];rfl
   refine pure_ (i:=7) (N:=some 109) (v:=?_) (a':=?_) #[true,true,true,true,true,true,true,true,false,false,false,false] rfl rfl (by kernel_rfl) (fun _ _ _ h=>h) (Or.inl ⟨by rfl,?_⟩) ?_ ?_;rotate_left
   ·intro w';go_simp;with_reducible rfl
   rotate_left
   ·simp only [Act.put,List.setIfInBounds_toArray,List.set_cons_zero,List.set_cons_succ,i64_w,i32_w];rfl
   refine take_ (i:=8) (N:=some 110) (v:=?_) (a':=?_) #[true,true,true,true,true,true,true,true,true,false,false,false] rfl rfl (by kernel_rfl) (fun _ _ _ h=>h) (Or.inl ⟨by rfl,?_⟩) hHeld ?_ ?_;rotate_left
   ·rintro w' ⟨s0,s1⟩;go_simp;with_reducible rfl
   rotate_left
   ·simp only [Act.put,List.setIfInBounds_toArray,List.set_cons_zero,List.set_cons_succ,i64_w,i32_w];rfl
   refine one_ (i:=9) (N:=some 111) #[true,true,true,true,true,true,true,true,true,true,false,false] rfl rfl (by kernel_rfl) (by decide) (fun K hK=>?_);refine goes_ Try.func94 (by kernel_rfl) rfl #[.pointer (some ⟨g,0,none⟩),.int .i64 (dm:Int)] (by rfl) rfl rfl (by (try simp only [List.map_toArray,List.map_cons,List.map_nil]);first | done | rfl) ?_
   (with_reducible refine (bits_calls w0 g v7 s mx x3 (dm:Int) _ HSB.out HP3.out HC8.out.i).mono ?_)
   rw [HM3.out];rintro e w9 ⟨v9,rfl,hi,hf⟩;have HC9:=Aside0.mk (HC8.out.fro hf hi);have HF9:=Aside0.mk (HF8.out.trans hf);have hS9:w9.cell? (ad8.add dq)=some (.int .i64 db0)∧w9.cell? (ad9.add dq)=some (.int .i64 (dm:Int)):=⟨H8.out _ (KD.out.trans hf.keep (.inl rfl)),H9.out _ (KD.out.trans hf.keep (.inl rfl))⟩;refine ⟨_,rfl,?_⟩;refine hK.out _ _ hS9 (fun hHeld=>?_);clear hK K hi hf;refine norm_ (a':=?_) ?_ ?_;rotate_left
   ·show Act.put _ (some 111) _=_;simp only [Act.put,List.setIfInBounds_toArray,List.set_cons_zero,List.set_cons_succ,i64_w,i32_w];rfl
   refine pure_ (i:=10) (N:=some 112) (v:=?_) (a':=?_) #[true,true,true,true,true,true,true,true,true,true,true,false] rfl rfl (by kernel_rfl) (fun _ _ _ h=>h) (Or.inl ⟨by rfl,?_⟩) ?_ ?_;rotate_left
   ·intro w';go_simp;with_reducible rfl
   rotate_left
   ·simp only [Act.put,List.setIfInBounds_toArray,List.set_cons_zero,List.set_cons_succ,i64_w,i32_w];rfl
   refine pure_ (i:=11) (N:=some 12) (v:=?_) (a':=?_) #[true,true,true,true,true,true,true,true,true,true,true,true] rfl rfl (by kernel_rfl) (fun _ _ _ h=>h) (Or.inl ⟨by rfl,?_⟩) ?_ ?_;rotate_left
   ·intro w';go_simp;with_reducible rfl
   rotate_left
   ·simp only [Act.put,List.setIfInBounds_toArray,List.set_cons_zero,List.set_cons_succ,i64_w,i32_w];rfl
   refine done_ (by kernel_rfl) ?_;clear hw2 hw3 hqt HW2 HW3 hHeld KD HC7 HF7 HC8 HF8;have hc4:=HC9.out.i.c4;by_cases c7:x4.e=0;rotate_left
   ·have d7:(x4.e != 0)=true:=by simpa using c7
    have hR:codes s mx la lb K x=x4:=by
     have h1:=HFA4.out;rw [if_neg c7] at h1;rw [← HRUN.out,h1,codes_stop _ _ _ _ _ _ c7]
    have HR:=Aside0.mk hR;clear hR;go_wp2;exact bodyPost_ret (v:=.tuple #[]) (by simp [results,Try.results97,go_sem]) rfl ⟨v9,rfl,by rw [HR.out];exact HC9.out.i,HF9.out⟩
   (have d7:(x4.e != 0)=false:=by rw [c7];rfl);have hg3:=(HG4.out c7);have hg2:=(HG3.out hg3.1);have hg1:=(HG2.out hg2.1);have HGOZ:Aside0 (y.p+1≤x4.p):=⟨by have:=HGO.out;omega⟩;(have hol:x4.o.length=y.o.length:=by rw [HO4.out,HO3.out,HO2.out,HO1.out]);(have hol2:(x4.o.length:Int)≤mx:=by rw [hol];exact HL.out);have HOL:=Aside0.mk hol2;have hfar4:=HFA4.out;rw [if_pos c7] at hfar4;have HFC:=Aside0.mk hfar4;obtain ⟨AV,cV,rfl⟩:=Kd.R_slice HC9.out.i.row;have hc2:=HC9.out.i.c2;clear hg1 hg2 hg3 hol hfar4 HFA4 HFAR;by_cases c8:(D:Int)≤x4.o.length
   ·have d8:decide ((D:Int) > x4.o.length)=false:=decide_eq_false (by omega);have hc3:=HC9.out.i.c3;(go_upto_region 24 with fail)
    go_quiet (fail)
    generalize hw5:World.drewN _ _=w10;have Qb:Aside0 (CSt w0 g (.slice AV x4.o.length cV) s mx x4 b4 b5 ca sa cb sb A B c d _ _ _ _ w10):=⟨by rw [← hw5];exact HC9.out.below (pw_below_drewN (Below.refl _ _) _)⟩;have HF10:Aside0 (Fro w g v w10 (.slice AV x4.o.length cV)):=⟨by rw [← hw5];exact HF9.out.below (pw_below_drewN (Below.refl _ _) _)⟩;clear hw5 hc2 hc3 hc4 HC9 HF9;by_cases c9:(x4.o.length:Int)+(nn:Int)≤mx
    ·have d9:decide ((x4.o.length:Int)+(nn:Int) > mx)=false:=decide_eq_false (by omega);(have hcp:far s mx lb y1 n=⟨x4.p,again x4.o D nn,x4.e⟩:=by rw [HFC.out];unfold copy;rw [if_pos c8,if_pos c9,Int.toNat_natCast,Int.toNat_natCast]);have HCP:=Aside0.mk hcp;clear hcp;go_wp2
     go_loopw [114] (fun Qc w'=>∃ (j:Nat) (v1:Value),j≤nn∧Qc=.int .i64 (j:Int)∧Aside0 (CSt w0 g v1 s mx ⟨x4.p,again x4.o D j,x4.e⟩ b4 b5 ca sa cb sb A B c d (some ad6) (some ad7) (some ad8) (some ad9) w')∧Aside0 (Fro w g v w' v1)) (fun Qc _=>nn - (intOf Qc).toNat)
     case atStart=>exact ⟨0,_,Nat.zero_le _,rfl,Qb,HF10⟩
     clear Qb HF10;obtain ⟨j,Qe,hj,rfl,HCJ,HFJ⟩:=hrel;by_cases hlt:j < nn;rotate_left
     ·have hdec:decide ((j:Int) < (nn:Int))=false:=decide_eq_false (by omega);(obtain rfl:j=nn:=by omega);go_wp2
      go_roundw
      case rel=>exact ⟨k1,_,_,⟨HLL.out ⟨x4.p,again x4.o D j,x4.e⟩ HGOZ.out⟩,⟨by rw [← HCP.out];exact HRUN.out⟩,⟨⟨HOK4.out.p0,HOK4.out.p1,HOK4.out.e⟩⟩,⟨by rw [again_len];omega⟩,⟨fun _=>HXE.out c0⟩,HCJ,HFJ⟩
      case measure=>exact HMS.out _ _ _ HCJ.out.i HGOZ.out
     have hdec:decide ((j:Int) < (nn:Int))=true:=decide_eq_true (by omega);obtain ⟨oj,hoj⟩:∃ oj,oj=again x4.o D j:=⟨_,rfl⟩;rw [← hoj] at HCJ;(have hlj:oj.length=x4.o.length+j:=by rw [hoj,again_len]);have HOJ:=Aside0.mk hoj;clear hoj;obtain ⟨L,hL⟩:∃ L,oj.length=L:=⟨_,rfl⟩;obtain ⟨go,cp,hv10,hgg,hgo,hcp2⟩:=row_form HCJ.out.i.row (by show 0 < oj.length;omega);(have hv11:Qe=.slice (some ⟨go,0,none⟩) L cp:=by rw [← hL];exact hv10);subst hv11;obtain ⟨q9,hq9⟩:∃ q9:Nat,(L:Int) - (D:Int)=(q9:Int):=⟨L - D,by omega⟩;(have hq9L:q9 < L:=by omega);(have hq9e:oj.length - D=q9:=by omega);obtain ⟨z,hz⟩:∃ z,z=oj.getD q9 0:=⟨_,rfl⟩;have HZ:=Aside0.mk hz
     have hcz:wr.drew.cell? ⟨go,q9,none⟩=some (.int .u8 z):=by
      have:=(Kd.R_celln (0:Int) HCJ.out.i.drew.row (q9:Int) (by omega) (by omega)).1;rw [Int.toNat_natCast] at this;rw [this,hz];simp [rdOf]
     have Qd:(wr.drew.alloc (.cells #[.int .u8 z] 5)).cell? ⟨go,q9,none⟩=some (.int .u8 z):=by
      have:=(Kd.R_celln (0:Int) (HCJ.out.i.drew.below (below_alloc (Below.refl _ _) (.cells #[.int .u8 z] 5))).row (q9:Int) (by omega) (by omega)).1;rw [Int.toNat_natCast] at this;rw [this,hz];simp [rdOf]
     have HGT:Aside0 (∀ q,wr.drew.heap.size≤q → q ≠ g):=⟨fun q hq e=>by have:=HCJ.out.i.drew.glt;omega⟩;have HSZ:Aside0 ((oj.length+1)*1≤140737488355328):=⟨by omega⟩;have HQE:=Aside0.mk hq9e;have HW9:Aside0 (wrap64 ((L:Int) - (D:Int))=(q9:Int)):=⟨by rw [hq9];exact wrap_in (by omega) (by omega)⟩;have hqt:((q9:Int) < (L:Int))=True:=eq_true (by omega);clear hz hq9e hlj hv10 hL hq9;(go_upto_region 19 with fail);have hw9:=HW9.out;refine start_ (n:=23) (S:=fun w'=>w'.cell? ⟨g,2,none⟩=some (.slice (some ⟨go,0,none⟩) L cp)∧w'.cell? ⟨go,q9,none⟩=some (.int .u8 z)) (ds:=[19,22]) #[false,false,false,false,false,false,false,false,false,false,false,false,false,false,false,false,false,false,false,false,false,false,false] (by kernel_rfl) rfl rfl ⟨HCJ.out.i.drew.c2,hcz⟩ (fun hHeld=>?_);have HCD:=Aside0.mk (HCJ.out.below (below_drew1 (Below.refl _ _)));have HFD:=Aside0.mk (HFJ.out.below (below_drew1 (Below.refl _ _)));generalize wr.drew=w11 at hHeld HCD HFD HGT Qd ⊢;have hiD:=HCD.out.i;have hrowD:=HCD.out.i.row;refine pure_ (i:=0) (N:=some 116) (v:=?_) (a':=?_) #[true,false,false,false,false,false,false,false,false,false,false,false,false,false,false,false,false,false,false,false,false,false,false] rfl rfl (by kernel_rfl) (fun _ _ _ h=>h) (Or.inl ⟨by rfl,?_⟩) ?_ ?_;rotate_left
     ·intro w';go_simp;with_reducible rfl
     rotate_left
     ·simp only [Act.put,List.setIfInBounds_toArray,List.set_cons_zero,List.set_cons_succ,i64_w,i32_w];rfl
     refine pure_ (i:=1) (N:=some 117) (v:=?_) (a':=?_) #[true,true,false,false,false,false,false,false,false,false,false,false,false,false,false,false,false,false,false,false,false,false,false] rfl rfl (by kernel_rfl) (fun _ _ _ h=>h) (Or.inl ⟨by rfl,?_⟩) ?_ ?_;rotate_left
     ·intro w';go_simp;with_reducible rfl
     rotate_left
     ·simp only [Act.put,List.setIfInBounds_toArray,List.set_cons_zero,List.set_cons_succ,i64_w,i32_w];rfl
     refine pure_ (i:=2) (N:=some 118) (v:=?_) (a':=?_) #[true,true,true,false,false,false,false,false,false,false,false,false,false,false,false,false,false,false,false,false,false,false,false] rfl rfl (by kernel_rfl) (fun _ _ _ h=>h) (Or.inl ⟨by rfl,?_⟩) ?_ ?_;rotate_left
     ·intro w';go_simp;with_reducible rfl
     rotate_left
     ·simp only [Act.put,List.setIfInBounds_toArray,List.set_cons_zero,List.set_cons_succ,i64_w,i32_w];rfl
     refine pure_ (i:=3) (N:=some 119) (v:=?_) (a':=?_) #[true,true,true,true,false,false,false,false,false,false,false,false,false,false,false,false,false,false,false,false,false,false,false] rfl rfl (by kernel_rfl) (fun _ _ _ h=>h) (Or.inl ⟨by rfl,?_⟩) ?_ ?_;rotate_left
     ·intro w';go_simp;with_reducible rfl
     rotate_left
     ·simp only [Act.put,List.setIfInBounds_toArray,List.set_cons_zero,List.set_cons_succ,i64_w,i32_w];rfl
     refine take_ (i:=4) (N:=some 120) (v:=?_) (a':=?_) #[true,true,true,true,true,false,false,false,false,false,false,false,false,false,false,false,false,false,false,false,false,false,false] rfl rfl (by kernel_rfl) (fun _ _ _ h=>h) (Or.inl ⟨by rfl,?_⟩) hHeld ?_ ?_;rotate_left
     ·rintro w' ⟨s0,s1⟩;go_simp;with_reducible rfl
     rotate_left
     ·simp only [Act.put,List.setIfInBounds_toArray,List.set_cons_zero,List.set_cons_succ,i64_w,i32_w];rfl
     refine pure_ (i:=5) (N:=some 121) (v:=?_) (a':=?_) #[true,true,true,true,true,true,false,false,false,false,false,false,false,false,false,false,false,false,false,false,false,false,false] rfl rfl (by kernel_rfl) (fun _ _ _ h=>h) (Or.inl ⟨by rfl,?_⟩) ?_ ?_;rotate_left
     ·intro w';go_simp;with_reducible rfl
     rotate_left
     ·simp only [Act.put,List.setIfInBounds_toArray,List.set_cons_zero,List.set_cons_succ,i64_w,i32_w];rfl
     refine pure_ (i:=6) (N:=some 122) (v:=?_) (a':=?_) #[true,true,true,true,true,true,true,false,false,false,false,false,false,false,false,false,false,false,false,false,false,false,false] rfl rfl (by kernel_rfl) (fun _ _ _ h=>h) (Or.inl ⟨by rfl,?_⟩) ?_ ?_;rotate_left
     ·intro w';go_simp;with_reducible rfl
     rotate_left
     ·simp only [Act.put,List.setIfInBounds_toArray,List.set_cons_zero,List.set_cons_succ,i64_w,i32_w];rfl
     refine pure_ (i:=7) (N:=some 123) (v:=?_) (a':=?_) #[true,true,true,true,true,true,true,true,false,false,false,false,false,false,false,false,false,false,false,false,false,false,false] rfl rfl (by kernel_rfl) (fun _ _ _ h=>h) (Or.inl ⟨by rfl,?_⟩) ?_ ?_;rotate_left
     ·intro w';go_simp;with_reducible rfl
     rotate_left
     ·simp only [Act.put,List.setIfInBounds_toArray,List.set_cons_zero,List.set_cons_succ,i64_w,i32_w];rfl
     refine take_ (i:=8) (N:=some 124) (v:=?_) (a':=?_) #[true,true,true,true,true,true,true,true,true,false,false,false,false,false,false,false,false,false,false,false,false,false,false] rfl rfl (by kernel_rfl) (fun _ _ _ h=>h) (Or.inl ⟨by rfl,?_⟩) hHeld ?_ ?_;rotate_left
     ·rintro w' ⟨s0,s1⟩;go_simp;with_reducible rfl
     rotate_left
     ·simp only [Act.put,List.setIfInBounds_toArray,List.set_cons_zero,List.set_cons_succ,i64_w,i32_w];rfl
     refine pure_ (i:=9) (N:=some 125) (v:=?_) (a':=?_) #[true,true,true,true,true,true,true,true,true,true,false,false,false,false,false,false,false,false,false,false,false,false,false] rfl rfl (by kernel_rfl) (fun _ _ _ h=>h) (Or.inl ⟨by rfl,?_⟩) ?_ ?_;rotate_left
     ·intro w';go_simp;with_reducible rfl
     rotate_left
     ·simp only [Act.put,List.setIfInBounds_toArray,List.set_cons_zero,List.set_cons_succ,i64_w,i32_w];rfl
     refine pure_ (i:=10) (N:=some 126) (v:=?_) (a':=?_) #[true,true,true,true,true,true,true,true,true,true,true,false,false,false,false,false,false,false,false,false,false,false,false] rfl rfl (by kernel_rfl) (fun _ _ _ h=>h) (Or.inl ⟨by rfl,?_⟩) ?_ ?_;rotate_left
     ·intro w';go_simp;with_reducible rfl
     rotate_left
     ·simp only [Act.put,List.setIfInBounds_toArray,List.set_cons_zero,List.set_cons_succ,i64_w,i32_w];rfl
     refine pure_ (i:=11) (N:=some 127) (v:=?_) (a':=?_) #[true,true,true,true,true,true,true,true,true,true,true,true,false,false,false,false,false,false,false,false,false,false,false] rfl rfl (by kernel_rfl) (fun _ _ _ h=>h) (Or.inl ⟨by rfl,?_⟩) ?_ ?_;rotate_left
     ·intro w';go_simp;with_reducible rfl
     rotate_left
     ·simp only [Act.put,List.setIfInBounds_toArray,List.set_cons_zero,List.set_cons_succ,i64_w,i32_w];rfl
     refine take_ (i:=12) (N:=some 128) (v:=?_) (a':=?_) #[true,true,true,true,true,true,true,true,true,true,true,true,true,false,false,false,false,false,false,false,false,false,false] rfl rfl (by kernel_rfl) (fun _ _ _ h=>h) (Or.inl ⟨by rfl,?_⟩) hHeld ?_ ?_;rotate_left
     ·rintro w' ⟨s0,s1⟩;go_simp;with_reducible rfl
     rotate_left
     ·simp only [Act.put,List.setIfInBounds_toArray,List.set_cons_zero,List.set_cons_succ,i64_w,i32_w];rfl
     refine pure_ (i:=13) (N:=some 129) (v:=?_) (a':=?_) #[true,true,true,true,true,true,true,true,true,true,true,true,true,true,false,false,false,false,false,false,false,false,false] rfl rfl (by kernel_rfl) (fun _ _ _ h=>h) (Or.inl ⟨by rfl,?_⟩) ?_ ?_;rotate_left
     ·intro w';go_simp;with_reducible rfl
     rotate_left
     ·simp only [Act.put,List.setIfInBounds_toArray,List.set_cons_zero,List.set_cons_succ,i64_w,i32_w];rfl
     refine pure_ (i:=14) (N:=some 130) (v:=?_) (a':=?_) #[true,true,true,true,true,true,true,true,true,true,true,true,true,true,true,false,false,false,false,false,false,false,false] rfl rfl (by kernel_rfl) (fun _ _ _ h=>h) (Or.inl ⟨by rfl,?_⟩) ?_ ?_;rotate_left
     ·intro w';go_simp;with_reducible rfl
     rotate_left
     ·simp only [Act.put,List.setIfInBounds_toArray,List.set_cons_zero,List.set_cons_succ,i64_w,i32_w];rfl
     refine pure_ (i:=15) (N:=some 131) (v:=?_) (a':=?_) #[true,true,true,true,true,true,true,true,true,true,true,true,true,true,true,true,false,false,false,false,false,false,false] rfl rfl (by kernel_rfl) (fun _ _ _ h=>h) (Or.inl ⟨by rfl,?_⟩) ?_ ?_;rotate_left
     ·intro w';go_simp;with_reducible rfl
     rotate_left
     ·simp only [Act.put,List.setIfInBounds_toArray,List.set_cons_zero,List.set_cons_succ,i64_w,i32_w];rfl
     refine pure_ (i:=16) (N:=some 132) (v:=?_) (a':=?_) #[true,true,true,true,true,true,true,true,true,true,true,true,true,true,true,true,true,false,false,false,false,false,false] rfl rfl (by kernel_rfl) (fun _ _ _ h=>h) (Or.inl ⟨by rfl,?_⟩) ?_ ?_;rotate_left
     ·intro w';go_simp;with_reducible rfl
     rotate_left
     ·simp only [Act.put,List.setIfInBounds_toArray,List.set_cons_zero,List.set_cons_succ,i64_w,i32_w];rfl
     refine take_ (i:=17) (N:=some 133) (v:=?_) (a':=?_) #[true,true,true,true,true,true,true,true,true,true,true,true,true,true,true,true,true,true,false,false,false,false,false] rfl rfl (by kernel_rfl) (fun _ _ _ h=>h) (Or.inl ⟨by rfl,?_⟩) hHeld ?_ ?_;rotate_left
     ·rintro w' ⟨s0,s1⟩;go_simp;with_reducible rfl
     rotate_left
     ·simp only [Act.put,List.setIfInBounds_toArray,List.set_cons_zero,List.set_cons_succ,i64_w,i32_w];rfl
     refine one_ (i:=18) (N:=some 134) #[true,true,true,true,true,true,true,true,true,true,true,true,true,true,true,true,true,true,true,false,false,false,false] rfl rfl (by kernel_rfl) (by decide) (fun K hK=>?_);refine event_step (v:=.slice (some ⟨w11.heap.size,0,none⟩) 1 1) (w1:=w11.alloc (.cells #[.int .u8 z] 5)) (by rfl) (by first | (go_simp;done) | (go_simp;rfl)) ?_;refine hK.out _ _ ⟨(HCD.out.below (below_alloc (Below.refl _ _) _)).i.c2,Qd⟩ (fun hHeld=>?_);clear hK K;refine norm_ (a':=?_) ?_ ?_;rotate_left
     ·show Act.put _ (some 134) _=_;simp only [Act.put,List.setIfInBounds_toArray,List.set_cons_zero,List.set_cons_succ,i64_w,i32_w];rfl
     refine last_ (i:=19) (N:=some 135) #[true,true,true,true,true,true,true,true,true,true,true,true,true,true,true,true,true,true,true,true,false,false,false] rfl rfl (by kernel_rfl) (by decide) (fun K hK=>?_);refine Kd.R_append_step (Kd.int .u8) (w0:=w0) w0.heap.size rfl (.tmp 120) (.tmp 134) 40 5 (.int .u8 0) 1 rfl Try.underlying40 info5w rfl (by decide) (by decide) (.slice (some ⟨go,0,none⟩) L cp) oj z [.int .u8 z] (fun k=>k ≠ g) (fun _=>False) rfl rfl rfl (fun _ hk=>hk.elim) HGT.out hrowD HCD.out.i.bl HCD.out.i.bl.size HSZ.out ?_;intro v12 w12 hr12 hb12 hg12 hn12;obtain ⟨o12,ho12⟩:∃ o12,o12=oj ++ [z]:=⟨_,rfl⟩;rw [← ho12] at hr12;have Qf:=Aside0.mk ho12;clear ho12;obtain ⟨AZ,cZ,rfl⟩:=Kd.R_slice hr12;have HI12:=Aside0.mk (hiD.seto hr12 hb12 hg12);have HF12:=Aside0.mk (Fro.seto (Fro.refl w11 g (.slice (some ⟨go,0,none⟩) L cp)) hg12 hn12);have hc12:w12.cell? ⟨g,2,none⟩=some (.slice (some ⟨go,0,none⟩) L cp):=(blk_cell (blk_grown hiD.blk hg12 (Kd.R_ne hiD.row hiD.blk (by decide))) 2).trans rfl;have hf12:=blk_frozen (blk_grown hiD.blk hg12 (Kd.R_ne hiD.row hiD.blk (by decide))) 2;refine hK.out _ _ ?_;clear hK K hr12 hb12 hg12 hn12;refine norm_ (a':=?_) ?_ ?_;rotate_left
     ·show Act.put _ (some 135) _=_;simp only [Act.put,List.setIfInBounds_toArray,List.set_cons_zero,List.set_cons_succ,i64_w,i32_w];rfl
     refine pure_ (i:=20) (N:=some 136) (v:=?_) (a':=?_) #[true,true,true,true,true,true,true,true,true,true,true,true,true,true,true,true,true,true,true,true,true,false,false] rfl rfl (by kernel_rfl) (fun _ _ _ h=>h) (Or.inl ⟨by rfl,?_⟩) ?_ ?_;rotate_left
     ·intro w';go_simp;with_reducible rfl
     rotate_left
     ·simp only [Act.put,List.setIfInBounds_toArray,List.set_cons_zero,List.set_cons_succ,i64_w,i32_w];rfl
     refine pure_ (i:=21) (N:=some 137) (v:=?_) (a':=?_) #[true,true,true,true,true,true,true,true,true,true,true,true,true,true,true,true,true,true,true,true,true,true,false] rfl rfl (by kernel_rfl) (fun _ _ _ h=>h) (Or.inl ⟨by rfl,?_⟩) ?_ ?_;rotate_left
     ·intro w';go_simp;with_reducible rfl
     rotate_left
     ·simp only [Act.put,List.setIfInBounds_toArray,List.set_cons_zero,List.set_cons_succ,i64_w,i32_w];rfl
     refine last_ (i:=22) (N:=none) #[true,true,true,true,true,true,true,true,true,true,true,true,true,true,true,true,true,true,true,true,true,true,true] rfl rfl (by kernel_rfl) (by decide) (fun K hK=>?_);refine skip_ (w1:=?_) (by rfl) rfl ?_ ?_;rotate_left
     ·go_simp;rfl
     refine hK.out _ _ ?_;clear hK K;refine done_ (by kernel_rfl) ?_;clear hw9 hqt;go_wp2
     go_roundw
     case rel =>
      (have e12:o12=again x4.o D (j+1):=by rw [Qf.out,HZ.out,← HQE.out];unfold again;rw [← HOJ.out]);exact ⟨j+1,_,by omega,by go_num,⟨by rw [← e12];exact HCD.out.fro HF12.out HI12.out⟩,⟨HFD.out.trans HF12.out⟩⟩
     case measure=>simp [intOf];omega
    ·have d9:decide ((x4.o.length:Int)+(nn:Int) > mx)=true:=decide_eq_true (by omega);(have hcp:far s mx lb y1 n=fail x4 7:=by rw [HFC.out];unfold copy;rw [if_pos c8,if_neg c9]);have HCP:=Aside0.mk hcp;clear hcp;(have hfo:(fail x4 7).o=x4.o∧(fail x4 7).p=x4.p:=by unfold fail;split <;> exact ⟨rfl,rfl⟩);have HFO:=Aside0.mk hfo;clear hfo;(go_wp2_with (go_at_call 100;(with_reducible refine (fail_calls w0 g _ s mx x4 7 _ Qb.out.i).mono ?_);rintro e w12 ⟨v12,rfl,hi,hf⟩;have Qa:=Aside0.mk (Qb.out.fro hf hi);have HF12:=Aside0.mk (HF10.out.trans hf);clear hi hf))
     go_roundw
     case rel=>exact ⟨k1,_,_,⟨HLL.out (fail x4 7) (by rw [HFO.out.2];exact HGOZ.out)⟩,⟨by rw [← HCP.out];exact HRUN.out⟩,⟨fail_ok HOK4.out (by decide)⟩,⟨by rw [HFO.out.1];exact HOL.out⟩,⟨fun _=>HXE.out c0⟩,Qa,HF12⟩
     case measure=>exact HMS.out _ _ _ Qa.out.i (by rw [HFO.out.2];exact HGOZ.out)
   ·have d8:decide ((D:Int) > x4.o.length)=true:=decide_eq_true (by omega);(have hcp:far s mx lb y1 n=fail x4 3:=by rw [HFC.out];unfold copy;rw [if_neg c8]);have HCP:=Aside0.mk hcp;clear hcp;(have hfo:(fail x4 3).o=x4.o∧(fail x4 3).p=x4.p:=by unfold fail;split <;> exact ⟨rfl,rfl⟩);have HFO:=Aside0.mk hfo;clear hfo;(go_wp2_with (go_at_call 100;(with_reducible refine (fail_calls w0 g _ s mx x4 3 _ HC9.out.i).mono ?_);rintro e w12 ⟨v12,rfl,hi,hf⟩;have Qa:=Aside0.mk (HC9.out.fro hf hi);have HF12:=Aside0.mk (HF9.out.trans hf);clear hi hf))
    go_roundw
    case rel=>exact ⟨k1,_,_,⟨HLL.out (fail x4 3) (by rw [HFO.out.2];exact HGOZ.out)⟩,⟨by rw [← HCP.out];exact HRUN.out⟩,⟨fail_ok HOK4.out (by decide)⟩,⟨by rw [HFO.out.1];exact HOL.out⟩,⟨fun _=>HXE.out c0⟩,Qa,HF12⟩
    case measure=>exact HMS.out _ _ _ Qa.out.i (by rw [HFO.out.2];exact HGOZ.out)
end Go.Proofs.Ytpbhkdamkbopkaa.Inf
namespace Go.Proofs.Ytpbhkdamkbopkaa.Inf
set_option linter.unusedSimpArgs false
set_option linter.unusedVariables false
open Go.RowKit Go.Proofs.Ytpbhkdamkbopkaa.Ext Go.Proofs.Ytpbhkdamkbopkaa.RefP Go.Proofs.YtpbhkdamkbopkaaW.PrintWords Go.Proofs.YtpbhkdamkbopkaaW.PrintLast Go.Proofs.YtpbhkdamkbopkaaW.PrintMore
/-- A reader,and a row of lengths of the call's own. -/
structure LSt (w0:World) (g:Nat) (v:Value) (s:ByteArray) (mx:Int) (x:St) (u:Value) (l:List Int) (w:World):Prop where
 i:ISt w0 g v s mx x w
 r:Kd.R (Kd.int .i64) 3 w w0.heap.size (fun _=>True) u l
/-- What else is in memory stays. -/
structure Fro2 (w:World) (g:Nat) (v u:Value) (w':World) (v' u':Value):Prop where
 size:w.heap.size≤w'.heap.size
 keep:∀ k,k < w.heap.size → k ≠ g → some k ≠ v.ownBlock → some k ≠ u.ownBlock → w'.heap[k]?=w.heap[k]?
 ov:v'.ownBlock=v.ownBlock ∨ ∃ b,v'.ownBlock=some b∧w.heap.size≤b
 ou:u'.ownBlock=u.ownBlock ∨ ∃ b,u'.ownBlock=some b∧w.heap.size≤b
section
variable {w0 w w' w2:World} {g:Nat} {v v' v2 u u' u2:Value} {s:ByteArray} {mx:Int} {x x':St} {l l':List Int}
theorem Fro2.refl (w:World) (g:Nat) (v u:Value):Fro2 w g v u w v u:=⟨Nat.le_refl _,fun _ _ _ _ _=>rfl,.inl rfl,.inl rfl⟩
theorem Fro2.trans (h:Fro2 w g v u w' v' u') (k:Fro2 w' g v' u' w2 v2 u2):Fro2 w g v u w2 v2 u2:=by
 refine ⟨Nat.le_trans h.size k.size,fun i hi h1 h2 h3=>?_,?_,?_⟩
 ·rw [← h.keep i hi h1 h2 h3];refine k.keep i (Nat.lt_of_lt_of_le hi h.size) h1 (fun e=>?_) (fun e=>?_)
  ·rcases h.ov with o | ⟨b,o,hb⟩
   ·exact h2 (e.trans o)
   ·rw [o] at e;have:=Option.some.inj e;omega
  ·rcases h.ou with o | ⟨b,o,hb⟩
   ·exact h3 (e.trans o)
   ·rw [o] at e;have:=Option.some.inj e;omega
 ·rcases k.ov with e | ⟨b,e,hb⟩
  ·rw [e];exact h.ov
  ·exact .inr ⟨b,e,Nat.le_trans h.size hb⟩
 ·rcases k.ou with e | ⟨b,e,hb⟩
  ·rw [e];exact h.ou
  ·exact .inr ⟨b,e,Nat.le_trans h.size hb⟩
theorem Fro2.step (h:Fro2 w g v u w' v' u') (k:Fro w' g v' w2 v2):Fro2 w g v u w2 v2 u' :=
 h.trans ⟨k.keep.1,fun i hi h1 h2 _=>k.keep.2 i hi h1 h2,k.own,.inl rfl⟩
theorem Fro2.below (h:Fro2 w g v u w' v' u') (hb:Below w'.heap.size w' w2):Fro2 w g v u w2 v' u' :=
 h.trans ⟨hb.size,fun i hi _ _ _=>hb.block i hi,.inl rfl,.inl rfl⟩
theorem Fro2.grow (h:Fro2 w g v u w' v' u') (hg:w'.grownBy w2 u'.ownBlock) (hn:u2.ownBlock=u'.ownBlock ∨ ∃ b,u2.ownBlock=some b∧w'.heap.size≤b):Fro2 w g v u w2 v' u2 :=
 h.trans ⟨hg.size,fun i hi _ _ h3=>hg.block i hi h3,.inl rfl,hn⟩
theorem typed_ne {e f:Nat} {k j:IntKind} {ok1 ok2:Nat → Prop} {base:Nat} {xs ys:List Int} (h:Kd.R (Kd.int k) e w base ok1 v xs) (h2:Kd.R (Kd.int j) f w base ok2 u ys) (hef:e ≠ f):∀ q,v.ownBlock=some q → u.ownBlock ≠ some q:=fun q hq hu=>by
 obtain ⟨c1,h1⟩:=own_typed (R_nums h) q hq;obtain ⟨c2,h2⟩:=own_typed (R_nums h2) q hu;rw [h1] at h2;injection h2 with h2
 injection h2 with _ h2
 exact hef h2
theorem LSt.ug (h:LSt w0 g v s mx x u l w):u.ownBlock ≠ some g:=fun e=>by
 obtain ⟨c1,h1⟩:=own_typed (R_nums h.r) g e;rw [h.i.blk] at h1;injection h1 with h1
 injection h1 with _ h1
 exact absurd h1 (by decide)
theorem LSt.uv (h:LSt w0 g v s mx x u l w):∀ q,u.ownBlock=some q → v.ownBlock ≠ some q:=typed_ne h.r h.i.row (by decide)
theorem LSt.below (h:LSt w0 g v s mx x u l w) (hb:Below w.heap.size w w'):LSt w0 g v s mx x u l w':=⟨h.i.below hb,Kd.R_below h.r hb⟩
theorem LSt.drew (h:LSt w0 g v s mx x u l w):LSt w0 g v s mx x u l w.drew:=h.below (below_drew1 (Below.refl _ _))
theorem LSt.fro (h:LSt w0 g v s mx x u l w) (hf:Fro w g v w' v') (hi:ISt w0 g v' s mx x' w'):LSt w0 g v' s mx x' u l w' :=
 ⟨hi,Kd.R_reok rfl (Kd.R_step (Kd.R_tight rfl h.r) (fun k hk hlt=>hf.keep.2 k hlt (fun e=>h.ug (by rw [← e];exact hk.symm)) (fun e=>h.uv k hk.symm e.symm))) (fun _ _=>trivial)⟩
theorem LSt.grow (h:LSt w0 g v s mx x u l w) (hr:Kd.R (Kd.int .i64) 3 w' w0.heap.size (fun _=>True) u' l') (hb:Below w0.heap.size w0 w') (hg:w.grownBy w' u.ownBlock):LSt w0 g v s mx x u' l' w' :=
 ⟨h.i.same (hg.block g h.i.glt (fun e=>h.ug e.symm)) (fun k hk=>hg.block k (h.i.own k hk).2 (fun e=>h.uv k e.symm hk)) hb,hr⟩
theorem LSt.cellq {go q c:Nat} {la:Int} (h:LSt w0 g v s mx x u l w) (hu:u=.slice (some ⟨go,0,none⟩) l.length c) (hq:q < l.length) (hla:l.getD q 0=la):w.cell? ⟨go,q,none⟩=some (.int .i64 la):=by
 have hr:=h.r;rw [hu] at hr;have:=(Kd.R_celln (0:Int) hr (q:Int) (by omega) (by omega)).1;rw [Int.toNat_natCast] at this;rw [this,← hla];simp [rdOf]
end
/-- What lengthen leaves. -/
def LPost (w0:World) (g:Nat) (v u:Value) (s:ByteArray) (mx:Int) (w:World) (l:List Int) (y:St) (e:Ending) (w':World):Prop :=
 ∃ v1 u1,e=.returned u1∧LSt w0 g v1 s mx y u1 l w'∧Fro2 w g v u w' v1 u1
set_option maxRecDepth 100000 in
set_option maxHeartbeats 4000000 in
theorem lengthen_calls (w0 : World) (g : Nat) (v u : Value) (s : ByteArray) (mx : Int) (x : St) (l : List Int) (y : Int) (w : World) (hs : s.size ≤ 17592186044416) (hl : l.length ≤ 100000) (hx : Ok s x) (h : LSt w0 g v s mx x u l w) :
  Calls Try.prog 112 #[.pointer (some ⟨g,0,none⟩),u,.int .i64 y] w (LPost w0 g v u s mx w (lengthen s l y x).1 (lengthen s l y x).2):=by
 obtain ⟨A,c,rfl⟩:=Kd.R_slice h.r;have HH:=Aside0.mk h;have HX:=Aside0.mk hx;have hc4:=h.i.c4;have HSB:Aside0 (s.size≤140737488351232):=⟨by omega⟩;have HPB:Aside0 (x.p≤9223372036854775807):=⟨by have:=hx.p1;omega⟩;clear h;by_cases c0:x.e=0;rotate_left
 ·have d0:(x.e != 0)=true:=by simpa using c0
  have hres:lengthen s l y x=(l,x):=by unfold lengthen;rw [if_neg c0]
  rw [hres];go_enter Try.func112,Try.ntmps112;go_wp2;exact bodyPost_ret (v:=.slice A l.length c) (by simp [results,Try.results112,go_sem]) rfl ⟨v,_,rfl,HH.out,Fro2.refl _ _ _ _⟩
 have d0:(x.e != 0)=false:=by rw [c0];rfl
 by_cases c16:y=16
 ·have d16:(y == 16)=true:=by rw [c16];rfl
  by_cases cl:l.length=0
  ·have dl:(((l.length:Nat):Int) == 0)=true:=by rw [cl];rfl
   (have hres:lengthen s l y x=(l,fail x 3):=by unfold lengthen;rw [if_pos c0,if_pos c16,if_pos cl]);rw [hres];have HR0:=Aside0.mk (Fro2.refl w g v (.slice A l.length c));go_enter Try.func112,Try.ntmps112;(go_wp2_with (go_at_call 100;(with_reducible refine (fail_calls w0 g v s mx x 3 _ HH.out.i).mono ?_);rintro e w2 ⟨v2,rfl,hi,hf⟩;have HL2:=Aside0.mk (HH.out.fro hf hi);have HF2:=Aside0.mk (HR0.out.step hf);clear hi hf));exact bodyPost_ret (v:=.slice A l.length c) (by simp [results,Try.results112,go_sem];omega) rfl ⟨v2,_,rfl,HL2.out,HF2.out⟩
  have dl:(((l.length:Nat):Int) == 0)=false:=beq_eq_false_iff_ne.2 (by omega);obtain ⟨go,cp,hu,_,hgo,hcp⟩:=row_form HH.out.r (by omega);injection hu with hu1 hu2 hu3
  subst hu1;subst hu3;obtain ⟨q,hq⟩:∃ q,l.length=q+1:=⟨l.length - 1,by omega⟩;obtain ⟨la,hla⟩:∃ la,la=l.getD q 0:=⟨_,rfl⟩;obtain ⟨m,x2,ha⟩:∃ m x2,bits s 2 x=(m,x2):=⟨_,_,rfl⟩;obtain ⟨hok2,hm0,hm1,-,-,-⟩:=bits_get (n:=2) rfl hx (by decide) ha;replace hm1:m < 4:=hm1;obtain ⟨N,hN⟩:∃ N:Nat,3+m=(N:Int):=⟨(3+m).toNat,by omega⟩;have HN:Aside0 (1≤N∧N≤65536):=⟨by omega⟩;have hres:lengthen s l y x=(l ++ List.replicate N la,x2):=by unfold lengthen;rw [if_pos c0,if_pos c16,if_neg cl,ha,hN,Int.toNat_natCast,hq,Nat.add_sub_cancel,← hla]
  have HRES:=Aside0.mk hres;have HA:=Aside0.mk ha;have HNN:=Aside0.mk hN;have HLA:=Aside0.mk hla.symm;have HQ:Aside0 ((Value.slice (some ⟨go,0,none⟩) l.length c)=.slice (some ⟨go,0,none⟩) l.length c):=⟨rfl⟩;have hql:q < l.length:=by omega
  have hqi:wrap64 (q:Int)=(q:Int):=wrap_in (by omega) (by omega);have hqt:((q:Int) < (q:Int)+1)=True:=eq_true (by omega);have hmi:wrap64 (3+m)=(N:Int):=by rw [hN];exact wrap_in (by omega) (by omega)
  have HL1:Aside0 (LSt w0 g v s mx x (.slice (some ⟨go,0,none⟩) l.length c) l w.drew):=⟨HH.out.drew⟩;have HF1:Aside0 (Fro2 w g v (.slice (some ⟨go,0,none⟩) l.length c) w.drew v (.slice (some ⟨go,0,none⟩) l.length c)):=⟨(Fro2.refl _ _ _ _).below (below_drew1 (Below.refl _ _))⟩;have hS0:w.drew.cell? ⟨go,q,none⟩=some (.int .i64 la):=HL1.out.cellq HQ.out hql HLA.out;clear ha hN hla hres hok2 hx;go_enter Try.func112,Try.ntmps112;go_upto_region 10 with fail
  focus
   refine start_ (n:=11) (S:=fun w'=>w'.cell? ⟨go,q,none⟩=some (.int .i64 la)) (ds:=[]) #[false,false,false,false,false,false,false,false,false,false,false] (by kernel_rfl) rfl rfl hS0 (fun hHeld=>?_);generalize w.drew=w1 at hHeld HL1 HF1 ⊢;refine pure_ (i:=0) (N:=some 28) (v:=?_) (a':=?_) #[true,false,false,false,false,false,false,false,false,false,false] rfl rfl (by kernel_rfl) (fun _ _ _ h=>h) (Or.inl ⟨by rfl,?_⟩) ?_ ?_;rotate_left
   ·intro w';go_simp;with_reducible rfl
   rotate_left
   ·simp only [Act.put,List.setIfInBounds_toArray,List.set_cons_zero,List.set_cons_succ,i64_w,i32_w];rfl
   refine pure_ (i:=1) (N:=some 29) (v:=?_) (a':=?_) #[true,true,false,false,false,false,false,false,false,false,false] rfl rfl (by kernel_rfl) (fun _ _ _ h=>h) (Or.inl ⟨by rfl,?_⟩) ?_ ?_;rotate_left
   ·intro w';go_simp;with_reducible rfl
   rotate_left
   ·simp only [Act.put,List.setIfInBounds_toArray,List.set_cons_zero,List.set_cons_succ,i64_w,i32_w];rfl
   refine pure_ (i:=2) (N:=some 30) (v:=?_) (a':=?_) #[true,true,true,false,false,false,false,false,false,false,false] rfl rfl (by kernel_rfl) (fun _ _ _ h=>h) (Or.inl ⟨by rfl,?_⟩) ?_ ?_;rotate_left
   ·intro w';go_simp;with_reducible rfl
   rotate_left
   ·simp only [Act.put,List.setIfInBounds_toArray,List.set_cons_zero,List.set_cons_succ,i64_w,i32_w];rfl
   refine pure_ (i:=3) (N:=some 31) (v:=?_) (a':=?_) #[true,true,true,true,false,false,false,false,false,false,false] rfl rfl (by kernel_rfl) (fun _ _ _ h=>h) (Or.inl ⟨by rfl,?_⟩) ?_ ?_;rotate_left
   ·intro w';go_simp;with_reducible rfl
   rotate_left
   ·simp only [Act.put,List.setIfInBounds_toArray,List.set_cons_zero,List.set_cons_succ,i64_w,i32_w];rfl
   refine pure_ (i:=4) (N:=some 32) (v:=?_) (a':=?_) #[true,true,true,true,true,false,false,false,false,false,false] rfl rfl (by kernel_rfl) (fun _ _ _ h=>h) (Or.inl ⟨by rfl,?_⟩) ?_ ?_;rotate_left
   ·intro w';go_simp;with_reducible rfl
   rotate_left
   ·simp only [Act.put,List.setIfInBounds_toArray,List.set_cons_zero,List.set_cons_succ,i64_w,i32_w];rfl
   refine take_ (i:=5) (N:=some 33) (v:=?_) (a':=?_) #[true,true,true,true,true,true,false,false,false,false,false] rfl rfl (by kernel_rfl) (fun _ _ _ h=>h) (Or.inl ⟨by rfl,?_⟩) hHeld ?_ ?_;rotate_left
   ·rintro w' s0;go_simp;with_reducible rfl
   rotate_left
   ·simp only [Act.put,List.setIfInBounds_toArray,List.set_cons_zero,List.set_cons_succ,i64_w,i32_w];rfl
   refine pure_ (i:=6) (N:=some 34) (v:=?_) (a':=?_) #[true,true,true,true,true,true,true,false,false,false,false] rfl rfl (by kernel_rfl) (fun _ _ _ h=>h) (Or.inl ⟨by rfl,?_⟩) ?_ ?_;rotate_left
   ·intro w';go_simp;with_reducible rfl
   rotate_left
   ·simp only [Act.put,List.setIfInBounds_toArray,List.set_cons_zero,List.set_cons_succ,i64_w,i32_w];rfl
   refine one_ (i:=7) (N:=some 35) #[true,true,true,true,true,true,true,true,false,false,false] rfl rfl (by kernel_rfl) (by decide) (fun K hK=>?_);refine goes_ Try.func94 (by kernel_rfl) rfl #[.pointer (some ⟨g,0,none⟩),.int .i64 2] (by rfl) rfl rfl (by (try simp only [List.map_toArray,List.map_cons,List.map_nil]);first | done | rfl) ?_
   (with_reducible refine (bits_calls w0 g v s mx x 2 _ HSB.out HPB.out HL1.out.i).mono ?_)
   rw [HA.out];rintro e w2 ⟨v2,rfl,hi,hf⟩;have HL2:=Aside0.mk (HL1.out.fro hf hi);have HF2:=Aside0.mk (HF1.out.step hf);have hS2:w2.cell? ⟨go,q,none⟩=some (.int .i64 la):=(HL2.out.cellq HQ.out hql HLA.out);refine ⟨_,rfl,?_⟩;refine hK.out _ _ hS2 (fun hHeld=>?_);clear hK K;refine norm_ (a':=?_) ?_ ?_;rotate_left
   ·show Act.put _ (some 35) _=_;simp only [Act.put,List.setIfInBounds_toArray,List.set_cons_zero,List.set_cons_succ,i64_w,i32_w];rfl
   refine pure_ (i:=8) (N:=some 36) (v:=?_) (a':=?_) #[true,true,true,true,true,true,true,true,true,false,false] rfl rfl (by kernel_rfl) (fun _ _ _ h=>h) (Or.inl ⟨by rfl,?_⟩) ?_ ?_;rotate_left
   ·intro w';go_simp;with_reducible rfl
   rotate_left
   ·simp only [Act.put,List.setIfInBounds_toArray,List.set_cons_zero,List.set_cons_succ,i64_w,i32_w];rfl
   refine pure_ (i:=9) (N:=some 7) (v:=?_) (a':=?_) #[true,true,true,true,true,true,true,true,true,true,false] rfl rfl (by kernel_rfl) (fun _ _ _ h=>h) (Or.inl ⟨by rfl,?_⟩) ?_ ?_;rotate_left
   ·intro w';go_simp;with_reducible rfl
   rotate_left
   ·simp only [Act.put,List.setIfInBounds_toArray,List.set_cons_zero,List.set_cons_succ,i64_w,i32_w];rfl
   refine pure_ (i:=10) (N:=some 8) (v:=?_) (a':=?_) #[true,true,true,true,true,true,true,true,true,true,true] rfl rfl (by kernel_rfl) (fun _ _ _ h=>h) (Or.inl ⟨by rfl,?_⟩) ?_ ?_;rotate_left
   ·intro w';go_simp;with_reducible rfl
   rotate_left
   ·simp only [Act.put,List.setIfInBounds_toArray,List.set_cons_zero,List.set_cons_succ,i64_w,i32_w];rfl
   refine done_ (by kernel_rfl) ?_;clear hqi hqt hq hmi;have HSZ:Aside0 ((l.length+N)*8≤140737488355328):=⟨by have:=HN.out.2;omega⟩;have HX1:Aside0 ((w2.alloc (.cells #[.int .i64 (la)] 3)).cell? ((⟨w2.heap.size,0,none⟩:Addr).add 0)=some (.int .i64 (la))):=⟨by rw [add_at];exact (blk_cell (blk_new _ _) 0).trans rfl⟩
   go_wp2_with (first
    |(go_at_call 109;(refine (repeat_calls _ 1 (la) N _ HN.out.1 HN.out.2 HX1.out).mono ?_);rintro e w3 ⟨ur,rfl,hru,hb3⟩;have HU3:=Aside0.mk hru;have HB3:=Aside0.mk (below_step (below_alloc (Below.refl w2.heap.size w2) (.cells #[.int .i64 (la)] 3)) hb3);clear hru hb3;obtain ⟨Ar,cr,rfl⟩:=Kd.R_slice HU3.out;have HL3:=Aside0.mk (HL2.out.below HB3.out);have HF3:=Aside0.mk (HF2.out.below HB3.out);have hrd:=(Kd.R_reads' HU3.out).2.2;rw [List.length_replicate] at hrd ⊢;have HRD:=Aside0.mk hrd;clear hrd)
    |((with_reducible refine gate_builtin (b:=.append) (xs:=#[.tmp 47,.tmp 51]) rfl ?_);at_builtin;refine Kd.R_append_rows (Kd.int .i64) (w0:=w0) w0.heap.size rfl (.tmp 47) (.tmp 51) 22 3 (.int .i64 0) 8 rfl Try.underlying22 info3n rfl (by decide) (by decide) (.slice (some ⟨go,0,none⟩) l.length c) l (List.replicate N (la)) Ar N cr (fun _=>True) (fun _=>False) rfl rfl HL3.out.r HRD.out (fun _ _ hk=>hk) (fun _ hk=>hk.elim) (fun _ _=>trivial) HL3.out.i.bl HL3.out.i.bl.size HSZ.out ?_;intro v5 w5 hr5 hb5 hg5 hn5;have HL5:=Aside0.mk (HL3.out.grow hr5 hb5 hg5);have HF5:=Aside0.mk (HF3.out.grow hg5 hn5);clear hr5 hb5 hg5 hn5))
   exact bodyPost_ret (v:=v5) (by simp [results,Try.results112,go_sem]) rfl ⟨v2,v5,rfl,by rw [HRES.out];exact HL5.out,HF5.out⟩
 ·have d16:(y == 16)=false:=beq_eq_false_iff_ne.2 c16;by_cases c17:y=17
  ·have d17:(y == 17)=true:=by rw [c17];rfl
   obtain ⟨m,x2,ha⟩:∃ m x2,bits s 3 x=(m,x2):=⟨_,_,rfl⟩;obtain ⟨hok2,hm0,hm1,-,-,-⟩:=bits_get (n:=3) rfl hx (by decide) ha;replace hm1:m < 8:=hm1;obtain ⟨N,hN⟩:∃ N:Nat,3+m=(N:Int):=⟨(3+m).toNat,by omega⟩;have HN:Aside0 (1≤N∧N≤65536):=⟨by omega⟩;(have hres:lengthen s l y x=(l ++ List.replicate N 0,x2):=by unfold lengthen;rw [if_pos c0,if_neg c16,if_pos c17,ha,hN,Int.toNat_natCast]);have HRES:=Aside0.mk hres;have HA:=Aside0.mk ha;have HNN:=Aside0.mk hN;have HF0:Aside0 (Fro2 w g v (.slice A l.length c) w v (.slice A l.length c)):=⟨Fro2.refl _ _ _ _⟩;clear ha hN hres hok2;go_enter Try.func112,Try.ntmps112;(go_upto_region 15 with (go_at_call 94;(with_reducible refine (bits_calls w0 g v s mx x 3 _ HSB.out HPB.out HH.out.i).mono ?_);rw [HA.out];rintro e w2 ⟨v2,rfl,hi,hf⟩;have HL2:=Aside0.mk (HH.out.fro hf hi);have HF2:=Aside0.mk (HF0.out.step hf);clear hi hf));rw [HNN.out];clear HNN hm0 hm1;have HSZ:Aside0 ((l.length+N)*8≤140737488355328):=⟨by have:=HN.out.2;omega⟩;have HX1:Aside0 ((w2.alloc (.cells #[.int .i64 (0)] 3)).cell? ((⟨w2.heap.size,0,none⟩:Addr).add 0)=some (.int .i64 (0))):=⟨by rw [add_at];exact (blk_cell (blk_new _ _) 0).trans rfl⟩
   go_wp2_with (first
    |(go_at_call 109;(refine (repeat_calls _ 1 (0) N _ HN.out.1 HN.out.2 HX1.out).mono ?_);rintro e w3 ⟨ur,rfl,hru,hb3⟩;have HU3:=Aside0.mk hru;have HB3:=Aside0.mk (below_step (below_alloc (Below.refl w2.heap.size w2) (.cells #[.int .i64 (0)] 3)) hb3);clear hru hb3;obtain ⟨Ar,cr,rfl⟩:=Kd.R_slice HU3.out;have HL3:=Aside0.mk (HL2.out.below HB3.out);have HF3:=Aside0.mk (HF2.out.below HB3.out);have hrd:=(Kd.R_reads' HU3.out).2.2;rw [List.length_replicate] at hrd ⊢;have HRD:=Aside0.mk hrd;clear hrd)
    |((with_reducible refine gate_builtin (b:=.append) (xs:=#[.tmp 47,.tmp 51]) rfl ?_);at_builtin;refine Kd.R_append_rows (Kd.int .i64) (w0:=w0) w0.heap.size rfl (.tmp 47) (.tmp 51) 22 3 (.int .i64 0) 8 rfl Try.underlying22 info3n rfl (by decide) (by decide) (.slice A l.length c) l (List.replicate N (0)) Ar N cr (fun _=>True) (fun _=>False) rfl rfl HL3.out.r HRD.out (fun _ _ hk=>hk) (fun _ hk=>hk.elim) (fun _ _=>trivial) HL3.out.i.bl HL3.out.i.bl.size HSZ.out ?_;intro v5 w5 hr5 hb5 hg5 hn5;have HL5:=Aside0.mk (HL3.out.grow hr5 hb5 hg5);have HF5:=Aside0.mk (HF3.out.grow hg5 hn5);clear hr5 hb5 hg5 hn5))
   exact bodyPost_ret (v:=v5) (by simp [results,Try.results112,go_sem]) rfl ⟨v2,v5,rfl,by rw [HRES.out];exact HL5.out,HF5.out⟩
  ·have d17:(y == 17)=false:=beq_eq_false_iff_ne.2 c17;by_cases c18:y=18
   ·have d18:(y == 18)=true:=by rw [c18];rfl
    obtain ⟨m,x2,ha⟩:∃ m x2,bits s 7 x=(m,x2):=⟨_,_,rfl⟩;obtain ⟨hok2,hm0,hm1,-,-,-⟩:=bits_get (n:=7) rfl hx (by decide) ha;replace hm1:m < 128:=hm1;obtain ⟨N,hN⟩:∃ N:Nat,11+m=(N:Int):=⟨(11+m).toNat,by omega⟩;have HN:Aside0 (1≤N∧N≤65536):=⟨by omega⟩;(have hres:lengthen s l y x=(l ++ List.replicate N 0,x2):=by unfold lengthen;rw [if_pos c0,if_neg c16,if_neg c17,if_pos c18,ha,hN,Int.toNat_natCast]);have HRES:=Aside0.mk hres;have HA:=Aside0.mk ha;have HNN:=Aside0.mk hN;have HF0:Aside0 (Fro2 w g v (.slice A l.length c) w v (.slice A l.length c)):=⟨Fro2.refl _ _ _ _⟩;clear ha hN hres hok2;go_enter Try.func112,Try.ntmps112;(go_upto_region 15 with (go_at_call 94;(with_reducible refine (bits_calls w0 g v s mx x 7 _ HSB.out HPB.out HH.out.i).mono ?_);rw [HA.out];rintro e w2 ⟨v2,rfl,hi,hf⟩;have HL2:=Aside0.mk (HH.out.fro hf hi);have HF2:=Aside0.mk (HF0.out.step hf);clear hi hf));rw [HNN.out];clear HNN hm0 hm1;have HSZ:Aside0 ((l.length+N)*8≤140737488355328):=⟨by have:=HN.out.2;omega⟩;have HX1:Aside0 ((w2.alloc (.cells #[.int .i64 (0)] 3)).cell? ((⟨w2.heap.size,0,none⟩:Addr).add 0)=some (.int .i64 (0))):=⟨by rw [add_at];exact (blk_cell (blk_new _ _) 0).trans rfl⟩
    go_wp2_with (first
     |(go_at_call 109;(refine (repeat_calls _ 1 (0) N _ HN.out.1 HN.out.2 HX1.out).mono ?_);rintro e w3 ⟨ur,rfl,hru,hb3⟩;have HU3:=Aside0.mk hru;have HB3:=Aside0.mk (below_step (below_alloc (Below.refl w2.heap.size w2) (.cells #[.int .i64 (0)] 3)) hb3);clear hru hb3;obtain ⟨Ar,cr,rfl⟩:=Kd.R_slice HU3.out;have HL3:=Aside0.mk (HL2.out.below HB3.out);have HF3:=Aside0.mk (HF2.out.below HB3.out);have hrd:=(Kd.R_reads' HU3.out).2.2;rw [List.length_replicate] at hrd ⊢;have HRD:=Aside0.mk hrd;clear hrd)
     |((with_reducible refine gate_builtin (b:=.append) (xs:=#[.tmp 47,.tmp 51]) rfl ?_);at_builtin;refine Kd.R_append_rows (Kd.int .i64) (w0:=w0) w0.heap.size rfl (.tmp 47) (.tmp 51) 22 3 (.int .i64 0) 8 rfl Try.underlying22 info3n rfl (by decide) (by decide) (.slice A l.length c) l (List.replicate N (0)) Ar N cr (fun _=>True) (fun _=>False) rfl rfl HL3.out.r HRD.out (fun _ _ hk=>hk) (fun _ hk=>hk.elim) (fun _ _=>trivial) HL3.out.i.bl HL3.out.i.bl.size HSZ.out ?_;intro v5 w5 hr5 hb5 hg5 hn5;have HL5:=Aside0.mk (HL3.out.grow hr5 hb5 hg5);have HF5:=Aside0.mk (HF3.out.grow hg5 hn5);clear hr5 hb5 hg5 hn5))
    exact bodyPost_ret (v:=v5) (by simp [results,Try.results112,go_sem]) rfl ⟨v2,v5,rfl,by rw [HRES.out];exact HL5.out,HF5.out⟩
   ·have d18:(y == 18)=false:=beq_eq_false_iff_ne.2 c18;(have hres:lengthen s l y x=(l ++ [y],x):=by unfold lengthen;rw [if_pos c0,if_neg c16,if_neg c17,if_neg c18]);have HRES:=Aside0.mk hres;have HSZ:Aside0 ((l.length+1)*8≤140737488355328):=⟨by omega⟩;have HF0:Aside0 (Fro2 w g v (.slice A l.length c) w v (.slice A l.length c)):=⟨Fro2.refl _ _ _ _⟩;clear hres;go_enter Try.func112,Try.ntmps112;(go_wp2_with ((with_reducible refine gate_builtin (b:=.append) (xs:=#[.tmp 16,.tmp 18]) rfl ?_);at_builtin;refine Kd.R_append (Kd.int .i64) (w0:=w0) w0.heap.size rfl (.tmp 16) (.tmp 18) 22 3 (.int .i64 0) 8 rfl Try.underlying22 info3n rfl (by decide) (by decide) (.slice A l.length c) l y [.int .i64 y] (fun _=>True) (fun _=>False) rfl rfl rfl (fun _ hk=>hk.elim) (fun _ _=>trivial) HH.out.r HH.out.i.bl HH.out.i.bl.size HSZ.out ?_;intro v5 w5 hr5 hb5 hg5 hn5;have HL5:=Aside0.mk (HH.out.grow hr5 hb5 hg5);have HF5:=Aside0.mk (HF0.out.grow hg5 hn5);clear hr5 hb5 hg5 hn5));exact bodyPost_ret (v:=v5) (by simp [results,Try.results112,go_sem]) rfl ⟨v,v5,rfl,by rw [HRES.out];exact HL5.out,HF5.out⟩
end Go.Proofs.Ytpbhkdamkbopkaa.Inf
namespace Go.Proofs.Ytpbhkdamkbopkaa.Inf
set_option linter.unusedSimpArgs false
set_option linter.unusedVariables false
open Go.RowKit Go.Proofs.Ytpbhkdamkbopkaa.Ext Go.Proofs.Ytpbhkdamkbopkaa.RefP Go.Proofs.YtpbhkdamkbopkaaW.PrintWords Go.Proofs.YtpbhkdamkbopkaaW.PrintLast Go.Proofs.YtpbhkdamkbopkaaW.PrintMore
/-- Kept,whatever a reader and a row of the call's own turn. -/
def Kep (w:World) (g:Nat) (v u:Value) (P:World → Prop):Prop:=∀ W' v' u',Fro2 w g v u W' v' u' → P W'
theorem Kep.step {w w':World} {g:Nat} {v u v' u':Value} {P:World → Prop} (h:Kep w g v u P) (k:Fro2 w g v u w' v' u'):Kep w' g v' u' P:=fun W v2 u2 h2=>h W v2 u2 (k.trans h2)
theorem Kep.now {w:World} {g:Nat} {v u:Value} {P:World → Prop} (h:Kep w g v u P):P w:=h w v u (Fro2.refl _ _ _ _)
/-- A block that is neither. -/
theorem kep_blk {w:World} {g:Nat} {v u:Value} {b:Nat} {o:Obj} (hb:w.heap[b]?=some o) (hg:b ≠ g) (hv:v.ownBlock ≠ some b) (hu:u.ownBlock ≠ some b):Kep w g v u (fun W=>W.heap[b]?=some o):=fun W' v' u' h =>
 (h.keep b (blk_lt hb) hg (fun e=>hv e.symm) (fun e=>hu e.symm)).trans hb
/-- A foot,the row being nil yet. -/
theorem kep_foot {w:World} {g:Nat} {v:Value} {A:Option Addr} {l:List Int} (h:Foot w g v A l):Kep w g v (.slice none 0 0) (fun W=>Kd.C (Kd.int .i64) W A l.length l):=fun W' v' u' hf =>
 h W' ⟨hf.size,fun i hi h1 h2=>hf.keep i hi h1 h2 (by simp [Value.ownBlock])⟩
theorem owns_next (s:ByteArray):∀ (t:List Nat) (i:Nat) (own:List Int) (x:St),owns s (t ++ [i]) own x=((owns s t own x).1.set i (bits s 3 (owns s t own x).2).1,(bits s 3 (owns s t own x).2).2):=by
 intro t
 induction t with
 |nil=>intro i own x;rfl
 |cons a t ih=>intro i own x;exact ih i _ _
theorem owns_len (s:ByteArray):∀ (t:List Nat) (own:List Int) (x:St),(owns s t own x).1.length=own.length:=by
 intro t
 induction t with
 |nil=>intro own x;rfl
 |cons a t ih=>intro own x;show (owns s t _ _).1.length=_;rw [ih,List.length_set]
theorem owns_ok (s:ByteArray):∀ (t:List Nat) (own:List Int) (x:St),Ok s x → Ok s (owns s t own x).2∧(owns s t own x).2.o=x.o:=by
 intro t
 induction t with
 |nil=>intro own x h;exact ⟨h,rfl⟩
 |cons a t ih =>
  intro own x h;obtain ⟨h1,_,_,h2,_,_⟩:=bits_get (n:=3) (k:=3) (m:=(bits s 3 x).1) (y:=(bits s 3 x).2) rfl h (by decide) rfl;have:=ih (own.set a (bits s 3 x).1) (bits s 3 x).2 h1;exact ⟨this.1,this.2.trans h2⟩
theorem order_take (i:Nat) (h:i < 19):order.take (i+1)=order.take i ++ [order.getD i 0]:=by
 rw [List.take_succ_eq_append_getElem (show i < order.length from h)];simp [List.getD_eq_getElem?_getD,show i < order.length from h]
theorem tak_p {s:ByteArray} {x:St} {lo hi:Int} {r:Int × Int × Int} (hlo:0≤lo) (hg:Good s x.p lo hi r):x.p≤(tak x r).2.p:=by
 unfold tak;by_cases c:x.e=0
 ·rw [if_pos c]
  rcases hg with ⟨h1,h2,h3,h4,h5,h6⟩ | rfl | rfl
  ·rw [if_pos h1];show x.p≤r.2.1;omega
  ·exact Int.le_refl _
  ·exact Int.le_refl _
 ·rw [if_neg c];exact Int.le_refl _
theorem bits_p {s:ByteArray} {x:St} (n:Nat) (hx:Ok s x) (hn:n≤16):x.p≤(bits s (n:Int) x).2.p:=tak_p (Int.natCast_nonneg n) (bits_some s x.p n hx.p0 hn)
theorem next_p {s:ByteArray} {x:St} {l:List Int} (hs:s.size≤140737488351232) (hx:Ok s x) (he:x.e=0 → errOf l=0):x.p≤(next l s x).2.p:=by
 by_cases c:x.e=0
 ·exact tak_p (by decide) (next_some l (he c) s hs x.p hx.p0 (by have:=hx.p1;omega)).2
 ·show x.p≤(tak x _).2.p;unfold tak;rw [if_neg c];exact Int.le_refl _
theorem lengthen_spec {s:ByteArray} {l:List Int} {y:Int} {x:St} (hx:Ok s x):Ok s (lengthen s l y x).2∧x.p≤(lengthen s l y x).2.p∧(lengthen s l y x).1.length≤l.length+200:=by
 have b2:=bits_get (n:=2) (k:=2) (m:=(bits s 2 x).1) (y:=(bits s 2 x).2) rfl hx (by decide) rfl;have b3:=bits_get (n:=3) (k:=3) (m:=(bits s 3 x).1) (y:=(bits s 3 x).2) rfl hx (by decide) rfl;have b7:=bits_get (n:=7) (k:=7) (m:=(bits s 7 x).1) (y:=(bits s 7 x).2) rfl hx (by decide) rfl;have p2:=bits_p (s:=s) 2 hx (by decide);have p3:=bits_p (s:=s) 3 hx (by decide);have p7:=bits_p (s:=s) 7 hx (by decide);have r2:(bits s 2 x).1 < 4:=b2.2.2.1;have r3:(bits s 3 x).1 < 8:=b3.2.2.1;have r7:(bits s 7 x).1 < 128:=b7.2.2.1;have fp:(fail x 3).p=x.p:=by unfold fail;split <;> rfl
 unfold lengthen;by_cases c0:x.e=0;rotate_left
 ·rw [if_neg c0];exact ⟨hx,Int.le_refl _,by simp⟩
 rw [if_pos c0];by_cases c16:y=16
 ·rw [if_pos c16];by_cases cl:l.length=0
  ·rw [if_pos cl];exact ⟨fail_ok hx (by decide),by rw [fp];exact Int.le_refl _,by simp⟩
  ·rw [if_neg cl];exact ⟨b2.1,p2,by simp only [List.length_append,List.length_replicate];omega⟩
 rw [if_neg c16];by_cases c17:y=17
 ·rw [if_pos c17];exact ⟨b3.1,p3,by simp only [List.length_append,List.length_replicate];omega⟩
 ·rw [if_neg c17];by_cases c18:y=18
  ·rw [if_pos c18];exact ⟨b7.1,p7,by simp only [List.length_append,List.length_replicate];omega⟩
  ·rw [if_neg c18];exact ⟨hx,Int.le_refl _,by simp⟩
theorem ISt.ne3 {w0 w:World} {g:Nat} {v:Value} {s:ByteArray} {mx:Int} {x:St} (h:ISt w0 g v s mx x w) {b:Nat} {cs:Array Value} (hb:w.heap[b]?=some (.cells cs 3 (0,0))):v.ownBlock ≠ some b:=fun e=>by
 obtain ⟨c1,h1⟩:=own_typed (R_nums h.row) b e;rw [hb] at h1;injection h1 with h1
 injection h1 with _ h1
 exact absurd h1 (by decide)
theorem Fro.far {w w':World} {g:Nat} {v v':Value} (h:Fro w g v w' v') {a:Addr} (hb:w.heap.size≤a.block) (u:Value):Fro w g v (w'.setCell a u) v' :=
 ⟨⟨by rw [World.size_setCell];exact h.keep.1,fun i hi h1 h2=>(Below.heap_setCell w' a u i (by omega)).trans (h.keep.2 i hi h1 h2)⟩,h.own⟩
theorem kep_fro {w w':World} {g:Nat} {v v' u':Value} (h:Fro2 w g v (.slice none 0 0) w' v' u'):Fro w g v w' v' :=
 ⟨⟨h.size,fun i hi h1 h2=>h.keep i hi h1 h2 (by simp [Value.ownBlock])⟩,h.ov⟩
theorem meas_less2 {w0 w w':World} {g:Nat} {v v':Value} {s:ByteArray} {mx:Int} {y z:St} (h:ISt w0 g v s mx y w) (h':ISt w0 g v' s mx z w') (he:y.e=0) (h1:y.p≤z.p) (h3:z.e=0 → y.p+1≤z.p) (h2:y.p≤8*s.size):imeas s g w' < imeas s g w:=by
 rw [h.meas,h'.meas,if_pos he];by_cases c:z.e=0
 ·have:=h3 c;rw [if_pos c];omega
 ·rw [if_neg c];omega
theorem kep_to_foot {w:World} {g:Nat} {v u:Value} {A:Option Addr} {l:List Int} (h:Kep w g v u (fun W=>Kd.C (Kd.int .i64) W A l.length l)):Foot w g v A l:=fun W' hk=>h W' v u ⟨hk.1,fun i h1 h2 h3 _=>hk.2 i h1 h2 h3,.inl rfl,.inl rfl⟩
theorem many_stop {s:ByteArray} {own:List Int} {all:Int} {l:List Int} {z:St} (k:Nat) (h:¬ ((l.length:Int) < all) ∨ z.e ≠ 0):many s own all k l z=(l,z):=by
 rcases k with _ | k
 ·rfl
 show (if (l.length:Int) < all then (if z.e=0 then _ else _) else _)=_;by_cases c:(l.length:Int) < all
 ·rw [if_pos c]
  rcases h with h | h
  ·exact absurd c h
  ·rw [if_neg h]
 ·rw [if_neg c]
theorem lengthen_same {s:ByteArray} {l:List Int} {y:Int} {x:St} (h:x.e ≠ 0):lengthen s l y x=(l,x):=by unfold lengthen;rw [if_neg h]
theorem foot_nil (w:World) (g:Nat) (v:Value):Foot w g v none []:=fun W' _=>Kd.C_nil _ W'
theorem LSt.foot {w0 w:World} {g:Nat} {v:Value} {s:ByteArray} {mx:Int} {x:St} {A:Option Addr} {n c:Nat} {l:List Int} (h:LSt w0 g v s mx x (.slice A n c) l w):Foot w g v A l:=fun W' hW=>by
 have h2:=Kd.R_step (Kd.R_tight rfl h.r) (fun k hk hlt=>hW.2 k hlt (fun e=>h.ug (by rw [← e];exact hk.symm)) (fun e=>h.uv k hk.symm e.symm));have h3:=Kd.R_reads' h2;obtain ⟨A',c',e⟩:=Kd.R_slice h2;cases e;exact h3.2.2
theorem foot_take {w:World} {g:Nat} {v:Value} {A:Option Addr} {l:List Int} (h:Foot w g v A l) (i:Nat) (hi:i≤l.length):Foot w g v A (l.take i):=fun W' hW=>by
 rw [List.length_take,Nat.min_eq_left hi];exact Kd.C_of_reads ((Kd.reads_of_C (d:=0) (h W' hW)).take_ i hi)
theorem foot_drop {w:World} {g:Nat} {v:Value} {A:Option Addr} {l:List Int} {c:Nat} (h:Foot w g v A l) (i:Nat) (hi:i≤l.length) (hc:l.length≤c):Foot w g v (if c=i then A else A.map (·.add i)) (l.drop i):=fun W' hW=>by
 rw [List.length_drop];exact Kd.C_of_reads ((Kd.reads_of_C (d:=0) (h W' hW)).drop_ i hi hc)
def ordC:Array Value:=#[.int .i64 16,.int .i64 17,.int .i64 18,.int .i64 0,.int .i64 8,.int .i64 7,.int .i64 9,.int .i64 6,.int .i64 10,.int .i64 5,.int .i64 11,.int .i64 4,.int .i64 12,.int .i64 3,.int .i64 13,.int .i64 2,.int .i64 14,.int .i64 1,.int .i64 15]
theorem ordC_at:∀ i:Nat,i < 19 → ordC[i]?=some (.int .i64 ((order.getD i 0:Nat):Int))∧order.getD i 0 < 19:=by
 intro i hi
 match i,hi with
 |0,_ | 1,_ | 2,_ | 3,_ | 4,_ | 5,_ | 6,_ | 7,_ | 8,_ | 9,_ | 10,_ | 11,_ | 12,_ | 13,_ | 14,_ | 15,_ | 16,_ | 17,_ | 18,_=>exact ⟨rfl,by decide⟩
 |n+19,h=>exact absurd h (by omega)
/-- What lengths leaves. -/
def NPost (w0:World) (g:Nat) (v:Value) (s:ByteArray) (mx:Int) (w:World) (la lb:List Int) (y:St) (e:Ending) (w':World):Prop :=
 ∃ v1 A B c d,e=.returned (.tuple #[.slice A la.length c,.slice B lb.length d])∧ISt w0 g v1 s mx y w'∧Fro w g v w' v1∧Foot w' g v1 A la∧Foot w' g v1 B lb
set_option maxRecDepth 100000 in
set_option maxHeartbeats 8000000 in
theorem lengths_calls (w0 : World) (g : Nat) (v : Value) (s : ByteArray) (mx : Int) (x : St) (w : World) (hs : s.size ≤ 17592186044416) (hx : Ok s x) (h : ISt w0 g v s mx x w) :
  Calls Try.prog 99 #[.pointer (some ⟨g,0,none⟩)] w (NPost w0 g v s mx w (lengths s x).1 (lengths s x).2.1 (lengths s x).2.2):=by
 have HH:=Aside0.mk h;have HF:=Aside0.mk (Fro.refl w g v);have HSB:Aside0 (s.size≤140737488351232):=⟨by omega⟩;clear h;obtain ⟨a,x1,ha⟩:∃ a x1,bits s 5 x=(a,x1):=⟨_,_,rfl⟩;obtain ⟨b,x2,hb⟩:∃ b x2,bits s 5 x1=(b,x2):=⟨_,_,rfl⟩;obtain ⟨c,x3,hc⟩:∃ c x3,bits s 4 x2=(c,x3):=⟨_,_,rfl⟩;obtain ⟨hok1,ha0,ha1,-,-,-⟩:=bits_get (n:=5) rfl hx (by decide) ha;obtain ⟨hok2,hb0,hb1,-,-,-⟩:=bits_get (n:=5) rfl hok1 (by decide) hb;obtain ⟨hok3,hc0,hc1,-,-,-⟩:=bits_get (n:=4) rfl hok2 (by decide) hc;replace ha1:a < 32:=ha1;replace hb1:b < 32:=hb1;replace hc1:c < 16:=hc1;obtain ⟨x4,hx4⟩:∃ x4,x4=if x3.e=0∧(a+257 > 286 ∨ b+1 > 30) then fail x3 3 else x3:=⟨_,rfl⟩;have hok4:Ok s x4:=by rw [hx4];split;exact fail_ok hok3 (by decide);exact hok3
 obtain ⟨fw,hfw⟩:∃ fw:Nat,c+4=(fw:Int):=⟨(c+4).toNat,by omega⟩;have hfw1:fw≤19:=by omega
 have HA:=Aside0.mk ha;have HB:=Aside0.mk hb;have HC:=Aside0.mk hc;have HX4:=Aside0.mk hx4;have HFW:=Aside0.mk hfw;have HP0:Aside0 (x.p≤9223372036854775807):=⟨by have:=hx.p1;omega⟩;have HP1:Aside0 (x1.p≤9223372036854775807):=⟨by have:=hok1.p1;omega⟩;have HP2:Aside0 (x2.p≤9223372036854775807):=⟨by have:=hok2.p1;omega⟩;have HOK4:=Aside0.mk hok4;clear ha hb hc hx4 hok1 hok2 hok3 hok4 hx;go_enter Try.func99,Try.ntmps99
 go_upto_region 2 with (first
  |(go_at_call 94;(with_reducible refine (bits_calls w0 g v s mx x 5 _ HSB.out HP0.out HH.out).mono ?_);rw [HA.out];rintro e w1 ⟨v1,rfl,hi,hf⟩;have HI1:=Aside0.mk hi;have HF1:=Aside0.mk (HF.out.trans hf);clear hi hf HF)
  |(go_at_call 94;(with_reducible refine (bits_calls w0 g v1 s mx x1 5 _ HSB.out HP1.out HI1.out).mono ?_);rw [HB.out];rintro e w2 ⟨v2,rfl,hi,hf⟩;have HI2:=Aside0.mk hi;have HF2:=Aside0.mk (HF1.out.trans hf);clear hi hf HI1 HF1)
  |(go_at_call 94;(with_reducible refine (bits_calls w0 g v2 s mx x2 4 _ HSB.out HP2.out HI2.out).mono ?_);rw [HC.out];rintro e w3 ⟨v3,rfl,hi,hf⟩;have HI3:=Aside0.mk hi;have HF3:=Aside0.mk (HF2.out.trans hf);clear hi hf HI2 HF2))
 have hc4:=HI3.out.c4;have sorry_:True:=trivial;by_cases c1:x3.e=0
 rotate_left
 focus
  have d1:(x3.e == 0)=false:=beq_eq_false_iff_ne.2 c1;have hX:=HX4.out;rw [if_neg (fun h=>c1 h.1)] at hX;have HX:=Aside0.mk hX;clear hX;have HI3X:Aside0 (ISt w0 g v3 s mx x4 w3):=⟨by rw [HX.out];exact HI3.out⟩;go_upto_region 4 with fail
  obtain ⟨v4,hv4⟩:∃ v4,v4=v3:=⟨_,rfl⟩;obtain ⟨w4,hw4⟩:∃ w4,w4=w3:=⟨_,rfl⟩;subst hv4;subst hw4;have HI4:=HI3X;have HF4:=HF3;clear d1 HX HI3X c1
 rotate_left;have d1:(x3.e == 0)=true:=by rw [c1];rfl
 by_cases c2:a+257 > 286
 focus
  have d2:decide (a+257 > 286)=true:=decide_eq_true c2;have hX:=HX4.out;rw [if_pos ⟨c1,.inl c2⟩] at hX;have HX:=Aside0.mk hX;clear hX;go_upto_region 4 with (go_at_call 100;(with_reducible refine (fail_calls w0 g v3 s mx x3 3 _ HI3.out).mono ?_);rintro e w4 ⟨v4,rfl,hi,hf⟩;rw [← HX.out] at hi;have HI4:=Aside0.mk hi;have HF4:=Aside0.mk (HF3.out.trans hf);clear hi hf)
  clear d1 d2 HX c1 c2
 rotate_left;have d2:decide (a+257 > 286)=false:=decide_eq_false c2;by_cases c3:b+1 > 30
 focus
  have d3:decide (b+1 > 30)=true:=decide_eq_true c3;have hX:=HX4.out;rw [if_pos ⟨c1,.inr c3⟩] at hX;have HX:=Aside0.mk hX;clear hX;go_upto_region 4 with (go_at_call 100;(with_reducible refine (fail_calls w0 g v3 s mx x3 3 _ HI3.out).mono ?_);rintro e w4 ⟨v4,rfl,hi,hf⟩;rw [← HX.out] at hi;have HI4:=Aside0.mk hi;have HF4:=Aside0.mk (HF3.out.trans hf);clear hi hf)
  clear d1 d2 d3 HX c1 c2 c3
 rotate_left
 focus
  have d3:decide (b+1 > 30)=false:=decide_eq_false c3;have hX:=HX4.out;rw [if_neg (fun h=>h.2.elim c2 c3)] at hX;have HX:=Aside0.mk hX;clear hX;have HI3X:Aside0 (ISt w0 g v3 s mx x4 w3):=⟨by rw [HX.out];exact HI3.out⟩;go_upto_region 4 with fail
  obtain ⟨v4,hv4⟩:∃ v4,v4=v3:=⟨_,rfl⟩;obtain ⟨w4,hw4⟩:∃ w4,w4=w3:=⟨_,rfl⟩;subst hv4;subst hw4;have HI4:=HI3X;have HF4:=HF3;clear d1 d2 d3 HX HI3X c1 c2 c3
 all_goals
  (try clear hc4 HI3 HF3)
  obtain ⟨b7,hb7⟩:∃ b7,b7=w4.heap.size:=⟨_,rfl⟩;obtain ⟨W5,hW5⟩:∃ W5,W5=w4.alloc (.cells ordC 3):=⟨_,rfl⟩;have hW5s:W5.heap.size=w4.heap.size+1:=by rw [hW5];show (w4.heap.push _).size=_;simp
  have HI5:Aside0 (ISt w0 g v4 s mx x4 W5):=⟨by rw [hW5];exact HI4.out.below (below_alloc (Below.refl _ _) _)⟩;have HF5:Aside0 (Fro w g v W5 v4):=⟨by rw [hW5];exact HF4.out.below (below_alloc (Below.refl _ _) _)⟩;have HO5:Aside0 (W5.heap[b7]?=some (.cells ordC 3 (0,0))):=⟨by rw [hW5,hb7];exact heap_alloc_new _ _⟩;go_upto_region 5 with fail
  rw [show (World.alloc w4 (Obj.cells #[.int .i64 16,.int .i64 17,.int .i64 18,.int .i64 0,.int .i64 8,.int .i64 7,.int .i64 9,.int .i64 6,.int .i64 10,.int .i64 5,.int .i64 11,.int .i64 4,.int .i64 12,.int .i64 3,.int .i64 13,.int .i64 2,.int .i64 14,.int .i64 1,.int .i64 15] 3))=W5 from hW5.symm,← hb7];have HB7:Aside0 (b7=w4.heap.size∧W5.heap.size=b7+1):=⟨hb7,by omega⟩;clear hb7 hW5 hW5s;go_upto_region 6 with ((with_reducible refine gate_dst (N:=40) rfl ?_);refine Kd.R_make (Kd.int .i64) (w0:=W5) W5.heap.size 3 rfl (N:=40) rfl 22 _ _ rfl (19:Int) rfl rfl Try.underlying22 (.int .i64 0) 8 info3n rfl (by decide) (by decide) 0 (ok:=fun _=>True) (okp:=fun _=>True) (rfl) (fun _ hk=>hk) trivial (by decide) (by decide) (Below.refl _ _) (Nat.le_refl _) ?_;intro v6 w6 hr6 hb6 hg6 hn6;have HR6:=Aside0.mk hr6;have HB6:=Aside0.mk hb6;clear hr6 hb6 hg6 hn6)
  rw [show (19:Int).toNat=19 from rfl] at HR6;obtain ⟨go8,cp8,hv8,_,hgo8,hcp8⟩:=row_form HR6.out (by rw [List.length_replicate];decide);rw [List.length_replicate] at hv8 hcp8;subst hv8;have HI6:=Aside0.mk (HI5.out.below HB6.out);have HF6:=Aside0.mk (HF5.out.below HB6.out);have HO6:Aside0 (w6.heap[b7]?=some (.cells ordC 3 (0,0))):=⟨(HB6.out.block b7 (by have:=HB7.out.2;omega)).trans HO5.out⟩;have hw45:w.heap.size≤w4.heap.size:=HF4.out.keep.1;have HG8:Aside0 (b7 ≠ go8∧w.heap.size≤go8∧b7 ≠ g∧w.heap.size≤b7):=⟨by have h1:=HB7.out.1;have h2:=HB7.out.2;have h3:=HI4.out.glt;omega⟩;have HL6:Aside0 (LSt w0 g v4 s mx x4 (.slice (some ⟨go8,0,none⟩) 19 cp8) (List.replicate 19 0) w6):=⟨⟨HI6.out,Kd.R_lower HR6.out HI5.out.bl.size⟩⟩;clear HR6 HB6 HI5 HF5 HO5 hgo8 HI6 HF4 HI4 hw45;have hfwl:((fw:Int)≤19)=True:=eq_true (by omega);go_wp2
  go_loopw [45] (fun v45 w'=>∃ (i:Nat) (L:List Int) (y:St) (v1:Value),i≤fw∧v45=.int .i64 (i:Int)∧Aside0 (owns s (order.take i) (List.replicate 19 0) x4=(L,y))∧Aside0 (LSt w0 g v1 s mx y (.slice (some ⟨go8,0,none⟩) 19 cp8) L w')∧Aside0 (w'.heap[b7]?=some (.cells ordC 3 (0,0)))∧Aside0 (Fro w g v w' v1)) (fun v45 _=>fw - (intOf v45).toNat)
  case atStart=>exact ⟨0,_,_,v4,Nat.zero_le _,rfl,⟨rfl⟩,HL6,HO6,HF6⟩
  clear HL6 HO6 HF6;obtain ⟨i,L,y,v1,hi,rfl,HW,HL,HO,HF⟩:=hrel;have hL19:L.length=19:=by have h:=owns_len s (order.take i) (List.replicate 19 0) x4;rw [HW.out] at h;exact h
  have hoky:Ok s y:=by have h:=(owns_ok s (order.take i) (List.replicate 19 0) x4 HOK4.out).1;rw [HW.out] at h;exact h
  have HOKY:=Aside0.mk hoky;by_cases hlt:i < fw
  ·have hdec:decide ((i:Int) < (fw:Int))=true:=decide_eq_true (by omega);obtain ⟨oc1,oc2⟩:=ordC_at i (by omega);obtain ⟨oi,hoi⟩:∃ oi,oi=order.getD i 0:=⟨_,rfl⟩;rw [← hoi] at oc1 oc2;have hco:wr.cell? ⟨b7,i,none⟩=some (.int .i64 (oi:Int)):=(blk_cell HO.out i).trans oc1;obtain ⟨m,y1,hm⟩:∃ m y1,bits s 3 y=(m,y1):=⟨_,_,rfl⟩;have HM:=Aside0.mk hm;have HPY:Aside0 (y.p≤9223372036854775807):=⟨by have:=hoky.p1;omega⟩;have HNX:Aside0 (owns s (order.take (i+1)) (List.replicate 19 0) x4=(L.set oi m,y1)):=⟨by rw [order_take i (by omega),owns_next,HW.out,← hoi,hm]⟩;have hil:((i:Int) < (fw:Int))=True:=eq_true (by omega);have hol:((oi:Int) < 19)=True:=eq_true (by omega);have HOL:Aside0 (oi < 19):=⟨oc2⟩;have HL19:=Aside0.mk hL19;clear hm hoi oc1 oc2 hoky hL19;(go_upto_region 10 with (go_at_call 94;(with_reducible refine (bits_calls w0 g v1 s mx y 3 _ HSB.out HPY.out HL.out.i).mono ?_);rw [HM.out];rintro e w7 ⟨v7,rfl,hi7,hf7⟩;have HL7:=Aside0.mk (HL.out.fro hf7 hi7);have HF7:=Aside0.mk (HF.out.trans hf7);have HO7:Aside0 (w7.heap[b7]?=some (.cells ordC 3 (0,0))):=⟨(hf7.keep.2 b7 (blk_lt HO.out) HG8.out.2.2.1 (fun e=>HL.out.i.ne3 HO.out e.symm)).trans HO.out⟩;clear hi7 hf7 hco;have hc7:w7.cell? ⟨go8,oi,none⟩=some (.int .i64 (L.getD oi 0))∧w7.frozen? ⟨go8,oi,none⟩=false:=(by have h:=Kd.R_celln (0:Int) HL7.out.r (oi:Int) (by omega) (by have:=HOL.out;omega);rw [Int.toNat_natCast] at h;simpa [rdOf] using h);have hc71:=hc7.1;have hc72:=hc7.2;clear hc7));have h8:=Kd.R_putg HL7.out.r (oi:Int) m;rw [Int.toNat_natCast] at h8
   have HG0:Aside0 (w0.heap.size≤go8):=⟨Nat.le_trans HH.out.bl.size HG8.out.2.1⟩;have HL8:Aside0 (LSt w0 g v7 s mx y1 (.slice (some ⟨go8,0,none⟩) 19 cp8) (L.set oi m) (w7.setCell ⟨go8,oi,none⟩ (.int .i64 m))):=⟨HL7.out.grow h8.1 (below_set HL7.out.i.bl HG0.out) h8.2⟩;have HO8:Aside0 ((w7.setCell ⟨go8,oi,none⟩ (.int .i64 m)).heap[b7]?=some (.cells ordC 3 (0,0))):=⟨(Below.heap_setCell w7 ⟨go8,oi,none⟩ _ b7 HG8.out.1).trans HO7.out⟩;have HF8:Aside0 (Fro w g v (w7.setCell ⟨go8,oi,none⟩ (.int .i64 m)) v7):=⟨HF7.out.far HG8.out.2.1 _⟩;clear h8 hc71 hc72 HL7 HO7 HF7;generalize w7.setCell ⟨go8,oi,none⟩ (.int .i64 m)=w8 at HL8 HO8 HF8 ⊢;go_wp2
   go_roundw
   case rel=>exact ⟨i+1,_,_,v7,by omega,by go_num,HNX,HL8,HO8,HF8⟩
   case measure=>simp [intOf];omega
  ·have hdec:decide ((i:Int) < (fw:Int))=false:=decide_eq_false (by omega);(obtain rfl:i=fw:=by omega);have HRL:=Aside0.mk (Kd.R_reads' HL.out.r).2.2;have htab:=table_calls w0 g v1 s mx y (some ⟨go8,0,none⟩) cp8 L wr HL.out.i HRL.out;rw [hL19] at htab;have HTAB:=Aside0.mk htab;clear htab
   go_upto_region 12 with (first
    |(go_at_call 98;(with_reducible refine HTAB.out.mono ?_);rintro e w7 ⟨tv,v7,rfl,⟨cs,ss,A,cc,rfl,hcl,hft,hcs⟩,hi7,hf7⟩;have HI7:=Aside0.mk hi7;have HF7:=Aside0.mk (HF.out.trans hf7);have HFT:=Aside0.mk hft;have HCL:=Aside0.mk hcl;have HCS:=Aside0.mk hcs;clear hi7 hf7 hft hcl hcs)
    |(refine wpList_store_row rfl 26 _ _ rfl w7.heap.size (tab cs (.slice A ss.length cc)) rfl rfl 26 (tab zero16 (.slice none 0 0)) (heap_alloc_new _ _) (by rw [tab_size,HCL.out];exact info26) (by rw [tab_size,tab_size,HCL.out];rfl) (tab_one _ _ _ _) ?_;rw [World.setRow_alloc_new]))
   obtain ⟨b11,hb11⟩:∃ b11,b11=w7.heap.size:=⟨_,rfl⟩;have HI8:Aside0 (ISt w0 g v7 s mx (table L y) (w7.alloc (.cells (tab cs (.slice A ss.length cc)) 26))):=⟨HI7.out.below (below_alloc (Below.refl _ _) _)⟩;have HF8:Aside0 (Fro w g v (w7.alloc (.cells (tab cs (.slice A ss.length cc)) 26)) v7):=⟨HF7.out.below (below_alloc (Below.refl _ _) _)⟩;have K1:Aside0 (Kep (w7.alloc (.cells (tab cs (.slice A ss.length cc)) 26)) g v7 (.slice none 0 0) (fun W=>W.heap[b11]?=some (.cells (tab cs (.slice A ss.length cc)) 26 (0,0)))):=⟨kep_blk (by rw [hb11];exact heap_alloc_new _ _) (fun e=>by have:=HI7.out.glt;omega) (fun e=>by have:=(HI7.out.own _ e).2;omega) (by simp [Value.ownBlock])⟩;have K2:Aside0 (Kep (w7.alloc (.cells (tab cs (.slice A ss.length cc)) 26)) g v7 (.slice none 0 0) (fun W=>Kd.C (Kd.int .i64) W A ss.length ss)):=⟨kep_foot (HFT.out.fro ((Fro.refl _ _ _).below (below_alloc (Below.refl _ _) _)))⟩;rw [← hb11];generalize w7.alloc _=W8 at HI8 HF8 K1 K2 ⊢;obtain ⟨x5,hx5⟩:∃ x5,x5=table L y:=⟨_,rfl⟩;rw [← hx5] at HI8
   have HX5:Aside0 (x5.e=0 → y.e=0∧errOf L=0):=⟨fun h=>by
    rw [hx5] at h;unfold table fail at h;by_cases cy:y.e=0
    ·rw [if_pos cy] at h;exact ⟨cy,h⟩
    ·rw [if_neg cy] at h;exact absurd h cy⟩
   have HOK5:Aside0 (Ok s x5):=⟨by rw [hx5];exact table_ok hoky L⟩;obtain ⟨R,hR⟩:∃ R,R=many s L (a+257+(b+1)) (left s x5) [] x5:=⟨_,rfl⟩
   have HRES:Aside0 (lengths s x=if R.2.e=0 then (if (R.1.length:Int) > a+257+(b+1) ∨ R.1.getD 256 0=0 then ([],[],fail R.2 3) else (R.1.take (a+257).toNat,R.1.drop (a+257).toNat,R.2)) else ([],[],R.2)):=⟨by
    unfold lengths;simp only [HA.out,HB.out,HC.out];rw [← HX4.out,HFW.out,Int.toNat_natCast,HW.out];simp only;rw [← hx5,← hR]⟩
   have HL8:Aside0 (LSt w0 g v7 s mx x5 (.slice none 0 0) [] W8):=⟨⟨HI8.out,Kd.R_nil _ _ _ _ _⟩⟩;have HFF:Aside0 (Fro2 W8 g v7 (.slice none 0 0) W8 v7 (.slice none 0 0)):=⟨Fro2.refl _ _ _ _⟩;have HR:=Aside0.mk hR;have HSZ17:Aside0 ((tab cs (.slice A ss.length cc)).size=17):=⟨by rw [tab_size,HCL.out]⟩;have hu26:=Aside0.mk Try.underlying26;clear hR hx5 hb11 HRL HL HO HF HFT HI7 HF7 HTAB HOKY hoky HOK4 HI8;go_wp2
   go_loopw [12] (fun v12 w'=>∃ (l:List Int) (z:St) (v1:Value) (k:Nat),Aside0 (many s L (a+257+(b+1)) k l z=R)∧Aside0 (z.e=0 → left s z≤k)∧Aside0 (Ok s z)∧Aside0 (l.length≤800)∧Aside0 (z.e=0 → x5.e=0)∧Aside0 (LSt w0 g v1 s mx z v12 l w')∧Aside0 (Kep w' g v1 v12 (fun W=>W.heap[b11]?=some (.cells (tab cs (.slice A ss.length cc)) 26 (0,0))))∧Aside0 (Kep w' g v1 v12 (fun W=>Kd.C (Kd.int .i64) W A ss.length ss))∧Aside0 (Fro2 W8 g v7 (.slice none 0 0) w' v1 v12)) (fun v12 w'=>imeas s g w')
   case atStart=>exact ⟨[],x5,v7,left s x5,⟨HR.out.symm⟩,⟨fun _=>Nat.le_refl _⟩,HOK5,⟨by decide⟩,⟨fun h=>h⟩,HL8,K1,K2,HFF⟩
   clear HR HOK5 HL8 K1 K2 HFF;obtain ⟨l,z,v1_,k,HM,HK,HOZ,HLL,HXZ,HLS,K1,K2,HFF⟩:=hrel;obtain ⟨Al,cl,hvl⟩:=Kd.R_slice HLS.out.r;subst hvl;have hc4:=HLS.out.i.c4;have hl8:=HLL.out;(have hwr:wrap64 ((l.length:Int)+0)=(l.length:Int):=by rw [Int.add_zero];exact wrap_in (by omega) (by omega));by_cases c7:(l.length:Int) < a+257+(b+1)
   ·have d7:decide ((l.length:Int) < a+257+(b+1))=true:=decide_eq_true c7;by_cases c8:z.e=0;rotate_left
    ·have d8:(z.e == 0)=false:=beq_eq_false_iff_ne.2 c8;(have d9:(z.e != 0)=true:=by simpa using c8);(have hR2:R=(l,z):=by rw [← HM.out];exact many_stop k (.inr c8));(have hres:lengths s x=([],[],z):=by rw [HRES.out,hR2];exact if_neg c8);have HRS:=Aside0.mk hres;clear hR2 hres;go_wp2;exact bodyPost_ret (v:=.tuple #[.slice none 0 0,.slice none 0 0]) (by simp [results,Try.results99,go_sem]) rfl ⟨v1_,none,none,0,0,by rw [HRS.out];rfl,by rw [HRS.out];exact HLS.out.i,HF8.out.trans (kep_fro HFF.out),by rw [HRS.out];exact foot_nil _ _ _,by rw [HRS.out];exact foot_nil _ _ _⟩
    (have d8:(z.e == 0)=true:=by rw [c8];rfl);have HTv:Aside0 (Tv wr g v1_ (.agg (tab cs (.slice A ss.length cc))) L (z.e=0)):=⟨⟨cs,ss,A,cc,rfl,HCL.out,kep_to_foot K2.out,fun h=>HCS.out (HX5.out (HXZ.out h)).1⟩⟩;obtain ⟨n,z1,hn⟩:∃ n z1,next L s z=(n,z1):=⟨_,_,rfl⟩;obtain ⟨l2,z2,hl2⟩:∃ l2 z2,lengthen s l n z1=(l2,z2):=⟨_,_,rfl⟩;have heL:=(HX5.out (HXZ.out c8)).2;obtain ⟨hok1,-,-,-,hgo1,-⟩:=next_get HSB.out HOZ.out (fun _=>heL) hn;have hp1:=next_p (x:=z) HSB.out HOZ.out (fun _=>heL);rw [hn] at hp1;obtain ⟨hok2,hp2,hll2⟩:=lengthen_spec (l:=l) (y:=n) hok1;rw [hl2] at hok2 hp2 hll2
    have hz2:z2.e=0 → z.p+1≤z2.p:=fun h=>by
     by_cases cz:z1.e=0
     ·have:=(hgo1 cz).2.1;simp only at hp2;omega
     ·have e:=lengthen_same (s:=s) (l:=l) (y:=n) cz;rw [hl2] at e;(injection e with e1 e2);rw [e2] at h;exact absurd h cz
    have hkk:=HK.out c8;obtain ⟨k1,hk1⟩:∃ k1,k=k1+1:=⟨k - 1,by unfold left at hkk;omega⟩
    have HM2:Aside0 (many s L (a+257+(b+1)) k1 l2 z2=R):=⟨by
     rw [← HM.out,hk1];show _=(if (l.length:Int) < a+257+(b+1) then (if z.e=0 then _ else _) else _);rw [if_pos c7,if_pos c8,hn];simp only;rw [hl2]⟩
    have HN:=Aside0.mk hn;have HL2:=Aside0.mk hl2;have HEL:=Aside0.mk heL;have HOK1:=Aside0.mk hok1;have HOK2:Aside0 (Ok s z2):=⟨hok2⟩;have HZ2:=Aside0.mk hz2;have HP2:Aside0 (z.p≤z2.p):=⟨by simp only at hp1 hp2;omega⟩;have HLN:Aside0 (l2.length≤800):=⟨by simp only at hll2;omega⟩;have HLF:Aside0 (z2.e=0 → left s z2≤k1):=⟨fun h=>by have h1:=hz2 h;have h2:=HOZ.out.p1;unfold left at hkk ⊢;omega⟩;have HPZ:Aside0 (z.p≤4611686018427387904):=⟨by have:=HOZ.out.p1;omega⟩;have HL1:Aside0 (l.length≤100000):=⟨by omega⟩;have HI0:=Aside0.mk HLS.out.i;clear hn hl2 heL hok1 hgo1 hp1 hok2 hp2 hll2 hz2 hkk HM HK
    go_wp2_with (first
     |((with_reducible refine gate_load (t:=26) rfl ?_);refine wpList_load_row rfl 26 _ rfl b11 rfl 26 _ (0,0) _ K1.out.now hu26.out rfl (by rw [HSZ17.out];exact info26) ?_)
     |(go_at_call 111;(with_reducible refine (Inf.next_calls w0 g v1_ s mx z _ L _ HSB.out HOZ.out.p0 HPZ.out HLS.out.i HTv.out (fun _=>HEL.out)).mono ?_);rw [HN.out];rintro e w9 ⟨v9,rfl,hi,hf⟩;have HL9:=Aside0.mk (HLS.out.fro hf hi);have HF9:=Aside0.mk ((Fro2.refl wr g v1_ (.slice Al l.length cl)).step hf);clear hi hf)
     |(go_at_call 112;(with_reducible refine (lengthen_calls w0 g v9 (.slice Al l.length cl) s mx z1 l n _ hs HL1.out HOK1.out HL9.out).mono ?_);rw [HL2.out];rintro e w10 ⟨v10,u10,rfl,hi,hf⟩;have HL10:=Aside0.mk hi;have HF10:=Aside0.mk (HF9.out.trans hf);clear hi hf))
    go_roundw
    case rel=>exact ⟨l2,z2,v10,k1,HM2,HLF,HOK2,HLN,⟨fun _=>HXZ.out c8⟩,HL10,⟨K1.out.step HF10.out⟩,⟨K2.out.step HF10.out⟩,⟨HFF.out.trans HF10.out⟩⟩
    case measure=>exact meas_less2 HI0.out HL10.out.i c8 HP2.out HZ2.out HOZ.out.p1
   ·have d7:decide ((l.length:Int) < a+257+(b+1))=false:=decide_eq_false c7;by_cases c8:z.e=0;rotate_left
    ·have d9:(z.e != 0)=true:=by simpa using c8
     (have hR2:R=(l,z):=by rw [← HM.out];exact many_stop k (.inl c7));(have hres:lengths s x=([],[],z):=by rw [HRES.out,hR2];exact if_neg c8);have HRS:=Aside0.mk hres;clear hR2 hres;go_wp2;exact bodyPost_ret (v:=.tuple #[.slice none 0 0,.slice none 0 0]) (by simp [results,Try.results99,go_sem]) rfl ⟨v1_,none,none,0,0,by rw [HRS.out];rfl,by rw [HRS.out];exact HLS.out.i,HF8.out.trans (kep_fro HFF.out),by rw [HRS.out];exact foot_nil _ _ _,by rw [HRS.out];exact foot_nil _ _ _⟩
    (have d9:(z.e != 0)=false:=by rw [c8];rfl);(have hR2:R=(l,z):=by rw [← HM.out];exact many_stop k (.inl c7));by_cases c9:(l.length:Int) > a+257+(b+1)
    ·have d10:decide ((l.length:Int) > a+257+(b+1))=true:=decide_eq_true c9;(have hres:lengths s x=([],[],fail z 3):=by rw [HRES.out,hR2];show (if z.e=0 then _ else _)=_;rw [if_pos c8,if_pos (.inl c9)]);have HRS:=Aside0.mk hres;clear hR2 hres;(go_wp2_with (go_at_call 100;(with_reducible refine (fail_calls w0 g v1_ s mx z 3 _ HLS.out.i).mono ?_);rintro e w9 ⟨v9,rfl,hi,hf⟩;have HI9:=Aside0.mk hi;have HF9:=Aside0.mk ((kep_fro HFF.out).trans hf);clear hi hf));exact bodyPost_ret (v:=.tuple #[.slice none 0 0,.slice none 0 0]) (by simp [results,Try.results99,go_sem]) rfl ⟨v9,none,none,0,0,by rw [HRS.out];rfl,by rw [HRS.out];exact HI9.out,HF8.out.trans HF9.out,by rw [HRS.out];exact foot_nil _ _ _,by rw [HRS.out];exact foot_nil _ _ _⟩
    ·have d10:decide ((l.length:Int) > a+257+(b+1))=false:=decide_eq_false c9;obtain ⟨gl,cpl,hvl,_,hgl,hcpl⟩:=row_form HLS.out.r (by omega);(injection hvl with hvl1 hvl2 hvl3);subst hvl1;subst hvl3;have hc11:wr.cell? ⟨gl,256,none⟩=some (.int .i64 (l.getD 256 0)):=HLS.out.cellq rfl (by omega) rfl;obtain ⟨q,hq⟩:∃ q,q=l.getD 256 0:=⟨_,rfl⟩;rw [← hq] at hc11;have hl256:((256:Int) < (l.length:Int))=True:=eq_true (by omega);by_cases c10:q=0
     ·have d11:(q == 0)=true:=by rw [c10];rfl
      (have hres:lengths s x=([],[],fail z 3):=by rw [HRES.out,hR2];show (if z.e=0 then _ else _)=_;rw [if_pos c8,if_pos (.inr (hq.symm.trans c10))]);have HRS:=Aside0.mk hres;clear hR2 hres hq;(go_wp2_with (go_at_call 100;(with_reducible refine (fail_calls w0 g v1_ s mx z 3 _ HLS.out.i).mono ?_);rintro e w9 ⟨v9,rfl,hi,hf⟩;have HI9:=Aside0.mk hi;have HF9:=Aside0.mk ((kep_fro HFF.out).trans hf);clear hi hf));exact bodyPost_ret (v:=.tuple #[.slice none 0 0,.slice none 0 0]) (by simp [results,Try.results99,go_sem]) rfl ⟨v9,none,none,0,0,by rw [HRS.out];rfl,by rw [HRS.out];exact HI9.out,HF8.out.trans HF9.out,by rw [HRS.out];exact foot_nil _ _ _,by rw [HRS.out];exact foot_nil _ _ _⟩
     ·have d11:(q == 0)=false:=beq_eq_false_iff_ne.2 c10;obtain ⟨na,hna⟩:∃ na:Nat,a+257=(na:Int):=⟨(a+257).toNat,by omega⟩;(have hres:lengths s x=(l.take na,l.drop na,z):=by rw [HRES.out,hR2];show (if z.e=0 then _ else _)=_;rw [if_pos c8,if_neg (fun h=>h.elim c9 (fun h=>c10 (hq.trans h))),hna];rfl);(have hnl:na≤l.length:=by omega);have hnl1:((na:Int)≤(l.length:Int))=True:=eq_true (by omega);have hnl2:((na:Int)≤(cl:Int))=True:=eq_true (by omega);have HRS:=Aside0.mk hres;have HFT:=Aside0.mk HLS.out.foot;have HNL:=Aside0.mk hnl;have HNA:=Aside0.mk hna;clear hR2 hres hq;(go_upto_region 20 with fail)
      go_quiet (fail)
      generalize hw9:World.drewN _ _=w9;have HI9:Aside0 (ISt w0 g v1_ s mx z w9):=⟨by rw [← hw9];exact HLS.out.i.below (pw_below_drewN (Below.refl _ _) _)⟩;have HF9:Aside0 (Fro _ g v7 w9 v1_):=⟨by rw [← hw9];exact (kep_fro HFF.out).below (pw_below_drewN (Below.refl _ _) _)⟩;have HT9:Aside0 (Foot w9 g v1_ (some ⟨gl,0,none⟩) l):=⟨by rw [← hw9];exact HFT.out.fro ((Fro.refl _ _ _).below (pw_below_drewN (Below.refl _ _) _))⟩;clear hw9;go_wp2;(have hncl:¬ cl=na:=by have:=HNL.out;have:=HNA.out;omega)
      have hfd:Foot w9 g v1_ (some ⟨gl,na,none⟩) (l.drop na):=by
       have h:=foot_drop (c:=cl) HT9.out na HNL.out hcpl;rw [if_neg hncl] at h;(have hn0:¬ na=0:=by have:=HNA.out;omega)
       simpa [Addr.add,hn0] using h
      exact bodyPost_ret (v:=.tuple #[.slice (some ⟨gl,0,none⟩) na cl,.slice (some ⟨gl,na,none⟩) (l.length - na) (cl - na)]) (by simp [results,Try.results99,go_sem]) rfl ⟨v1_,some ⟨gl,0,none⟩,some ⟨gl,na,none⟩,cl,cl - na,by rw [HRS.out];simp only [List.length_take,List.length_drop,Nat.min_eq_left HNL.out],by rw [HRS.out];exact HI9.out,HF8.out.trans HF9.out,by rw [HRS.out];exact foot_take HT9.out na HNL.out,by rw [HRS.out];exact hfd⟩
end Go.Proofs.Ytpbhkdamkbopkaa.Inf
namespace Go.Proofs.Ytpbhkdamkbopkaa.Inf
set_option linter.unusedSimpArgs false
set_option linter.unusedVariables false
open Go.RowKit Go.Proofs.Ytpbhkdamkbopkaa.Ext Go.Proofs.Ytpbhkdamkbopkaa.RefP Go.Proofs.YtpbhkdamkbopkaaW.PrintWords Go.Proofs.YtpbhkdamkbopkaaW.PrintLast Go.Proofs.YtpbhkdamkbopkaaW.PrintMore
/-- A state behind another: its place further,not too many bytes. -/
structure Aft (s:ByteArray) (mx:Int) (x y:St):Prop where
 ok:Ok s y
 p:x.p≤y.p
 o:(x.o.length:Int)≤mx → (y.o.length:Int)≤mx
 e:y.e=0 → x.e=0
 l:x.o.length≤y.o.length
section
variable {s:ByteArray} {mx:Int} {x y z:St}
theorem Aft.refl (h:Ok s x):Aft s mx x x:=⟨h,Int.le_refl _,fun h=>h,fun h=>h,Nat.le_refl _⟩
theorem Aft.trans (h:Aft s mx x y) (k:Aft s mx y z):Aft s mx x z:=⟨k.ok,Int.le_trans h.p k.p,fun c=>k.o (h.o c),fun c=>h.e (k.e c),Nat.le_trans h.l k.l⟩
theorem fail_p (x:St) (e:Int):(fail x e).p=x.p:=by unfold fail;split <;> rfl
theorem fail_o (x:St) (e:Int):(fail x e).o=x.o:=by unfold fail;split <;> rfl
theorem fail_e {x:St} {e:Int} (h:(fail x e).e=0):x.e=0∧e=0:=by
 unfold fail at h;by_cases c:x.e=0
 ·rw [if_pos c] at h;exact ⟨c,h⟩
 ·rw [if_neg c] at h;exact absurd h c
theorem Aft.fail (h:Ok s x) (e:Int) (he:e=0 ∨ e=1 ∨ e=2 ∨ e=3 ∨ e=4 ∨ e=7):Aft s mx x (fail x e):=⟨fail_ok h he,by rw [fail_p];exact Int.le_refl _,by rw [fail_o];exact fun h=>h,fun h=>(fail_e h).1,by rw [fail_o];exact Nat.le_refl _⟩
theorem Aft.table (h:Ok s x) (l:List Int):Aft s mx x (table l x):=⟨table_ok h l,by unfold Inf.table;rw [fail_p];exact Int.le_refl _,by unfold Inf.table;rw [fail_o];exact fun h=>h,fun h=>(fail_e h).1,by unfold Inf.table;rw [fail_o];exact Nat.le_refl _⟩
theorem table_e {l:List Int} {x:St} (h:(table l x).e=0):x.e=0∧errOf l=0:=fail_e h
theorem Aft.bits (h:Ok s x) (n:Nat) (hn:n≤16) (k:Int) (hk:k=n):Aft s mx x (bits s k x).2:=by
 have g:=bits_get (n:=n) (k:=k) (m:=(Inf.bits s k x).1) (y:=(Inf.bits s k x).2) hk h hn rfl;have p:=bits_p (s:=s) n h hn;rw [← hk] at p;exact ⟨g.1,p,by rw [g.2.2.2.1];exact fun h=>h,fun h=>(g.2.2.2.2.1 h).1,by rw [g.2.2.2.1];exact Nat.le_refl _⟩
theorem Aft.next (hs:s.size≤140737488351232) (h:Ok s x) (l:List Int) (he:x.e=0 → errOf l=0):Aft s mx x (next l s x).2:=by
 have g:=next_get (m:=(Inf.next l s x).1) (y:=(Inf.next l s x).2) hs h he rfl;exact ⟨g.1,next_p hs h he,by rw [g.2.2.2.1];exact fun h=>h,fun h=>(g.2.2.2.2.1 h).1,by rw [g.2.2.2.1];exact Nat.le_refl _⟩
theorem Aft.copy (h:Ok s x) (n d:Int) (hn:0≤n):Aft s mx x (copy mx x n d):=by
 unfold Inf.copy;by_cases c1:d≤x.o.length
 ·rw [if_pos c1];by_cases c2:(x.o.length:Int)+n≤mx
  ·rw [if_pos c2];exact ⟨⟨h.p0,h.p1,h.e⟩,Int.le_refl _,fun _=>by show ((again x.o d.toNat n.toNat).length:Int)≤mx;rw [again_len];omega,fun h=>h,by show x.o.length≤(again x.o d.toNat n.toNat).length;rw [again_len];omega⟩
  ·rw [if_neg c2];exact Aft.fail h 7 (by decide)
 ·rw [if_neg c1];exact Aft.fail h 3 (by decide)
theorem Aft.far (hs:s.size≤140737488351232) (h:Ok s x) (lb:List Int) (hb:errOf lb=0) (y:Int) (h0:257≤y) (h1:y < 286):Aft s mx x (far s mx lb x y):=by
 unfold Inf.far;obtain ⟨q,hq⟩:∃ q:Nat,(y - 257).toNat=q:=⟨_,rfl⟩;have hqr:=len_rng q (by omega);obtain ⟨k,hk⟩:∃ k:Nat,lenM.getD q 0=(k:Int):=⟨(lenM.getD q 0).toNat,by omega⟩;simp only [hq,hk];have a1:=Aft.bits (mx:=mx) h k (by omega) k rfl;have a2:=Aft.next (mx:=mx) hs a1.ok lb (fun _=>hb);have g2:=next_get (m:=(Inf.next lb s (Inf.bits s k x).2).1) (y:=(Inf.next lb s (Inf.bits s k x).2).2) hs a1.ok (fun _=>hb) rfl;have gm:=(bits_get (n:=k) (k:=k) (m:=(Inf.bits s k x).1) (y:=(Inf.bits s k x).2) rfl h (by omega) rfl).2.1;generalize Inf.bits s k x=m at *;generalize Inf.next lb s m.2=d at *;by_cases c:d.2.e=0∧d.1 ≥ 30
 ·rw [if_pos c];have a3:=Aft.fail (mx:=mx) a2.ok 3 (by decide);have:(Inf.fail d.2 3).e=3:=by unfold Inf.fail;rw [if_pos c.1]
  rw [if_neg (by rw [this];decide)];exact (a1.trans a2).trans a3
 rw [if_neg c];by_cases ce:d.2.e=0;rotate_left
 ·rw [if_neg ce];exact a1.trans a2
 rw [if_pos ce]
 have h30:d.1 < 30:=by
  rcases Decidable.em (d.1 < 30) with h | h
  ·exact h
  ·exact absurd ⟨ce,Int.not_lt.1 h⟩ c
 have hdr:=dis_rng d.1.toNat (by have:=g2.2.1;omega);obtain ⟨k2,hk2⟩:∃ k2:Nat,disM.getD d.1.toNat 0=(k2:Int):=⟨(disM.getD d.1.toNat 0).toNat,by omega⟩;rw [hk2];have a3:=Aft.bits (mx:=mx) a2.ok k2 (by omega) k2 rfl;generalize Inf.bits s k2 d.2=e at *;by_cases c3:e.2.e=0
 ·rw [if_pos c3];exact ((a1.trans a2).trans a3).trans (Aft.copy a3.ok _ _ (by omega))
 ·rw [if_neg c3];exact (a1.trans a2).trans a3
theorem Aft.one (hs:s.size≤140737488351232) (h:Ok s x) (la lb:List Int) (he:x.e=0) (ha:errOf la=0) (hb:errOf lb=0):Aft s mx x (one s mx la lb x).2∧((one s mx la lb x).1=false → (one s mx la lb x).2.e=0 → x.p+1≤(one s mx la lb x).2.p)∧((x.o.length:Int)≤mx → ((one s mx la lb x).2.o.length:Int)≤mx):=by
 have a1:=Aft.next (mx:=mx) hs h la (fun _=>ha);have g1:=next_get (m:=(Inf.next la s x).1) (y:=(Inf.next la s x).2) hs h (fun _=>ha) rfl;unfold Inf.one;simp only;generalize Inf.next la s x=a at *;by_cases c1:a.2.e ≠ 0 ∨ a.1=256
 ·rw [if_pos c1];exact ⟨a1,fun h=>Bool.noConfusion h,a1.o⟩
 rw [if_neg c1];have c10:a.2.e=0:=Decidable.byContradiction fun h=>c1 (.inl h);have hp1:=(g1.2.2.2.2.1 c10).2.1;by_cases c2:a.1 < 256;rotate_left
 ·rw [if_neg c2];by_cases c3:a.1 ≥ 286
  ·rw [if_pos c3];have:=a1.trans (Aft.fail (mx:=mx) a1.ok 3 (by decide));exact ⟨this,fun h=>Bool.noConfusion h,this.o⟩
  ·rw [if_neg c3];have a2:=Aft.far (mx:=mx) hs a1.ok lb hb a.1 (by have h:¬ a.1=256:=fun h=>c1 (.inr h);omega) (by omega);exact ⟨a1.trans a2,fun _ _=>Int.le_trans hp1 a2.p,(a1.trans a2).o⟩
 rw [if_pos c2];by_cases c3:(a.2.o.length:Int)=mx
 ·rw [if_pos c3];have:=a1.trans (Aft.fail (mx:=mx) a1.ok 7 (by decide));exact ⟨this,fun h=>Bool.noConfusion h,this.o⟩
 ·rw [if_neg c3];have hl:(x.o.length:Int)≤mx → ((a.2.o ++ [a.1 % 256]).length:Int)≤mx:=fun h=>by have:=a1.o h;rw [List.length_append];simp only [List.length_cons,List.length_nil];omega
  exact ⟨⟨⟨a1.ok.p0,a1.ok.p1,a1.ok.e⟩,a1.p,hl,fun _=>he,by show x.o.length≤(a.2.o ++ [a.1 % 256]).length;rw [List.length_append];have:=a1.l;omega⟩,fun _ _=>hp1,hl⟩
theorem Aft.codes (hs:s.size≤140737488351232) (la lb:List Int):∀ (k:Nat) (x:St),Ok s x → (x.e=0 → errOf la=0∧errOf lb=0) → Aft s mx x (codes s mx la lb k x):=by
 intro k
 induction k with
 |zero=>intro x h _;exact Aft.refl h
 |succ k ih =>
  intro x h he;unfold Inf.codes;by_cases c:x.e=0
  ·rw [if_pos c];have a1:=(Aft.one (mx:=mx) hs h la lb c (he c).1 (he c).2).1;by_cases c2:(Inf.one s mx la lb x).1=true
   ·rw [if_pos c2];exact a1
   ·rw [if_neg c2];exact a1.trans (ih _ a1.ok (fun _=>he c))
  ·rw [if_neg c];exact Aft.refl h
theorem both_e {la lb:List Int} {x:St} (h:(table lb (table la x)).e=0):errOf la=0∧errOf lb=0:=⟨(table_e (table_e h).1).2,(table_e h).2⟩
theorem Aft.both (hs:s.size≤140737488351232) (la lb:List Int) (h:Ok s x):Aft s mx x (both s mx la lb x) :=
 (((Aft.table h la).trans (Aft.table (table_ok h la) lb))).trans (Aft.codes hs la lb _ _ (table_ok (table_ok h la) lb) both_e)
theorem both_eq (la lb:List Int) (x:St):both s mx la lb x=codes s mx la lb (left s (table lb (table la x))) (table lb (table la x)):=by
 have e:left s (table lb (table la x))=left s x:=by unfold left Inf.table;rw [fail_p,fail_p]
 rw [e];rfl
theorem lengthen_o (l:List Int) (y:Int) (h:Ok s x):(lengthen s l y x).2.o=x.o:=by
 have b2:=bits_get (n:=2) (k:=2) (m:=(bits s 2 x).1) (y:=(bits s 2 x).2) rfl h (by decide) rfl;have b3:=bits_get (n:=3) (k:=3) (m:=(bits s 3 x).1) (y:=(bits s 3 x).2) rfl h (by decide) rfl;have b7:=bits_get (n:=7) (k:=7) (m:=(bits s 7 x).1) (y:=(bits s 7 x).2) rfl h (by decide) rfl;unfold lengthen;by_cases c0:x.e=0;rotate_left
 ·rw [if_neg c0]
 rw [if_pos c0];by_cases c16:y=16
 ·rw [if_pos c16];by_cases cl:l.length=0
  ·rw [if_pos cl];exact fail_o _ _
  ·rw [if_neg cl];exact b2.2.2.2.1
 rw [if_neg c16];by_cases c17:y=17
 ·rw [if_pos c17];exact b3.2.2.2.1
 ·rw [if_neg c17];by_cases c18:y=18
  ·rw [if_pos c18];exact b7.2.2.2.1
  ·rw [if_neg c18]
theorem lengthen_e {l:List Int} {y:Int} (h:(lengthen s l y x).2.e=0):x.e=0:=by
 by_cases c:x.e=0
 ·exact c
 ·rw [lengthen_same c] at h;exact h
theorem Aft.many (hs:s.size≤140737488351232) (own:List Int) (all:Int):∀ (k:Nat) (l:List Int) (x:St),Ok s x → (x.e=0 → errOf own=0) → Aft s mx x (many s own all k l x).2:=by
 intro k
 induction k with
 |zero=>intro l x h _;exact Aft.refl h
 |succ k ih =>
  intro l x h he;unfold Inf.many;by_cases c:(l.length:Int) < all;rotate_left
  ·rw [if_neg c];exact Aft.refl h
  rw [if_pos c];by_cases c2:x.e=0
  ·rw [if_pos c2];have a1:=Aft.next (mx:=mx) hs h own he;have l1:=lengthen_spec (l:=l) (y:=(Inf.next own s x).1) a1.ok;have l2:=lengthen_o l (Inf.next own s x).1 a1.ok;have a2:Aft s mx _ (lengthen s l (Inf.next own s x).1 (Inf.next own s x).2).2:=⟨l1.1,l1.2.1,by rw [l2];exact fun h=>h,lengthen_e,by rw [l2];exact Nat.le_refl _⟩;exact (a1.trans a2).trans (ih _ _ a2.ok (fun _=>he c2))
  ·rw [if_neg c2];exact Aft.refl h
theorem Aft.owns:∀ (t:List Nat) (own:List Int) (x:St),Ok s x → Aft s mx x (owns s t own x).2:=by
 intro t
 induction t with
 |nil=>intro own x h;exact Aft.refl h
 |cons a t ih =>
  intro own x h;have a1:=Aft.bits (mx:=mx) h 3 (by decide) 3 rfl;exact a1.trans (ih _ _ a1.ok)
theorem Aft.lengths (hs:s.size≤140737488351232) (h:Ok s x):Aft s mx x (lengths s x).2.2:=by
 unfold Inf.lengths;have a1:=Aft.bits (mx:=mx) h 5 (by decide) 5 rfl;generalize Inf.bits s 5 x=a at *;have a2:=Aft.bits (mx:=mx) a1.ok 5 (by decide) 5 rfl;simp only;generalize Inf.bits s 5 a.2=b at *;have a3:=Aft.bits (mx:=mx) a2.ok 4 (by decide) 4 rfl;generalize Inf.bits s 4 b.2=c at *
 have a4:Aft s mx c.2 (if c.2.e=0∧(a.1+257 > 286 ∨ b.1+1 > 30) then Inf.fail c.2 3 else c.2):=by
  split
  ·exact Aft.fail a3.ok 3 (by decide)
  ·exact Aft.refl a3.ok
 generalize (if c.2.e=0∧(a.1+257 > 286 ∨ b.1+1 > 30) then Inf.fail c.2 3 else c.2)=x1 at *;have a5:=Aft.owns (mx:=mx) (order.take (c.1+4).toNat) (List.replicate 19 0) x1 a4.ok;generalize Inf.owns s (order.take (c.1+4).toNat) (List.replicate 19 0) x1=w at *;have a6:=Aft.table (mx:=mx) a5.ok w.1;have a7:=Aft.many (mx:=mx) hs w.1 (a.1+257+(b.1+1)) (left s (Inf.table w.1 w.2)) [] _ a6.ok (fun h=>(table_e h).2);generalize Inf.many s w.1 (a.1+257+(b.1+1)) (left s (Inf.table w.1 w.2)) [] (Inf.table w.1 w.2)=z at *;have a8:=(((((a1.trans a2).trans a3).trans a4).trans a5).trans a6).trans a7;by_cases c1:z.2.e=0
 ·rw [if_pos c1];by_cases c2:(z.1.length:Int) > a.1+257+(b.1+1) ∨ z.1.getD 256 0=0
  ·rw [if_pos c2];exact a8.trans (Aft.fail a7.ok 3 (by decide))
  ·rw [if_neg c2];exact a8
 ·rw [if_neg c1];exact a8
theorem cut_len (s:ByteArray) (a n:Nat):(cut s a n).length=n:=by unfold cut;simp
theorem Aft.stored (h:Ok s x):Aft s mx x (stored s mx x):=by
 have h':Ok s ⟨(x.p+7) / 8*8,x.o,x.e⟩:=⟨by have:=h.p0;show 0≤(x.p+7) / 8*8;omega,by have:=h.p1;show (x.p+7) / 8*8≤_;omega,h.e⟩;have a0:Aft s mx x ⟨(x.p+7) / 8*8,x.o,x.e⟩:=⟨h',by show x.p≤(x.p+7) / 8*8;omega,fun h=>h,fun h=>h,Nat.le_refl _⟩;have a1:=Aft.bits (mx:=mx) h' 16 (by decide) 16 rfl;have g1:=(bits_get (n:=16) (k:=16) (m:=(Inf.bits s 16 ⟨(x.p+7) / 8*8,x.o,x.e⟩).1) (y:=(Inf.bits s 16 ⟨(x.p+7) / 8*8,x.o,x.e⟩).2) rfl h' (by decide) rfl).2;have ge:(Inf.bits s 16 ⟨(x.p+7) / 8*8,x.o,x.e⟩).2.e=0 → (x.p+7) / 8*8+16≤(Inf.bits s 16 ⟨(x.p+7) / 8*8,x.o,x.e⟩).2.p∧(Inf.bits s 16 ⟨(x.p+7) / 8*8,x.o,x.e⟩).2.p≤(x.p+7) / 8*8+16:=fun h=>(g1.2.2.2.1 h).2;replace g1:=g1.1;unfold Inf.stored;simp only;generalize Inf.bits s 16 ⟨(x.p+7) / 8*8,x.o,x.e⟩=a at *;have a2:=Aft.bits (mx:=mx) a1.ok 16 (by decide) 16 rfl;have g2:=(bits_get (n:=16) (k:=16) (m:=(Inf.bits s 16 a.2).1) (y:=(Inf.bits s 16 a.2).2) rfl a1.ok (by decide) rfl).2.2.2.2.1;generalize Inf.bits s 16 a.2=b at *;have a3:=(a0.trans a1).trans a2;by_cases c1:b.2.e=0;rotate_left
 ·rw [if_neg c1];exact a3
 rw [if_pos c1];by_cases c2:Go.bits .xor .i64 a.1 b.1=65535;rotate_left
 ·rw [if_neg c2];exact a3.trans (Aft.fail a2.ok 3 (by decide))
 rw [if_pos c2];by_cases c3:(b.2.o.length:Int)+a.1≤mx
 ·rw [if_pos c3];by_cases c4:a.1≤s.size - b.2.p / 8
  ·rw [if_pos c4];refine a3.trans ⟨⟨by have:=a2.ok.p0;show 0≤b.2.p+8*a.1;omega,?_,a2.ok.e⟩,by show b.2.p≤b.2.p+8*a.1;omega,fun _=>by show ((b.2.o ++ _).length:Int)≤mx;rw [List.length_append,cut_len];omega,fun h=>h,by show b.2.o.length≤(b.2.o ++ _).length;rw [List.length_append];omega⟩;have h1:=g2 c1;have h2:=ge h1.1;show b.2.p+8*a.1≤8*(s.size:Int);have h3:=h1.2.1;have h4:=h1.2.2;omega
  ·rw [if_neg c4];exact a3.trans (Aft.fail a2.ok 2 (by decide))
 ·rw [if_neg c3];exact a3.trans (Aft.fail a2.ok 7 (by decide))
theorem tak_zero {r:Int × Int × Int} (h:(tak x r).2.e ≠ 0):(tak x r).1=0:=by
 unfold tak at h ⊢;by_cases c:x.e=0
 ·rw [if_pos c] at h ⊢;by_cases c2:r.2.2=0
  ·rw [if_pos c2] at h;exact absurd c h
  ·rw [if_neg c2]
 ·rw [if_neg c]
theorem Aft.block (hs:s.size≤140737488351232) (h:Ok s x):Aft s mx x (block s mx x).2∧((block s mx x).2.e=0 → x.p+1≤(block s mx x).2.p):=by
 have a1:=Aft.bits (mx:=mx) h 1 (by decide) 1 rfl;have g1:=(bits_get (n:=1) (k:=1) (m:=(Inf.bits s 1 x).1) (y:=(Inf.bits s 1 x).2) rfl h (by decide) rfl).2.2.2.2.1;unfold Inf.block;simp only;generalize Inf.bits s 1 x=a at *;have a2:=Aft.bits (mx:=mx) a1.ok 2 (by decide) 2 rfl;have g2:=(bits_get (n:=2) (k:=2) (m:=(Inf.bits s 2 a.2).1) (y:=(Inf.bits s 2 a.2).2) rfl a1.ok (by decide) rfl).2.2.2.2.1;have g0:(Inf.bits s 2 a.2).2.e ≠ 0 → (Inf.bits s 2 a.2).1=0:=tak_zero;generalize Inf.bits s 2 a.2=b at *;have a3:=a1.trans a2
 have hp:b.2.e=0 → x.p+1≤b.2.p:=fun e=>by
  have h1:=g2 e;have h2:=g1 h1.1;have h3:=h2.2.1;have h4:=a2.p;omega
 have go:∀ y,Aft s mx b.2 y → (b.2.e ≠ 0 → b.1=0) → (b.1=0 → y.e=0 → b.2.e=0) → Aft s mx x y∧(y.e=0 → x.p+1≤y.p):=fun y k _ h1=>⟨a3.trans k,fun e=>by
  by_cases c:b.2.e=0
  ·exact Int.le_trans (hp c) k.p
  ·exact absurd (h1 (g0 c) e) c⟩
 by_cases c0:b.1=0
 ·rw [if_pos c0];by_cases c1:b.2.e=0
  ·rw [if_pos c1];exact go _ (Aft.stored a2.ok) g0 (fun _ _=>c1)
  ·rw [if_neg c1];exact go _ (Aft.refl a2.ok) g0 (fun _ h=>h)
 rw [if_neg c0];by_cases c1:b.1=1
 ·rw [if_pos c1];exact go _ (Aft.both hs _ _ a2.ok) g0 (fun h=>absurd h c0)
 ·rw [if_neg c1];by_cases c2:b.1=2
  ·rw [if_pos c2];have a4:=Aft.lengths (mx:=mx) hs a2.ok;exact go _ (a4.trans (Aft.both hs _ _ a4.ok)) g0 (fun h=>absurd h c0)
  ·rw [if_neg c2];exact go _ (Aft.fail a2.ok 3 (by decide)) g0 (fun h=>absurd h c0)
theorem Aft.blocks (hs:s.size≤140737488351232):∀ (k:Nat) (x:St),Ok s x → Aft s mx x (blocks s mx k x):=by
 intro k
 induction k with
 |zero=>intro x h;exact Aft.refl h
 |succ k ih =>
  intro x h;have a1:=Aft.block (mx:=mx) hs h;unfold Inf.blocks
  split
  ·exact a1.1
  ·split
   ·exact a1.1.trans (ih _ a1.1.ok)
   ·exact a1.1
end
set_option maxRecDepth 100000 in
set_option maxHeartbeats 8000000 in
theorem block_calls (w0 : World) (g : Nat) (v : Value) (s : ByteArray) (mx : Int) (x : St) (w : World) (hs : s.size ≤ 17592186044416) (hmx : 0 ≤ mx ∧ mx ≤ 262144) (ho : (x.o.length : Int) ≤ mx) (hx : Ok s x) (h : ISt w0 g v s mx x w) :
  Calls Try.prog 72 #[.pointer (some ⟨g,0,none⟩)] w (Post w0 g v s mx w (.bool (block s mx x).1) (block s mx x).2):=by
 have HH:=Aside0.mk h;have HF:=Aside0.mk (Fro.refl w g v);have HSB:Aside0 (s.size≤140737488351232):=⟨by omega⟩;clear h;obtain ⟨a,x1,ha⟩:∃ a x1,bits s 1 x=(a,x1):=⟨_,_,rfl⟩;obtain ⟨b,x2,hb⟩:∃ b x2,bits s 2 x1=(b,x2):=⟨_,_,rfl⟩;obtain ⟨hok1,ha0,ha1,hao,-,-⟩:=bits_get (n:=1) rfl hx (by decide) ha;obtain ⟨hok2,hb0,hb1,hbo,-,-⟩:=bits_get (n:=2) rfl hok1 (by decide) hb;have HO2:Aside0 ((x2.o.length:Int)≤mx):=⟨by rw [hbo,hao];exact ho⟩;have HO2n:Aside0 (x2.o.length≤262144):=⟨by have:=HO2.out;omega⟩;obtain ⟨R,hR⟩:∃ R,R=(block s mx x).2:=⟨_,rfl⟩
 have hres:block s mx x=(decide (a=1),if b=0 then (if x2.e=0 then stored s mx x2 else x2) else if b=1 then both s mx plainA plainB x2 else if b=2 then both s mx (lengths s x2).1 (lengths s x2).2.1 (lengths s x2).2.2 else fail x2 3):=by
  unfold block;simp only [ha,hb]
 rw [hres] at hR;rw [hres];simp only at hR ⊢;rw [← hR];have HA:=Aside0.mk ha;have HB:=Aside0.mk hb;have HR:=Aside0.mk hR;have HP0:Aside0 (x.p≤9223372036854775807):=⟨by have:=hx.p1;omega⟩;have HP1:Aside0 (x1.p≤9223372036854775807):=⟨by have:=hok1.p1;omega⟩;have HOK2:=Aside0.mk hok2;have HMX:=Aside0.mk hmx;have HS:=Aside0.mk hs;have hbeq:(a == 1)=decide (a=1):=rfl;clear ha hb hres hR hok1 hok2 hx hao hbo ho hmx hs;go_enter Try.func72,Try.ntmps72
 go_upto_region 4 with (first
  |(go_at_call 94;(with_reducible refine (bits_calls w0 g v s mx x 1 _ HSB.out HP0.out HH.out).mono ?_);rw [HA.out];rintro e w1 ⟨v1,rfl,hi,hf⟩;have HI1:=Aside0.mk hi;have HF1:=Aside0.mk (HF.out.trans hf);clear hi hf HF)
  |(go_at_call 94;(with_reducible refine (bits_calls w0 g v1 s mx x1 2 _ HSB.out HP1.out HI1.out).mono ?_);rw [HB.out];rintro e w2 ⟨v2,rfl,hi,hf⟩;have HI2:=Aside0.mk hi;have HF2:=Aside0.mk (HF1.out.trans hf);clear hi hf HI1 HF1))
 have hc4:=HI2.out.c4;by_cases c0:b=0
 ·have d0:(b == 0)=true:=by rw [c0];rfl
  have hR:=HR.out;rw [if_pos c0] at hR;by_cases c1:x2.e=0
  ·have d1:(x2.e == 0)=true:=by rw [c1];rfl
   rw [if_pos c1] at hR;have HR2:=Aside0.mk hR;clear hR HR;(go_wp2_with (go_at_call 95;(with_reducible refine (stored_calls w0 g v2 s mx x2 _ HS.out HO2n.out HMX.out HOK2.out HI2.out).mono ?_);rw [← HR2.out];rintro e w3 ⟨v3,rfl,hi,hf⟩;have HI3:=Aside0.mk hi;have HF3:=Aside0.mk (HF2.out.trans hf);clear hi hf));exact bodyPost_ret (v:=.bool (decide (a=1))) (by simp [results,Try.results72,go_sem]) rfl ⟨v3,rfl,HI3.out,HF3.out⟩
  ·have d1:(x2.e == 0)=false:=beq_eq_false_iff_ne.2 c1;rw [if_neg c1] at hR;have HR2:=Aside0.mk hR;clear hR HR;go_wp2;exact bodyPost_ret (v:=.bool (decide (a=1))) (by simp [results,Try.results72,go_sem]) rfl ⟨v2,rfl,by rw [HR2.out];exact HI2.out,HF2.out⟩
 ·have d0:(b == 0)=false:=beq_eq_false_iff_ne.2 c0;have hR:=HR.out;rw [if_neg c0] at hR;by_cases c1:b=1
  ·have d1:(b == 1)=true:=by rw [c1];rfl
   rw [if_pos c1] at hR;obtain ⟨LA,hLA⟩:∃ LA,LA=plainA:=⟨_,rfl⟩;obtain ⟨LB,hLB⟩:∃ LB,LB=plainB:=⟨_,rfl⟩;rw [← hLA,← hLB] at hR;have HL:=Aside0.mk (And.intro hLA hLB);have HR2:=Aside0.mk hR;have HOT:Aside0 (((table LB (table LA x2)).o.length:Int)≤mx):=⟨((Aft.table (mx:=mx) HOK2.out LA).trans (Aft.table (table_ok HOK2.out LA) LB)).o HO2.out⟩;have HOKT:Aside0 (Ok s (table LB (table LA x2))):=⟨table_ok (table_ok HOK2.out LA) LB⟩;clear hR HR hLA hLB;(go_upto_region 9 with (go_at_call 96;(with_reducible refine (plain_calls _).mono ?_);rw [← HL.out.1,← HL.out.2];rintro e w3 ⟨u0,u1,rfl,hr0,hr1,hb⟩;have HR0:=Aside0.mk hr0;have HR1:=Aside0.mk hr1;have HBW:=Aside0.mk hb;clear hr0 hr1 hb));obtain ⟨A,cA,hu0⟩:=Kd.R_slice HR0.out;obtain ⟨B,cB,hu1⟩:=Kd.R_slice HR1.out;subst hu0;subst hu1;have hside:∀ k,w2.heap.size≤k → k < w3.heap.size → w3.heap[k]?=w3.heap[k]?∧k ≠ g∧some k ≠ v2.ownBlock:=fun k h1 _=>⟨rfl,fun e=>by have:=HI2.out.glt;omega,fun e=>by have:=(HI2.out.own k e.symm).2;omega⟩;have HFA:Aside0 (Foot w3 g v2 A LA):=⟨foot_of HR0.out (Nat.le_refl _) hside⟩;have HFB:Aside0 (Foot w3 g v2 B LB):=⟨foot_of HR1.out (Nat.le_refl _) hside⟩;have HI3:=Aside0.mk (HI2.out.below HBW.out);have HF3:=Aside0.mk (HF2.out.below HBW.out);clear hside
   go_wp2_with (first
    |(go_at_call 98;(with_reducible refine (table_calls w0 g v2 s mx x2 A cA LA _ HI3.out HFA.out.now).mono ?_);rintro e w4 ⟨ta,v4,rfl,ht,hi,hf⟩;have HI4:=Aside0.mk hi;have HF4:=Aside0.mk (HF3.out.trans hf);have HTA4:=Aside0.mk ht;have HFB4:=Aside0.mk (HFB.out.fro hf);clear hi hf ht)
    |(go_at_call 98;(with_reducible refine (table_calls w0 g v4 s mx (table LA x2) B cB LB _ HI4.out HFB4.out.now).mono ?_);rintro e w5 ⟨tb,v5,rfl,ht,hi,hf⟩;have HI5:=Aside0.mk hi;have HF5:=Aside0.mk (HF4.out.trans hf);have HTB5:=Aside0.mk ht;have HTA5:=Aside0.mk (HTA4.out.fro hf);clear hi hf ht)
    |(go_at_call 97;(with_reducible refine (codes_calls w0 g v5 s mx (table LB (table LA x2)) LA LB ta tb _ HS.out HMX.out HOT.out HOKT.out both_e HI5.out (HTA5.out.imp (fun h=>(table_e (table_e h).1).1)) (HTB5.out.imp (fun h=>(table_e h).1))).mono ?_);rintro e w6 ⟨v6,rfl,hi,hf⟩;have HI6:=Aside0.mk hi;have HF6:=Aside0.mk (HF5.out.trans hf);clear hi hf))
   exact bodyPost_ret (v:=.bool (decide (a=1))) (by simp [results,Try.results72,go_sem]) rfl ⟨v6,rfl,by rw [HR2.out,both_eq];exact HI6.out,HF6.out⟩
  ·have d1:(b == 1)=false:=beq_eq_false_iff_ne.2 c1;rw [if_neg c1] at hR;by_cases c2:b=2;rotate_left
   ·have d2:(b == 2)=false:=beq_eq_false_iff_ne.2 c2;rw [if_neg c2] at hR;have HR2:=Aside0.mk hR;clear hR HR;(go_wp2_with (go_at_call 100;(with_reducible refine (fail_calls w0 g v2 s mx x2 3 _ HI2.out).mono ?_);rw [← HR2.out];rintro e w3 ⟨v3,rfl,hi,hf⟩;have HI3:=Aside0.mk hi;have HF3:=Aside0.mk (HF2.out.trans hf);clear hi hf));exact bodyPost_ret (v:=.bool (decide (a=1))) (by simp [results,Try.results72,go_sem]) rfl ⟨v3,rfl,HI3.out,HF3.out⟩
   (have d2:(b == 2)=true:=by rw [c2];rfl);rw [if_pos c2] at hR;obtain ⟨LA,LB,x3,hl⟩:∃ LA LB x3,lengths s x2=(LA,LB,x3):=⟨_,_,_,rfl⟩;have hax:=Aft.lengths (mx:=mx) HSB.out HOK2.out;rw [hl] at hR hax;simp only at hR hax;have HL:=Aside0.mk hl;have HR2:=Aside0.mk hR;have HOT:Aside0 (((table LB (table LA x3)).o.length:Int)≤mx):=⟨((hax.trans (Aft.table (mx:=mx) hax.ok LA)).trans (Aft.table (table_ok hax.ok LA) LB)).o HO2.out⟩;have HOKT:Aside0 (Ok s (table LB (table LA x3))):=⟨table_ok (table_ok hax.ok LA) LB⟩;clear hR HR hl hax;(go_upto_region 12 with (go_at_call 99;(with_reducible refine (lengths_calls w0 g v2 s mx x2 _ HS.out HOK2.out HI2.out).mono ?_);rw [HL.out];rintro e w3 ⟨v3,A,B,cA,cB,rfl,hi,hf,hfa,hfb⟩;have HI3:=Aside0.mk hi;have HF3:=Aside0.mk (HF2.out.trans hf);have HFA:=Aside0.mk hfa;have HFB:=Aside0.mk hfb;clear hi hf hfa hfb))
   go_wp2_with (first
    |(go_at_call 98;(with_reducible refine (table_calls w0 g v3 s mx x3 A cA LA _ HI3.out HFA.out.now).mono ?_);rintro e w4 ⟨ta,v4,rfl,ht,hi,hf⟩;have HI4:=Aside0.mk hi;have HF4:=Aside0.mk (HF3.out.trans hf);have HTA4:=Aside0.mk ht;have HFB4:=Aside0.mk (HFB.out.fro hf);clear hi hf ht)
    |(go_at_call 98;(with_reducible refine (table_calls w0 g v4 s mx (table LA x3) B cB LB _ HI4.out HFB4.out.now).mono ?_);rintro e w5 ⟨tb,v5,rfl,ht,hi,hf⟩;have HI5:=Aside0.mk hi;have HF5:=Aside0.mk (HF4.out.trans hf);have HTB5:=Aside0.mk ht;have HTA5:=Aside0.mk (HTA4.out.fro hf);clear hi hf ht)
    |(go_at_call 97;(with_reducible refine (codes_calls w0 g v5 s mx (table LB (table LA x3)) LA LB ta tb _ HS.out HMX.out HOT.out HOKT.out both_e HI5.out (HTA5.out.imp (fun h=>(table_e (table_e h).1).1)) (HTB5.out.imp (fun h=>(table_e h).1))).mono ?_);rintro e w6 ⟨v6,rfl,hi,hf⟩;have HI6:=Aside0.mk hi;have HF6:=Aside0.mk (HF5.out.trans hf);clear hi hf))
   exact bodyPost_ret (v:=.bool (decide (a=1))) (by simp [results,Try.results72,go_sem]) rfl ⟨v6,rfl,by rw [HR2.out,both_eq];exact HI6.out,HF6.out⟩
end Go.Proofs.Ytpbhkdamkbopkaa.Inf
namespace Go.Proofs.Ytpbhkdamkbopkaa.Inf
set_option linter.unusedSimpArgs false
set_option linter.unusedVariables false
open Go.RowKit Go.Proofs.Ytpbhkdamkbopkaa.Ext Go.Proofs.Ytpbhkdamkbopkaa.RefP Go.Proofs.YtpbhkdamkbopkaaW.PrintWords Go.Proofs.YtpbhkdamkbopkaaW.PrintLast Go.Proofs.YtpbhkdamkbopkaaW.PrintMore
set_option maxRecDepth 100000 in
set_option maxHeartbeats 8000000 in
theorem raw_calls (s : ByteArray) (mx : Int) (w : World) (hs : s.size ≤ 17592186044416) :
  Calls Try.prog 44 #[.string s,.int .i64 mx] w fun e w'=>e=.returned (.tuple #[.string (raw s mx).1,.int .i64 (raw s mx).2.1,.int .i64 (raw s mx).2.2])∧Below w.heap.size w w':=by
 have HB0:=Aside0.mk (Below.refl w.heap.size w);by_cases c1:mx < 0
 ·have d1:decide (mx < 0)=true:=decide_eq_true c1;have hres:raw s mx=(⟨#[]⟩,0,1):=by unfold raw;rw [if_pos (.inl c1)]
  rw [hres];go_enter Try.func44,Try.ntmps44;go_wp2;exact bodyPost_ret (v:=.tuple #[.string ⟨#[]⟩,.int .i64 0,.int .i64 1]) (by simp [results,Try.results44,go_sem]) rfl ⟨rfl,HB0.out⟩
 have d1:decide (mx < 0)=false:=decide_eq_false c1;by_cases c2:mx > 262144
 ·have d2:decide (mx > 262144)=true:=decide_eq_true c2;have hres:raw s mx=(⟨#[]⟩,0,1):=by unfold raw;rw [if_pos (.inr c2)]
  rw [hres];go_enter Try.func44,Try.ntmps44;go_wp2;exact bodyPost_ret (v:=.tuple #[.string ⟨#[]⟩,.int .i64 0,.int .i64 1]) (by simp [results,Try.results44,go_sem]) rfl ⟨rfl,HB0.out⟩
 have d2:decide (mx > 262144)=false:=decide_eq_false c2;obtain ⟨X,hX⟩:∃ X,X=blocks s mx (8*s.size+2) ⟨0,[],0⟩:=⟨_,rfl⟩;have hres:raw s mx=if X.e=0 then (strOfNums X.o,(X.p+7) / 8,0) else (⟨#[]⟩,0,X.e):=by unfold raw;rw [if_neg (fun h=>h.elim c1 c2),hX]
 obtain ⟨r,hr0⟩:∃ r,r=raw s mx:=⟨_,rfl⟩;rw [← hr0] at hres ⊢;obtain ⟨r1,r2,r3⟩:=r;simp only;have HRES:=Aside0.mk hres;have HX:=Aside0.mk hX;clear hr0;have HMX:Aside0 (0≤mx∧mx≤262144):=⟨by omega⟩;have HS:=Aside0.mk hs;have HSB:Aside0 (s.size≤140737488351232):=⟨by omega⟩;have HI0:Aside0 (ISt w w.heap.size (.slice none 0 0) s mx ⟨0,[],0⟩ (w.alloc (.cells #[.string s,.int .i64 0,.slice none 0 0,.int .i64 mx,.int .i64 0] 113))):=⟨⟨heap_alloc_new _ _,Kd.R_nil _ _ _ _ _,Nat.le_refl _,below_alloc (Below.refl _ _) _⟩⟩;obtain ⟨W1,hW1⟩:∃ W1,W1=w.alloc (.cells #[.string s,.int .i64 0,.slice none 0 0,.int .i64 mx,.int .i64 0] 113):=⟨_,rfl⟩;clear hX hres hs;go_enter Try.func44,Try.ntmps44;go_upto_region 3 with fail
 clear c1 c2 d1 d2;go_wp2;rw [← hW1] at HI0 ⊢;have hpre:Aside0 (ISt w w.heap.size (.slice none 0 0) s mx ⟨0,[],0⟩ W1):=HI0;clear hW1 HI0;obtain ⟨g,hg⟩:∃ g,g=w.heap.size:=⟨_,rfl⟩;rw [← hg] at hpre ⊢;have HG:=Aside0.mk hg;clear hg
 go_loopw [18] (fun v18 w'=>∃ (k:Nat) (y:St) (v1:Value),Aside0 (blocks s mx k y=X)∧Aside0 (left s y≤k)∧Aside0 (Ok s y)∧Aside0 ((y.o.length:Int)≤mx)∧Aside0 (ISt w g v1 s mx y w')∧Aside0 (y.e=0)) (fun v18 w'=>imeas s g w')
 case atStart=>exact ⟨8*s.size+2,⟨0,[],0⟩,.slice none 0 0,⟨HX.out.symm⟩,⟨by unfold left;show (8*(s.size:Int)+1 - 0).toNat+1≤_;omega⟩,⟨⟨Int.le_refl _,by show (0:Int)≤_;omega,.inl rfl⟩⟩,⟨HMX.out.1⟩,hpre,⟨rfl⟩⟩
 clear hpre HX;obtain ⟨k,y,v1,HE,HK,HOK,HO,HI,HE0⟩:=hrel;obtain ⟨t,z,hz⟩:∃ t z,block s mx y=(t,z):=⟨_,_,rfl⟩;have HZ:=Aside0.mk hz;obtain ⟨ha,hb⟩:=Aft.block (mx:=mx) HSB.out HOK.out;rw [hz] at ha hb;have HA:=Aside0.mk ha;have HAP:=Aside0.mk hb;obtain ⟨k1,hk1⟩:∃ k1,k=k1+1:=⟨k - 1,by have:=HK.out;unfold left at this;omega⟩;have hX2:X=if t=true then z else if z.e=0 then blocks s mx k1 z else z:=by rw [← HE.out,hk1];show (if (block s mx y).1=true then _ else _)=_;rw [hz]
 have HX2:=Aside0.mk hX2;clear hz ha hb hX2;cases t
 ·by_cases c1:z.e=0
  ·have d1:(z.e == 0)=true:=by rw [c1];rfl
   have hX3:=HX2.out;rw [if_neg (by decide),if_pos c1] at hX3;have HX3:=Aside0.mk hX3;have HK1:Aside0 (left s z≤k1):=⟨by have h1:=HK.out;have h2:=HAP.out c1;have h3:=HOK.out.p1;simp only at h2;unfold left at *;omega⟩;clear hX3;(go_wp2_with (go_at_call 72;(with_reducible refine (block_calls w g v1 s mx y _ HS.out HMX.out HO.out HOK.out HI.out).mono ?_);rw [HZ.out];rintro e w3 ⟨v3,rfl,hi,hf⟩;have HI3:=Aside0.mk hi;have hc4:=hi.c4;clear hi hf))
   go_roundw
   case rel=>exact ⟨k1,z,v3,⟨HX3.out.symm⟩,HK1,⟨HA.out.ok⟩,⟨HA.out.o HO.out⟩,HI3,⟨c1⟩⟩
   case measure=>exact meas_less2 HI.out HI3.out HE0.out HA.out.p HAP.out HOK.out.p1
  ·have d1:(z.e == 0)=false:=beq_eq_false_iff_ne.2 c1;(have d2:(z.e != 0)=true:=by simpa using c1);have hX3:=HX2.out;rw [if_neg (by decide),if_neg c1] at hX3;have HX3:=Aside0.mk hX3;clear hX3;have hr:=HRES.out;rw [HX3.out,if_neg c1] at hr;(injection hr with hr1 hr2);(injection hr2 with hr2 hr3);subst hr1;subst hr2;subst hr3;(go_upto_region 6 with (go_at_call 72;(with_reducible refine (block_calls w g v1 s mx y _ HS.out HMX.out HO.out HOK.out HI.out).mono ?_);rw [HZ.out];rintro e w3 ⟨v3,rfl,hi,hf⟩;have HI3:=Aside0.mk hi;have hc4:=hi.c4;clear hi hf))
   go_quiet (fail)
   generalize hw9:World.drewN _ _=w9;have HI9:Aside0 (ISt w g v3 s mx z w9):=⟨by rw [← hw9];exact HI3.out.below (pw_below_drewN (Below.refl _ _) _)⟩;clear hw9;go_wp2;exact bodyPost_ret (v:=.tuple #[.string ⟨#[]⟩,.int .i64 0,.int .i64 z.e]) (by simp [results,Try.results44,go_sem]) rfl ⟨rfl,HI9.out.bl⟩
 ·have hX3:=HX2.out;rw [if_pos rfl] at hX3;have HX3:=Aside0.mk hX3;clear hX3;have hr:=HRES.out;rw [HX3.out] at hr;by_cases c1:z.e=0
  ·have d2:(z.e != 0)=false:=by rw [c1];rfl
   rw [if_pos c1] at hr;(injection hr with hr1 hr2);(injection hr2 with hr2 hr3);subst hr1;subst hr2;subst hr3;(go_upto_region 7 with (go_at_call 72;(with_reducible refine (block_calls w g v1 s mx y _ HS.out HMX.out HO.out HOK.out HI.out).mono ?_);rw [HZ.out];rintro e w3 ⟨v3,rfl,hi,hf⟩;have HI3:=Aside0.mk hi;have hc4:=hi.c4;clear hi hf));obtain ⟨A,c,hv3⟩:=Kd.R_slice HI3.out.row;subst hv3;have hc1:=HI3.out.c1;have hc2:=HI3.out.c2;have hzp:=HA.out.ok.p0;have hzq:=HA.out.ok.p1;have hss:=HS.out;have hw7:wrap64 (z.p+7)=z.p+7:=wrap_in (by omega) (by omega);have hcv:∀ n,(Go.convert 40 9 (.slice A z.o.length c)).run Try.prog (World.drewN w3 n)=Go.Result.ok (.string (strOfNums z.o)) (World.drewN w3 n):=fun n=>Kd.C_string (P:=Try.prog) Try.underlying40 Try.underlying5 Try.underlying9 (Kd.R_reads' (Kd.R_below HI3.out.row (pw_below_drewN (Below.refl _ _) n))).2.2;have hdv:Int.tdiv (z.p+7) 8=(z.p+7) / 8:=Int.tdiv_eq_ediv_of_nonneg (by omega);have hw8:wrap64 ((z.p+7) / 8)=(z.p+7) / 8:=wrap_in (by omega) (by omega);have HDV:=Aside0.mk hdv;have HW8:=Aside0.mk hw8;clear hss hdv hw8 hzp hzq
   go_quiet (fail)
   rw [HDV.out,HW8.out];generalize hw9:World.drewN _ _=w9;have HI9:Aside0 (ISt w g _ s mx z w9):=⟨by rw [← hw9];exact HI3.out.below (pw_below_drewN (Below.refl _ _) _)⟩;clear hw9;go_wp2;exact bodyPost_ret (v:=.tuple #[.string (strOfNums z.o),.int .i64 ((z.p+7) / 8),.int .i64 0]) (by simp [results,Try.results44,go_sem]) rfl ⟨rfl,HI9.out.bl⟩
  ·have d2:(z.e != 0)=true:=by simpa using c1
   rw [if_neg c1] at hr;(injection hr with hr1 hr2);(injection hr2 with hr2 hr3);subst hr1;subst hr2;subst hr3;(go_upto_region 6 with (go_at_call 72;(with_reducible refine (block_calls w g v1 s mx y _ HS.out HMX.out HO.out HOK.out HI.out).mono ?_);rw [HZ.out];rintro e w3 ⟨v3,rfl,hi,hf⟩;have HI3:=Aside0.mk hi;have hc4:=hi.c4;clear hi hf))
   go_quiet (fail)
   generalize hw9:World.drewN _ _=w9;have HI9:Aside0 (ISt w g v3 s mx z w9):=⟨by rw [← hw9];exact HI3.out.below (pw_below_drewN (Below.refl _ _) _)⟩;clear hw9;go_wp2;exact bodyPost_ret (v:=.tuple #[.string ⟨#[]⟩,.int .i64 0,.int .i64 z.e]) (by simp [results,Try.results44,go_sem]) rfl ⟨rfl,HI9.out.bl⟩
end Go.Proofs.Ytpbhkdamkbopkaa.Inf
namespace Go.Proofs.Ytpbhkdamkbopkaa.Wr2
open Go.RowKit Go.Proofs.Ytpbhkdamkbopkaa.Inf Go.Proofs.YtpbhkdamkbopkaaW.PrintWords Go.Proofs.YtpbhkdamkbopkaaW.PrintLast Go.Proofs.YtpbhkdamkbopkaaW.PrintMore
/-- inflate.Raw,in the form in which the other texts call it. -/
def inflate_Raw.f (a0:ByteArray) (a1:Int):Option (ByteArray × Int × Int):=if a0.size≤17592186044416 then some (raw a0 a1) else none
theorem inflate_Raw.calls (a0 : ByteArray) (a1 : Int) (r1 : ByteArray) (r2 : Int) (r3 : Int) (w : World) (h : inflate_Raw.f a0 a1 = some (r1, r2, r3)) :
  Calls Try.prog 44 #[.string a0,.int .i64 a1] w fun e w'=>e=.returned (.tuple #[.string r1,.int .i64 r2,.int .i64 r3])∧Below w.heap.size w w':=by
 unfold inflate_Raw.f at h;by_cases h0:a0.size≤17592186044416
 ·rw [if_pos h0] at h;have e:=Option.some.inj h;have hh:=raw_calls a0 a1 w h0;rw [e] at hh;exact hh
 ·rw [if_neg h0] at h;exact absurd h (by simp)
end Go.Proofs.Ytpbhkdamkbopkaa.Wr2
namespace Go.Proofs.Ytpbhkdamkbopkaa.Wr
set_option linter.unusedSimpArgs false
set_option linter.unusedVariables false
open Go.RowKit Go.Proofs.YtpbhkdamkbopkaaW.PrintWords Go.Proofs.YtpbhkdamkbopkaaW.PrintLast Go.Proofs.YtpbhkdamkbopkaaW.PrintMore
theorem w64 {n:Int} (h0:-9223372036854775808≤n) (h1:n≤9223372036854775807):wrap64 n=n:=by unfold wrap64;omega
/-- A bit more,m being laid down. -/
def put1 (o:List Int) (m:Nat) (b:Int):List Int:=if m % 8=0 then o ++ [b] else o.set (o.length - 1) (o.getD (o.length - 1) 0+b*2 ^ (m % 8))
/-- The bytes of bits: in the reverse of the bits' order,that a proof may go by the last one. -/
def pkr:List Int → List Int
 |[]=>[]
 |b :: t=>put1 (pkr t) t.length b
/-- The bytes of bits. -/
def pk (B:List Int):List Int:=pkr B.reverse
theorem pk_nil:pk []=[]:=rfl
theorem pk_snoc (B:List Int) (b:Int):pk (B ++ [b])=put1 (pk B) B.length b:=by
 unfold pk;rw [List.reverse_append];simp [pkr]
/-- Bits: 0 or 1. -/
def Bits (B:List Int):Prop:=∀ b ∈ B,0≤b∧b≤1
theorem Bits.append {B C:List Int} (h:Bits B) (k:Bits C):Bits (B ++ C):=fun b hb=>by
 rcases List.mem_append.1 hb with hb | hb
 ·exact h b hb
 ·exact k b hb
theorem pkr_len (B:List Int):(pkr B).length=(B.length+7) / 8:=by
 induction B with
 |nil=>rfl
 |cons b t ih =>
  simp only [pkr,put1]
  split
  ·rw [List.length_append,ih,List.length_cons,List.length_cons,List.length_nil];omega
  ·rw [List.length_set,ih,List.length_cons];omega
theorem pk_len (B:List Int):(pk B).length=(B.length+7) / 8:=by rw [pk,pkr_len,List.length_reverse]
theorem pow_rng (m:Nat) (h:m≤7):(1:Int)≤2 ^ m∧(2:Int) ^ m≤128:=by
 match m,h with
 |0,_=>decide
 |1,_=>decide
 |2,_=>decide
 |3,_=>decide
 |4,_=>decide
 |5,_=>decide
 |6,_=>decide
 |7,_=>decide
/-- Each byte is one;the last one has no more than its bits. -/
theorem pkr_rng (B:List Int) (h:∀ b ∈ B,0≤b∧b≤1):(∀ x ∈ pkr B,0≤x∧x≤255)∧(B.length % 8 ≠ 0 → 0≤(pkr B).getD ((pkr B).length - 1) 0∧(pkr B).getD ((pkr B).length - 1) 0 < 2 ^ (B.length % 8)):=by
 induction B with
 |nil=>exact ⟨fun x hx=>absurd hx (by simp [pkr]),fun h=>absurd rfl h⟩
 |cons b t ih =>
  obtain ⟨i0,i1⟩:=ih (fun x hx=>h x (by simp [hx]));have hb:=h b (by simp);have hl:=pkr_len t;simp only [pkr,put1];by_cases hm:t.length % 8=0
  ·rw [if_pos hm];refine ⟨fun x hx=>?_,fun _=>?_⟩
   ·rcases List.mem_append.1 hx with hx | hx
    ·exact i0 x hx
    ·rw [List.mem_singleton.1 hx];omega
   ·have e : (pkr t ++ [b]).getD ((pkr t ++ [b]).length - 1) 0 = b := by
     rw [List.length_append,List.getD_eq_getElem?_getD];simp
    rw [e,List.length_cons,show (t.length+1) % 8=1 by omega];omega
  rw [if_neg hm];obtain ⟨j0,j1⟩:=i1 hm;have hlen:(pkr t).length - 1 < (pkr t).length:=by omega
  have hp:=pow_rng (t.length % 8) (by omega)
  have hq:b*2 ^ (t.length % 8)≤2 ^ (t.length % 8)∧0≤b*2 ^ (t.length % 8):=by
   rcases (show b=0 ∨ b=1 by omega) with rfl | rfl
   ·rw [Int.zero_mul];omega
   ·rw [Int.one_mul];omega
  generalize (pkr t).getD ((pkr t).length - 1) 0=z at *;refine ⟨fun x hx=>?_,fun hn=>?_⟩
  ·rcases List.mem_or_eq_of_mem_set hx with hx | rfl
   ·exact i0 x hx
   ·omega
  ·have e : ((pkr t).set ((pkr t).length - 1) (z + b * 2 ^ (t.length % 8))).getD (((pkr t).set ((pkr t).length - 1) (z + b * 2 ^ (t.length % 8))).length - 1) 0 = z + b * 2 ^ (t.length % 8) := by
    rw [List.length_set,List.getD_eq_getElem?_getD,List.getElem?_set,if_pos rfl,if_pos hlen];rfl
   rw [e,List.length_cons,show (t.length+1) % 8=t.length % 8+1 by rw [List.length_cons] at hn;omega,Int.pow_succ];omega
theorem pk_rng {B:List Int} (h:Bits B):(∀ x ∈ pk B,0≤x∧x≤255)∧(B.length % 8 ≠ 0 → 0≤(pk B).getD ((pk B).length - 1) 0∧(pk B).getD ((pk B).length - 1) 0 < 2 ^ (B.length % 8)):=by
 have:=pkr_rng B.reverse (fun b hb=>h b (by simpa using hb));rw [List.length_reverse] at this;exact this
/-- How many bits of the last byte are free. -/
def fr (m:Nat):Int:=(8 - (m % 8:Nat)) % 8
/-- Bit i of a number. -/
def bit (v:Int) (i:Nat):Int:=v / 2 ^ i % 2
theorem bit_rng (v:Int) (i:Nat):0≤bit v i∧bit v i≤1:=by unfold bit;omega
/-- A number's bits,the lowest first. -/
def nb (v:Int) (n:Nat):List Int:=(List.range n).map (bit v)
theorem nb_succ (v:Int) (n:Nat):nb v (n+1)=nb v n ++ [bit v n]:=by unfold nb;rw [List.range_succ,List.map_append];rfl
theorem nb_len (v:Int) (n:Nat):(nb v n).length=n:=by unfold nb;simp
theorem nb_bits (v:Int) (n:Nat):Bits (nb v n):=fun b hb=>by
 obtain ⟨i,_,rfl⟩:=List.mem_map.1 hb;exact bit_rng v i
end Go.Proofs.Ytpbhkdamkbopkaa.Wr
namespace Go.Proofs.Ytpbhkdamkbopkaa.Wr
set_option linter.unusedSimpArgs false
set_option linter.unusedVariables false
open Go.RowKit Go.Proofs.YtpbhkdamkbopkaaW.PrintWords Go.Proofs.YtpbhkdamkbopkaaW.PrintLast Go.Proofs.YtpbhkdamkbopkaaW.PrintMore
theorem info5w:(Try.prog.info? 5).map (fun i=>(i.zero,i.size,i.bytes))=some (some (.int .u8 0),1,1):=by kernel_rfl
/-- A writer in memory. -/
structure WSt (w0:World) (g:Nat) (v:Value) (o:List Int) (f:Int) (w:World):Prop where
 blk:w.heap[g]?=some (.cells #[v,.int .i64 f] 103 (0,0))
 row:Kd.R (Kd.int .u8) 5 w w0.heap.size (fun k=>k ≠ g) v o
 hg:w0.heap.size≤g
 bl:Below w0.heap.size w0 w
/-- What else is in memory stays. -/
structure Fro (w:World) (g:Nat) (v:Value) (w':World) (v':Value):Prop where
 keep:KeepBut w w' g v.ownBlock
 own:v'.ownBlock=v.ownBlock ∨ ∃ b,v'.ownBlock=some b∧w.heap.size≤b
theorem Fro.refl (w:World) (g:Nat) (v:Value):Fro w g v w v:=⟨KeepBut.refl _ _ _,.inl rfl⟩
theorem Fro.trans {w w1 w2:World} {g:Nat} {v v1 v2:Value} (h:Fro w g v w1 v1) (k:Fro w1 g v1 w2 v2):Fro w g v w2 v2 :=
 ⟨h.keep.trans k.keep h.own,by
  rcases k.own with e | ⟨b,e,hb⟩
  ·rw [e];exact h.own
  ·exact .inr ⟨b,e,Nat.le_trans h.keep.1 hb⟩⟩
/-- The bytes with room for a bit more. -/
structure Mid (o1:List Int) (p q:Nat) (C:List Int) (m:Nat):Prop where
 len:o1.length=p+1
 rng:0≤o1.getD p 0∧o1.getD p 0 < 2 ^ q
 put:∀ b,o1.set p (o1.getD p 0+b*2 ^ q)=put1 (pk C) m b
theorem mid_zero {C:List Int} {m:Nat} (h:m % 8=0):Mid (pk C ++ [0]) (pk C).length 0 C m:=by
 refine ⟨by simp,by simp,fun b=>?_⟩;unfold put1;rw [if_pos h];simp
theorem mid_pos {C:List Int} {m p:Nat} (hC:Bits C) (hm:m=C.length) (h:m % 8 ≠ 0) (hp:p+1=(pk C).length):Mid (pk C) p (m % 8) C m:=by
 have hr:=(pk_rng hC).2 (by rw [← hm];exact h);have e:(pk C).length - 1=p:=by omega
 rw [e,← hm] at hr;refine ⟨hp.symm,hr,fun b=>?_⟩;unfold put1;rw [if_neg h,e]
theorem or_all:∀ q:Fin 8,∀ z:Fin 128,z.val < 2 ^ q.val → Go.bits .or .u8 (z.val:Int) ((2 ^ q.val:Nat):Int)=(z.val:Int)+((2 ^ q.val:Nat):Int):=by decide +kernel
theorem or_none:∀ z:Fin 128,Go.bits .or .u8 (z.val:Int) 0=(z.val:Int):=by decide +kernel
/-- What a bit more makes of the last byte. -/
theorem or_bit {v z : Int} {k q : Nat} (hv0 : 0 ≤ v) (hv1 : v ≤ 1000000) (hq : q ≤ 7) (hz0 : 0 ≤ z) (hz1 : z < 2 ^ q) :
    Go.bits .or .u8 z (wrap64 (Go.bits .and .i64 (v / 2 ^ k) 1*2 ^ q) % 256)=z+bit v k*2 ^ q:=by
  have hd0:0≤v / 2 ^ k:=Int.ediv_nonneg hv0 (Int.le_of_lt (Int.pow_pos (by decide)));have hd1:v / 2 ^ k≤v:=Int.ediv_le_self _ hv0;have hm:Go.bits .and .i64 (v / 2 ^ k) 1=bit v k:=bits_mask .i64 40 (by decide) (fun n h₀ h₁=>by rw [IntKind.wrap_i64];omega) 1 (by decide) _ hd0 (by omega);have hp:=pow_rng q hq;obtain ⟨zn,rfl⟩:=Int.eq_ofNat_of_zero_le hz0;have hzn:zn < 128:=by omega
  rw [hm];have hb:=bit_rng v k
  rcases (show bit v k=0 ∨ bit v k=1 by omega) with e | e
  · rw [e,Int.zero_mul,w64 (by decide) (by decide),Int.add_zero];exact or_none ⟨zn,hzn⟩
  · rw [e,Int.one_mul,w64 (by omega) (by omega),Int.emod_eq_of_lt (by omega) (by omega)];(have hc:((2 ^ q:Nat):Int)=(2:Int) ^ q:=by norm_cast)
    have := or_all ⟨q, by omega⟩ ⟨zn, hzn⟩ (by show zn < 2 ^ q; have : (zn : Int) < ((2 ^ q : Nat) : Int) := by rw [hc]; exact hz1
                                               omega)
    simp only at this;rw [hc] at this;exact this
theorem fr_next {m q:Nat} (h:q=m % 8):(8 - (q:Int)) - 1=fr (m+1):=by unfold fr;omega
theorem row_form {w:World} {base:Nat} {ok:Nat → Prop} {v:Value} {xs:List Int} (h:Kd.R (Kd.int .u8) 5 w base ok v xs) (hn:0 < xs.length):∃ go cap,v=.slice (some ⟨go,0,none⟩) xs.length cap∧ok go∧base≤go:=by
 obtain ⟨inner,ho⟩:=Kd.R_own h
 rcases ho.2 with ⟨_,h0⟩ | ⟨g,cap,cur,rfl,hb,_⟩
 ·omega
 ·exact ⟨g,cap,rfl,h.1 g rfl,hb⟩
set_option maxRecDepth 100000 in
set_option maxHeartbeats 1000000 in
theorem bits_calls (w0 : World) (g : Nat) (v0 : Value) (B : List Int) (v : Int) (n : Nat) (w : World) (h : WSt w0 g v0 (pk B) (fr B.length) w) (hB : Bits B) (hv0 : 0 ≤ v) (hv1 : v ≤ 1000000) (hn : n ≤ 16) (hl : B.length ≤ 1000000000) :
  Calls Try.prog 63 #[.pointer (some ⟨g,0,none⟩),.int .i64 v,.int .i64 n] w fun e w'=>∃ v1,e=.returned (.tuple #[])∧WSt w0 g v1 (pk (B ++ nb v n)) (fr (B ++ nb v n).length) w'∧Fro w g v0 w' v1:=by
 have HH:=Aside0.mk h;have HB:=Aside0.mk hB;clear h hB;go_enter Try.func63,Try.ntmps63;go_wp2
 go_loopw [8] (fun v8 w'=>∃ (k:Nat) (v1:Value),k≤n∧v8=.int .i64 k∧Aside0 (WSt w0 g v1 (pk (B ++ nb v k)) (fr (B ++ nb v k).length) w')∧Aside0 (Fro w g v0 w' v1)) (fun v8 _=>n - (intOf v8).toNat)
 case atStart=>exact ⟨0,v0,Nat.zero_le _,rfl,⟨by simpa [nb] using HH.out⟩,⟨Fro.refl _ _ _⟩⟩
 clear HH;obtain ⟨k,v1,hk,rfl,HW,HF⟩:=hrel;by_cases hlt:k < n;rotate_left
 ·have hdec:decide ((k:Int) < n)=false:=decide_eq_false (by omega);obtain rfl:k=n:=by omega
  go_wp2;exact bodyPost_end (v:=.tuple #[]) (by simp [results,Try.results63,go_sem]) rfl ⟨v1,rfl,HW.out,HF.out⟩
 have hdec:decide ((k:Int) < n)=true:=decide_eq_true (by omega);obtain ⟨C,hC⟩:∃ C,C=B ++ nb v k:=⟨_,rfl⟩;obtain ⟨m,hm⟩:∃ m,m=C.length:=⟨_,rfl⟩;have hml:m=B.length+k:=by rw [hm,hC,List.length_append,nb_len]
 have HC:Aside0 (Bits C):=⟨by rw [hC];exact HB.out.append (nb_bits _ _)⟩;have HP:Aside0 (pk (B ++ nb v (k+1))=put1 (pk C) m (bit v k)∧(B ++ nb v (k+1)).length=m+1):=⟨by rw [hC,nb_succ,← List.append_assoc,pk_snoc,← hC,hm];exact ⟨rfl,by simp⟩⟩;rw [← hC,← hm] at HW;have HM:=Aside0.mk hm;clear hC hm;obtain ⟨q,hq⟩:∃ q,q=m % 8:=⟨_,rfl⟩;have hq7:q≤7:=by omega
 have HQ:=Aside0.mk hq;clear hq;by_cases hz:q=0
 focus
  have hf:fr m=0:=by unfold fr;rw [← HQ.out,hz];rfl
  rw [hf] at HW;clear hf;have hc0:wr.cell? ⟨g,0,none⟩=some v1:=(blk_cell HW.out.blk 0).trans rfl;have hc1:wr.cell? ⟨g,1,none⟩=some (.int .i64 0):=(blk_cell HW.out.blk 1).trans rfl;go_wp2_with ((with_reducible refine gate_builtin (b:=.append) (xs:=#[.tmp 20,.tmp 21]) rfl ?_);at_builtin;refine Kd.R_append (Kd.int .u8) (w0:=w0) w0.heap.size rfl (.tmp 20) (.tmp 21) 40 5 (.int .u8 0) 1 rfl Try.underlying40 info5w rfl (by decide) (by decide) v1 (pk C) 0 [.int .u8 0] (fun k=>k ≠ g) (fun _=>False) rfl rfl ?aP (fun _ hk=>hk.elim) ?aF ?aO ?aB ?aS ?aL ?_;(case aP=>exact rfl);(case aF=>exact fun k_ hk_ e_=>by have:=blk_lt HW.out.blk;omega);(case aO=>exact HW.out.row);(case aB=>exact HW.out.bl);(case aS=>exact below_size HW.out.bl);(case aL=>rw [pk_len,← HM.out];omega);intro v5 w5 hr5 hb5 hg5 hn5;obtain ⟨go,cp,rfl,hgo,hgb⟩:=row_form hr5 (by simp);have HGO:=Aside0.mk hgo;clear hgo;have HR5:=Aside0.mk hr5;have HB5:=Aside0.mk hb5;have HG5:=Aside0.mk hg5;have HN5:=Aside0.mk hn5;have BK5:=Aside0.mk (blk_grown HW.out.blk hg5 (Kd.R_ne HW.out.row HW.out.blk (by decide)));clear hr5 hb5 hg5 hn5;have hc5:w5.cell? ⟨g,0,none⟩=some v1:=(blk_cell BK5.out 0).trans rfl;have hf5:=blk_frozen BK5.out 0;have hc6:w5.cell? ⟨g,1,none⟩=some (.int .i64 0):=(blk_cell BK5.out 1).trans rfl;have hf6:=blk_frozen BK5.out 1)
  obtain ⟨p,hp⟩:∃ p,p=(pk C).length:=⟨_,rfl⟩;have hpb:p≤1000000000:=by have:=pk_len C;rw [← HM.out] at this;omega
  have HM1:Aside0 (Mid (pk C ++ [0]) p q C m):=⟨by rw [hp,hz];exact mid_zero (by rw [← HQ.out,hz])⟩;have e1:(pk C ++ [0]).length=p+1:=by rw [hp];simp
  rw [e1] at HR5 HN5;rw [← hp] at ⊢
  have HW2:Aside0 (WSt w0 g (.slice (some ⟨go,0,none⟩) (p+1) cp) (pk C ++ [0]) 8 ((w5.setCell ⟨g,0,none⟩ (.slice (some ⟨go,0,none⟩) (p+1) cp)).setCell ⟨g,1,none⟩ (.int .i64 8))) :=
   ⟨blk_put (blk_put BK5.out 0 _ rfl) 1 _ rfl,Kd.R_far (p:=⟨g,1,none⟩) (Kd.R_far (p:=⟨g,0,none⟩) HR5.out (fun _ hk=>hk) _) (fun _ hk=>hk) _,HW.out.hg,below_set (below_set HB5.out HW.out.hg) HW.out.hg⟩
  have HF2:Aside0 (Fro w g v0 ((w5.setCell ⟨g,0,none⟩ (.slice (some ⟨go,0,none⟩) (p+1) cp)).setCell ⟨g,1,none⟩ (.int .i64 8)) (.slice (some ⟨go,0,none⟩) (p+1) cp)):=⟨HF.out.trans ⟨((KeepBut.of_grown HG5.out g).set_ 0 _).set_ 1 _,HN5.out⟩⟩;obtain ⟨w2,hw2⟩:∃ w2,w2=((w5.setCell ⟨g,0,none⟩ (.slice (some ⟨go,0,none⟩) (p+1) cp)).setCell ⟨g,1,none⟩ (.int .i64 8)):=⟨_,rfl⟩;rw [← hw2] at HW2 HF2 ⊢;obtain ⟨f1,hf1⟩:∃ f1:Int,f1=8:=⟨_,rfl⟩;rw [← hf1] at HW2;replace hf1:f1=8 - (q:Int):=by rw [hf1,hz];rfl
  obtain ⟨o1,ho1⟩:∃ o1,o1=pk C ++ [0]:=⟨_,rfl⟩;rw [← ho1] at HW2 HM1;clear hw2 ho1 e1 hp HR5 HN5 HB5 HG5 BK5 hc5 hf5 hc6 hf6 hc0 hc1 HW HF hz
 rotate_left
 focus
  have hm1:1≤m:=by have:=HQ.out;omega
  obtain ⟨go,cp,rfl,hgo,hgb⟩:=row_form HW.out.row (by rw [pk_len,← HM.out];omega);have HGO:=Aside0.mk hgo;clear hgo;obtain ⟨p,hp⟩:∃ p,p+1=(pk C).length:=⟨(pk C).length - 1,by have:=pk_len C;rw [← HM.out] at this;omega⟩;have hpb:p≤1000000000:=by have:=pk_len C;rw [← HM.out] at this;omega
  have HM1:Aside0 (Mid (pk C) p q C m):=⟨by rw [HQ.out];exact mid_pos HC.out HM.out (by rw [← HQ.out];exact hz) hp⟩;rw [← hp] at HW HF;obtain ⟨f1,hf1⟩:∃ f1:Int,f1=fr m:=⟨_,rfl⟩;rw [← hf1] at HW;replace hf1:f1=8 - (q:Int):=by rw [hf1];unfold fr;rw [← HQ.out];omega
  have hb8:1≤f1∧f1≤8:=by omega
  have hb0:(f1 == 0)=false:=beq_eq_false_iff_ne.2 (by omega);have HF1:=Aside0.mk hf1;clear hf1;have hc1:wr.cell? ⟨g,1,none⟩=some (.int .i64 f1):=(blk_cell HW.out.blk 1).trans rfl;go_wp2_with fail
  have hf1:=HF1.out;obtain ⟨w2,hw2⟩:∃ w2,w2=wr:=⟨_,rfl⟩;subst hw2;obtain ⟨o1,ho1⟩:∃ o1,o1=pk C:=⟨_,rfl⟩;have HW2:=HW;have HF2:=HF;rw [← ho1] at HW2 HM1;clear ho1 hp hc1 HW HF hz hm1 HF1 hb0 hb8
 all_goals
  have hb8:1≤f1∧f1≤8:=by omega
  obtain ⟨hb81,hb82⟩:=hb8;have HF1:=Aside0.mk hf1;clear hf1;have hl1:o1.length=p+1:=HM1.out.len;obtain ⟨z,hz⟩:∃ z,z=o1.getD p 0:=⟨_,rfl⟩
  have hcz:w2.cell? ⟨go,p,none⟩=some (.int .u8 z)∧w2.frozen? ⟨go,p,none⟩=false:=by
   have:=Kd.R_celln (0:Int) HW2.out.row (p:Int) (by omega) (by omega);rw [Int.toNat_natCast] at this;rw [hz];exact this
  obtain ⟨hcz,hfz⟩:=hcz;have HZ:=Aside0.mk hz;clear hz hl1;obtain ⟨L,hL⟩:∃ L,L=p+1:=⟨_,rfl⟩;rw [← hL] at HW2 HF2;have hw1:IntKind.i64.wrap ((L:Int) - 1)=(p:Int):=by rw [i64_w,hL];unfold wrap64;omega
  have hs1:IntKind.i64.wrap (8 - f1)=(q:Int):=by rw [i64_w,HF1.out];unfold wrap64;omega
  have hp0:(0:Int)≤(p:Int):=Int.natCast_nonneg p;have hp1:(p:Int) < (L:Int):=by omega
  have hp2:p < L:=by omega
  have hq0:(0:Int)≤(q:Int):=Int.natCast_nonneg q;have hk0:(0:Int)≤(k:Int):=Int.natCast_nonneg k;have HL:=Aside0.mk hL;clear hL;have hca:w2.cell? ⟨g,0,none⟩=some (.slice (some ⟨go,0,none⟩) L cp):=(blk_cell HW2.out.blk 0).trans rfl;have hcb:w2.cell? ⟨g,1,none⟩=some (.int .i64 f1):=(blk_cell HW2.out.blk 1).trans rfl;have hne:¬ go=g:=HGO.out;have hne':¬ g=go:=fun e=>HGO.out e.symm
  go_still_tail 25,(by kernel_rfl)
  change wpList _ _ _ _ _ w2.drew;have HW3:Aside0 (WSt w0 g (.slice (some ⟨go,0,none⟩) L cp) o1 f1 w2.drew):=⟨⟨HW2.out.blk,HW2.out.row,HW2.out.hg,below_drew1 HW2.out.bl⟩⟩;have HF3:Aside0 (Fro w g v0 w2.drew (.slice (some ⟨go,0,none⟩) L cp)):=⟨⟨HF2.out.keep,HF2.out.own⟩⟩;replace hcz:w2.drew.cell? ⟨go,p,none⟩=some (.int .u8 z):=hcz;replace hfz:w2.drew.frozen? ⟨go,p,none⟩=false:=hfz;clear hca hcb HW2 HF2;generalize w2.drew=w3 at HW3 HF3 hcz hfz ⊢;have hcb:w3.cell? ⟨g,1,none⟩=some (.int .i64 f1):=(blk_cell HW3.out.blk 1).trans rfl;have hfb:w3.frozen? ⟨g,1,none⟩=false:=blk_frozen HW3.out.blk 1;go_wp2;have hr:=HM1.out.rng;rw [← HZ.out] at hr;have e1:=or_bit (k:=k) hv0 hv1 hq7 hr.1 hr.2;rw [e1];have hset:o1.set p (z+bit v k*2 ^ q)=pk (B ++ nb v (k+1)):=by rw [HP.out.1,← HM1.out.put,HZ.out]
  have hput:=Kd.R_putg HW3.out.row (p:Int) (z+bit v k*2 ^ q);rw [Int.toNat_natCast,hset] at hput;have hfn:f1 - 1=fr (B ++ nb v (k+1)).length:=by rw [HP.out.2,HF1.out];exact fr_next HQ.out
  rw [hfn];refine ⟨⟨k+1,_,by omega,by go_num,⟨⟨blk_put (blk_far HW3.out.blk hne' _) 1 _ rfl,Kd.R_far (p:=⟨g,1,none⟩) hput.1 (fun _ hk=>hk) _,HW3.out.hg,below_set (below_set HW3.out.bl hgb) HW3.out.hg⟩⟩,⟨HF3.out.trans ⟨(KeepBut.of_grown hput.2 g).set_ 1 _,.inl rfl⟩⟩⟩,?_⟩;simp [intOf];omega
end Go.Proofs.Ytpbhkdamkbopkaa.Wr
namespace Go.Proofs.Ytpbhkdamkbopkaa.Wr
set_option linter.unusedSimpArgs false
set_option linter.unusedVariables false
open Go.RowKit Go.Proofs.YtpbhkdamkbopkaaW.PrintWords Go.Proofs.YtpbhkdamkbopkaaW.PrintLast Go.Proofs.YtpbhkdamkbopkaaW.PrintMore
/-- A code's bits,the highest first. -/
def cb (v:Int) (n:Nat):List Int:=(List.range n).map fun j=>bit v (n - 1 - j)
theorem cb_len (v:Int) (n:Nat):(cb v n).length=n:=by unfold cb;simp
theorem cb_bits (v:Int) (n:Nat):Bits (cb v n):=fun b hb=>by
 obtain ⟨i,_,rfl⟩:=List.mem_map.1 hb;exact bit_rng v _
theorem cb_take (v:Int) {n i:Nat} (h:i+1≤n):(cb v n).take (n - i)=(cb v n).take (n - (i+1)) ++ [bit v i]:=by
 have hl:=cb_len v n;rw [show n - i=n - (i+1)+1 by omega,List.take_succ_eq_append_getElem (by omega)]
 congr 2
 unfold cb;simp
 congr 1
 omega
theorem Bits.take {B:List Int} (h:Bits B) (k:Nat):Bits (B.take k):=fun b hb=>h b (List.mem_of_mem_take hb)
theorem bits_one (w0 : World) (g : Nat) (v0 : Value) (B : List Int) (b : Int) (w : World) (h : WSt w0 g v0 (pk B) (fr B.length) w) (hB : Bits B) (hb : 0 ≤ b ∧ b ≤ 1) (hl : B.length ≤ 1000000000) :
  Calls Try.prog 63 #[.pointer (some ⟨g,0,none⟩),.int .i64 b,.int .i64 1] w fun e w'=>∃ v1,e=.returned (.tuple #[])∧WSt w0 g v1 (pk (B ++ [b])) (fr (B ++ [b]).length) w'∧Fro w g v0 w' v1:=by
 have:=bits_calls w0 g v0 B b 1 w h hB hb.1 (by omega) (by decide) hl
 have e:nb b 1=[b]:=by
  unfold nb bit;simp;omega
 rw [e] at this;exact this
set_option maxHeartbeats 1000000 in
theorem code_calls (w0 : World) (g : Nat) (v0 : Value) (B : List Int) (v : Int) (n : Nat) (w : World) (h : WSt w0 g v0 (pk B) (fr B.length) w) (hB : Bits B) (hv0 : 0 ≤ v) (hv1 : v ≤ 1000000) (hn : n ≤ 16) (hl : B.length ≤ 1000000000 - 16) :
  Calls Try.prog 90 #[.pointer (some ⟨g,0,none⟩),.int .i64 v,.int .i64 n] w fun e w'=>∃ v1,e=.returned (.tuple #[])∧WSt w0 g v1 (pk (B ++ cb v n)) (fr (B ++ cb v n).length) w'∧Fro w g v0 w' v1:=by
 have HH:=Aside0.mk h;have HB:=Aside0.mk hB;clear h hB;go_enter Try.func90,Try.ntmps90;go_wp2
 go_loopw [6] (fun v6 w'=>∃ (r:Nat) (v1:Value),r≤n∧v6=.int .i64 ((r:Int) - 1)∧Aside0 (WSt w0 g v1 (pk (B ++ (cb v n).take (n - r))) (fr (B ++ (cb v n).take (n - r)).length) w')∧Aside0 (Fro w g v0 w' v1)) (fun v6 _=>(intOf v6+1).toNat)
 case atStart=>exact ⟨n,v0,Nat.le_refl _,rfl,⟨by simpa using HH.out⟩,⟨Fro.refl _ _ _⟩⟩
 clear HH;obtain ⟨r,v1,hr,rfl,HW,HF⟩:=hrel;cases r with
 |zero =>
  rw [show (((0:Nat):Int) - 1)=-1 from rfl];go_wp2;have hx:=HW.out;rw [Nat.sub_zero,List.take_of_length_le (by rw [cb_len];exact Nat.le_refl _)] at hx;exact bodyPost_end (v:=.tuple #[]) (by simp [results,Try.results90,go_sem]) rfl ⟨v1,rfl,hx,HF.out⟩
 |succ i =>
  rw [show (((i+1:Nat):Int) - 1)=(i:Int) by omega];have hd0:0≤v / 2 ^ i:=Int.ediv_nonneg hv0 (Int.le_of_lt (Int.pow_pos (by decide)));have hd1:v / 2 ^ i≤v:=Int.ediv_le_self _ hv0;have hm:Go.bits .and .i64 (v / 2 ^ i) 1=bit v i:=bits_mask .i64 40 (by decide) (fun n h₀ h₁=>by rw [IntKind.wrap_i64];omega) 1 (by decide) _ hd0 (by omega);have hk0:(0:Int)≤(i:Int):=Int.natCast_nonneg i;clear hd0 hd1;obtain ⟨C,hC⟩:∃ C,C=B ++ (cb v n).take (n - (i+1)):=⟨_,rfl⟩;have HC:Aside0 (Bits C):=⟨by rw [hC];exact HB.out.append ((cb_bits _ _).take _)⟩;have HN:Aside0 (B ++ (cb v n).take (n - i)=C ++ [bit v i]):=⟨by rw [cb_take v (by omega),hC,List.append_assoc]⟩
  have hcl:C.length≤1000000000:=by
   rw [hC,List.length_append,List.length_take,cb_len];omega
  rw [← hC] at HW;clear hC;go_wp2_with (go_at_call 63;refine (bits_one w0 g v1 C (bit v i) _ HW.out HC.out (bit_rng v i) hcl).mono ?_;rintro e w' ⟨v2,rfl,hw2,hf2⟩;have HW2:=Aside0.mk hw2;have HF2:=Aside0.mk hf2;clear hw2 hf2)
  go_roundw
  case rel=>exact ⟨i,v2,by omega,rfl,⟨by rw [HN.out];exact HW2.out⟩,⟨HF.out.trans HF2.out⟩⟩
  case measure=>simp [intOf]
/-- A symbol's bits,by the fixed code. -/
def sc (s:Int):List Int:=if s < 144 then cb (48+s) 8 else if s < 256 then cb (400+s - 144) 9 else if s < 280 then cb (s - 256) 7 else cb (192+s - 280) 8
theorem sc_bits (s:Int):Bits (sc s):=by unfold sc;(repeat' split) <;> exact cb_bits _ _
theorem sc_len (s:Int):(sc s).length≤9:=by unfold sc;(repeat' split) <;> rw [cb_len] <;> decide
theorem symbol_calls (w0 : World) (g : Nat) (v0 : Value) (B : List Int) (s : Int) (w : World) (h : WSt w0 g v0 (pk B) (fr B.length) w) (hB : Bits B) (hs0 : 0 ≤ s) (hs1 : s ≤ 300) (hl : B.length ≤ 1000000000 - 16) :
  Calls Try.prog 64 #[.pointer (some ⟨g,0,none⟩),.int .i64 s] w fun e w'=>∃ v1,e=.returned (.tuple #[])∧WSt w0 g v1 (pk (B ++ sc s)) (fr (B ++ sc s).length) w'∧Fro w g v0 w' v1:=by
 have HH:=Aside0.mk h;have HB:=Aside0.mk hB;clear h hB;by_cases c1:s < 144
 ·have d1:decide (s < 144)=true:=decide_eq_true c1;have HE:Aside0 (sc s=cb (48+s) 8):=⟨by unfold sc;rw [if_pos c1]⟩;go_enter Try.func64,Try.ntmps64;go_wp2_with (go_at_call 90;refine (code_calls w0 g v0 B (48+s) 8 _ HH.out HB.out (by omega) (by omega) (by decide) hl).mono ?_;rintro e w' ⟨v2,rfl,hw2,hf2⟩;have HW2:=Aside0.mk hw2;have HF2:=Aside0.mk hf2;clear hw2 hf2)
  exact bodyPost_end (v:=.tuple #[]) (by simp [results,Try.results64,go_sem]) rfl ⟨v2,rfl,by rw [HE.out];exact HW2.out,HF2.out⟩
 have d1:decide (s < 144)=false:=decide_eq_false c1;by_cases c2:s < 256
 ·have d2:decide (s < 256)=true:=decide_eq_true c2;have HE:Aside0 (sc s=cb (400+s - 144) 9):=⟨by unfold sc;rw [if_neg c1,if_pos c2]⟩;go_enter Try.func64,Try.ntmps64;go_wp2_with (go_at_call 90;refine (code_calls w0 g v0 B (400+s - 144) 9 _ HH.out HB.out (by omega) (by omega) (by decide) hl).mono ?_;rintro e w' ⟨v2,rfl,hw2,hf2⟩;have HW2:=Aside0.mk hw2;have HF2:=Aside0.mk hf2;clear hw2 hf2)
  exact bodyPost_end (v:=.tuple #[]) (by simp [results,Try.results64,go_sem]) rfl ⟨v2,rfl,by rw [HE.out];exact HW2.out,HF2.out⟩
 have d2:decide (s < 256)=false:=decide_eq_false c2;by_cases c3:s < 280
 ·have d3:decide (s < 280)=true:=decide_eq_true c3;have HE:Aside0 (sc s=cb (s - 256) 7):=⟨by unfold sc;rw [if_neg c1,if_neg c2,if_pos c3]⟩;go_enter Try.func64,Try.ntmps64;go_wp2_with (go_at_call 90;refine (code_calls w0 g v0 B (s - 256) 7 _ HH.out HB.out (by omega) (by omega) (by decide) hl).mono ?_;rintro e w' ⟨v2,rfl,hw2,hf2⟩;have HW2:=Aside0.mk hw2;have HF2:=Aside0.mk hf2;clear hw2 hf2)
  exact bodyPost_end (v:=.tuple #[]) (by simp [results,Try.results64,go_sem]) rfl ⟨v2,rfl,by rw [HE.out];exact HW2.out,HF2.out⟩
 have d3:decide (s < 280)=false:=decide_eq_false c3;have HE:Aside0 (sc s=cb (192+s - 280) 8):=⟨by unfold sc;rw [if_neg c1,if_neg c2,if_neg c3]⟩;go_enter Try.func64,Try.ntmps64;go_wp2_with (go_at_call 90;refine (code_calls w0 g v0 B (192+s - 280) 8 _ HH.out HB.out (by omega) (by omega) (by decide) hl).mono ?_;rintro e w' ⟨v2,rfl,hw2,hf2⟩;have HW2:=Aside0.mk hw2;have HF2:=Aside0.mk hf2;clear hw2 hf2)
 exact bodyPost_end (v:=.tuple #[]) (by simp [results,Try.results64,go_sem]) rfl ⟨v2,rfl,by rw [HE.out];exact HW2.out,HF2.out⟩
end Go.Proofs.Ytpbhkdamkbopkaa.Wr
namespace Go.Proofs.Ytpbhkdamkbopkaa.Wr
set_option linter.unusedSimpArgs false
set_option linter.unusedVariables false
open Go.RowKit Go.Proofs.YtpbhkdamkbopkaaW.PrintWords Go.Proofs.YtpbhkdamkbopkaaW.PrintLast Go.Proofs.YtpbhkdamkbopkaaW.PrintMore
theorem raw0_bits:pk ((([] ++ [1]) ++ nb 1 2) ++ sc 256)=[3,0]:=by decide +kernel
theorem WSt.below {w0:World} {g:Nat} {v:Value} {o:List Int} {f:Int} {w w':World} (h:WSt w0 g v o f w) (hb:Below w.heap.size w w'):WSt w0 g v o f w' :=
 ⟨blk_below h.blk hb,Kd.R_below h.row hb,h.hg,below_step h.bl hb⟩
theorem bits_two (w0 : World) (g : Nat) (v0 : Value) (B : List Int) (v : Int) (w : World) (h : WSt w0 g v0 (pk B) (fr B.length) w) (hB : Bits B) (hv0 : 0 ≤ v) (hv1 : v ≤ 1000000) (hl : B.length ≤ 1000000000) :
  Calls Try.prog 63 #[.pointer (some ⟨g,0,none⟩),.int .i64 v,.int .i64 2] w fun e w'=>∃ v1,e=.returned (.tuple #[])∧WSt w0 g v1 (pk (B ++ nb v 2)) (fr (B ++ nb v 2).length) w'∧Fro w g v0 w' v1 :=
 bits_calls w0 g v0 B v 2 w h hB hv0 hv1 (by decide) hl
set_option maxRecDepth 100000 in
set_option maxHeartbeats 1000000 in
theorem raw0_calls (w:World):Calls Try.prog 39 #[.string ⟨#[]⟩] w fun e w'=>e=.returned (.tuple #[.string (strOfNums [3,0]),.int .i64 0])∧Below w.heap.size w w':=by
 have E0:Aside0 (Bits []):=⟨fun b hb=>absurd hb (by simp)⟩;have E1:Aside0 (Bits ([] ++ [1])):=⟨fun b hb=>by simp at hb;omega⟩;have E2:Aside0 ((0:Int)≤1∧(1:Int)≤1):=⟨by decide⟩;have E3:Aside0 (([]:List Int).length≤1000000000):=⟨by decide⟩;have E4:Aside0 ((0:Int)≤1):=⟨by decide⟩;have E5:Aside0 ((1:Int)≤1000000):=⟨by decide⟩;have E6:Aside0 ((([]:List Int) ++ [1]).length≤1000000000):=⟨by decide⟩;have hmm:=@run_makeMap Try.prog;go_enter Try.func39,Try.ntmps39
 go_upto_region 8 with (first
  |((with_reducible refine gate_dst (N:=17) rfl ?_);refine box_event ?hg (N:=17) ?hd (cs:=#[.slice none 0 0,.int .i64 0]) (t:=103) ?hr ?_;(case hd=>rfl);(case hg=>rfl);(case hr=>first | (go_simp;done) | (go_simp;rfl));intro g hg w1 hx hb;have H0:Aside0 (WSt w g (.slice none 0 0) (pk []) (fr ([]:List Int).length) w1):=⟨⟨hx,Kd.R_nil _ _ _ _ _,Nat.le_of_eq hg.symm,hb⟩⟩;clear hx hb hg)
  |(go_at_call 63;(with_reducible refine (bits_one w g _ [] 1 _ H0.out E0.out E2.out E3.out).mono ?_);rintro e w' ⟨v2,rfl,hw2,hf2⟩;have H1:=Aside0.mk hw2;clear hw2 hf2)
  |(go_at_call 63;(with_reducible refine (bits_two w g _ ([] ++ [1]) 1 _ H1.out E1.out E4.out E5.out E6.out).mono ?_);rintro e w' ⟨v3,rfl,hw2,hf2⟩;have H2:=Aside0.mk hw2;clear hw2 hf2))
 have H3:Aside0 (WSt w g v3 _ _ _):=⟨H2.out.below (below_alloc (Below.refl _ _) (.map #[] 0))⟩;generalize World.alloc _ (.map #[] 0)=w4 at H3 ⊢;go_wp2
 go_loopw [6] (fun v6 w'=>v6=.int .i64 0∧Aside0 (WSt w g v3 (pk (([] ++ [1]) ++ nb 1 2)) (fr (([] ++ [1]) ++ nb 1 2).length) w')) (fun v6 _=>0)
 case atStart=>exact ⟨rfl,H3⟩
 obtain ⟨rfl,H4⟩:=hrel;have E7:Aside0 (Bits (([] ++ [1]) ++ nb 1 2)):=⟨E1.out.append (nb_bits _ _)⟩;have E8:Aside0 ((0:Int)≤256):=⟨by decide⟩;have E9:Aside0 ((256:Int)≤300):=⟨by decide⟩;have E10:Aside0 ((([] ++ [1]) ++ nb 1 2).length≤1000000000 - 16):=⟨by decide⟩;go_wp2_with (go_at_call 64;(with_reducible refine (symbol_calls w g _ (([] ++ [1]) ++ nb 1 2) 256 _ H4.out E7.out E8.out E9.out E10.out).mono ?_);rintro e w' ⟨v5,rfl,hw2,hf2⟩;rw [raw0_bits] at hw2;have H5:=Aside0.mk hw2;clear hw2 hf2;obtain ⟨A5,c5,e5⟩:=Kd.R_slice H5.out.row;subst e5;have hc5:w'.cell? ⟨g,0,none⟩=some (.slice A5 2 c5):=(blk_cell H5.out.blk 0).trans rfl;have hcv:=Kd.C_string (P:=Try.prog) (A:=A5) (n:=2) (c:=c5) (xs:=[3,0]) Try.underlying40 Try.underlying5 Try.underlying9 (Kd.R_reads' H5.out.row).2.2)
 go_ret2;exact ⟨rfl,H5.out.bl⟩
end Go.Proofs.Ytpbhkdamkbopkaa.Wr
namespace Go.Proofs.Ytpbhkdamkbopkaa.Sq
set_option linter.unusedSimpArgs false
set_option linter.unusedVariables false
open Go.RowKit Go.Proofs.YtpbhkdamkbopkaaW.PrintWords Go.Proofs.YtpbhkdamkbopkaaW.PrintLast Go.Proofs.YtpbhkdamkbopkaaW.PrintMore
section
variable {w w1 w2 W0:World} {g g2:Nat} {o:Obj} {t:TypeId} {cs cs':Array Value}
theorem bb (h : Aside0 (w.heap[g]? = some o)) (hb : Below w1.heap.size w1 w2)
  (e:w.heap[g]?=some o → w1.heap[g]?=some o:=by intro h_;repeat (first | with_reducible exact h_ | with_reducible refine blk_drewN ?_ _ | with_reducible refine blk_drew ?_ | with_reducible refine blk_alloc ?_ _ | refine blk_far ?_ (Aside0.out (by assumption)) _ | exact h_)):Aside0 (w2.heap[g]?=some o):=⟨blk_below (e h.out) hb⟩
/-- A block of cells of which something holds. -/
def Pt (w:World) (g:Nat) (t:TypeId) (k:Array Value → Prop):Prop:=∃ cs,w.heap[g]?=some (.cells cs t (0,0))∧k cs
variable {k:Array Value → Prop}
theorem Pt.drewN (h:Pt w g t k) (n:Nat):Pt (w.drewN n) g t k:=h
theorem Pt.drew (h:Pt w g t k):Pt w.drew g t k:=h
theorem Pt.alloc (h:Pt w g t k) (o:Obj):Pt (w.alloc o) g t k:=by obtain ⟨c,h1,h2⟩:=h;exact ⟨c,blk_alloc h1 o,h2⟩
theorem Pt.far (h:Pt w g t k) {p:Addr} (hp:g ≠ p.block) (u:Value):Pt (w.setCell p u) g t k:=by obtain ⟨c,h1,h2⟩:=h;exact ⟨c,blk_far h1 hp u,h2⟩
theorem Pt.put {i:Nat} {u:Value} (h:Pt w g t (fun c=>k (c.setIfInBounds i u))):Pt (w.setCell ⟨g,i,none⟩ u) g t k:=by obtain ⟨c,h1,h2⟩:=h;exact ⟨_,blk_put h1 i u rfl,h2⟩
theorem Pt.end_ (h:Pt w g t (fun c=>c=cs')):w.heap[g]?=some (.cells cs' t (0,0)):=by obtain ⟨c,h1,rfl⟩:=h;exact h1
theorem bp (cs' : Array Value) (h : Aside0 (w.heap[g]? = some (.cells cs t (0, 0)))) (hb : Below w1.heap.size w1 w2)
  (e:w.heap[g]?=some (.cells cs t (0,0)) → w1.heap[g]?=some (.cells cs' t (0,0)):=by intro h_;refine Pt.end_ ?_;(repeat (first | with_reducible refine Pt.drewN ?_ _ | with_reducible refine Pt.drew ?_ | with_reducible refine Pt.alloc ?_ _ | with_reducible refine Pt.put ?_ | refine Pt.far ?_ (Aside0.out (by assumption)) _));exact ⟨_,h_,rfl⟩):Aside0 (w2.heap[g]?=some (.cells cs' t (0,0))):=⟨blk_below (e h.out) hb⟩
theorem bq (h : Aside0 (w.heap[g]? = some (.cells cs t (0, 0))))
  (e:w.heap[g]?=some (.cells cs t (0,0)) → w1.heap[g]?=some (.cells cs' t (0,0)):=by intro h_;refine Pt.end_ ?_;(repeat (first | with_reducible refine Pt.drewN ?_ _ | with_reducible refine Pt.drew ?_ | with_reducible refine Pt.alloc ?_ _ | with_reducible refine Pt.put ?_ | refine Pt.far ?_ (Aside0.out (by assumption)) _));exact ⟨_,h_,rfl⟩):w1.heap[g]?=some (.cells cs' t (0,0)):=e h.out
theorem hs (h : Aside0 (Below W0.heap.size W0 w)) (hb : Below w1.heap.size w1 w2)
  (e:Below W0.heap.size W0 w → Below W0.heap.size W0 w1:=by intro h_;repeat (first | with_reducible exact h_ | with_reducible apply below_alloc | with_reducible apply pw_below_drewN | with_reducible apply below_drew1 | refine below_set ?_ (Aside0.out (by assumption)) | exact h_)):Aside0 (Below W0.heap.size W0 w2):=⟨below_step (e h.out) hb⟩
theorem hn (h : Aside0 (Below W0.heap.size W0 w))
  (e:Below W0.heap.size W0 w → Below W0.heap.size W0 w1:=by intro h_;repeat (first | with_reducible exact h_ | with_reducible apply below_alloc | with_reducible apply pw_below_drewN | with_reducible apply below_drew1 | refine below_set ?_ (Aside0.out (by assumption)) | exact h_)):Below W0.heap.size W0 w1:=e h.out
theorem gs (h : Aside0 (Below W0.heap.size W0 w)) (hg : g = w1.heap.size)
  (e:Below W0.heap.size W0 w → Below W0.heap.size W0 w1:=by intro h_;repeat (first | with_reducible exact h_ | with_reducible apply below_alloc | with_reducible apply pw_below_drewN | with_reducible apply below_drew1 | refine below_set ?_ (Aside0.out (by assumption)) | exact h_)):Aside0 (W0.heap.size≤g):=⟨by rw [hg];exact below_size (e h.out)⟩
theorem sz_drewN {a:Nat} (h:a≤w.heap.size) (n:Nat):a≤(w.drewN n).heap.size:=h
theorem sz_drew {a:Nat} (h:a≤w.heap.size):a≤w.drew.heap.size:=h
theorem sz_alloc {a:Nat} (h:a≤w.heap.size) (o:Obj):a≤(w.alloc o).heap.size:=Nat.le_trans h (by show _≤(w.heap.push o).size;simp)
theorem sz_set {a:Nat} (h:a≤w.heap.size) (p:Addr) (u:Value):a≤(w.setCell p u).heap.size:=by simpa [World.setCell] using h
theorem nl (h:Aside0 (w.heap[g]?=some o)) (hg:g2=w1.heap.size) (e:w.heap.size≤w1.heap.size:=by repeat (first | with_reducible exact Nat.le_refl _ | with_reducible refine sz_drewN ?_ _ | with_reducible refine sz_drew ?_ | with_reducible refine sz_alloc ?_ _ | with_reducible refine sz_set ?_ _ _)):Aside0 (g ≠ g2):=⟨by have:=blk_lt h.out;omega⟩
theorem ng (h:Aside0 (w.heap[g]?=some o)) (hg:g2=w1.heap.size) (e:w.heap.size≤w1.heap.size:=by repeat (first | with_reducible exact Nat.le_refl _ | with_reducible refine sz_drewN ?_ _ | with_reducible refine sz_drew ?_ | with_reducible refine sz_alloc ?_ _ | with_reducible refine sz_set ?_ _ _)):Aside0 (g2 ≠ g):=⟨by have:=blk_lt h.out;omega⟩
theorem rk {α : Type} {d : Kd α} {e : TypeId} {base : Nat} {ok : Nat → Prop} {v : Value} {xs : List α} (h : Aside0 (d.R e w base ok v xs)) (hb : Below w1.heap.size w1 w2)
  (e1:d.R e w base ok v xs → d.R e w1 base ok v xs:=by intro h_;(with_reducible repeat (first | apply Kd.R_alloc | apply Kd.R_drewN | apply Kd.R_drew));exact h_):Aside0 (d.R e w2 base ok v xs):=⟨Kd.R_below (e1 h.out) hb⟩
end
section
variable {w:World} {g:Nat} {t:TypeId} {a b c d:Value}
theorem cc2 (h:Aside0 (w.heap[g]?=some (.cells #[a,b] t (0,0)))):w.cell? ⟨g,0,none⟩=some a∧w.cell? ⟨g,1,none⟩=some b:=⟨(blk_cell h.out 0).trans rfl,(blk_cell h.out 1).trans rfl⟩
theorem cc3 (h:Aside0 (w.heap[g]?=some (.cells #[a,b,c] t (0,0)))):w.cell? ⟨g,0,none⟩=some a∧w.cell? ⟨g,1,none⟩=some b∧w.cell? ⟨g,2,none⟩=some c:=⟨(blk_cell h.out 0).trans rfl,(blk_cell h.out 1).trans rfl,(blk_cell h.out 2).trans rfl⟩
theorem cc4 (h:Aside0 (w.heap[g]?=some (.cells #[a,b,c,d] t (0,0)))):w.cell? ⟨g,0,none⟩=some a∧w.cell? ⟨g,1,none⟩=some b∧w.cell? ⟨g,2,none⟩=some c∧w.cell? ⟨g,3,none⟩=some d:=⟨(blk_cell h.out 0).trans rfl,(blk_cell h.out 1).trans rfl,(blk_cell h.out 2).trans rfl,(blk_cell h.out 3).trans rfl⟩
theorem ff2 {cs:Array Value} (h:Aside0 (w.heap[g]?=some (.cells cs t (0,0)))):w.frozen? ⟨g,0,none⟩=false∧w.frozen? ⟨g,1,none⟩=false:=⟨blk_frozen h.out 0,blk_frozen h.out 1⟩
theorem ff3 {cs:Array Value} (h:Aside0 (w.heap[g]?=some (.cells cs t (0,0)))):w.frozen? ⟨g,0,none⟩=false∧w.frozen? ⟨g,1,none⟩=false∧w.frozen? ⟨g,2,none⟩=false:=⟨blk_frozen h.out 0,blk_frozen h.out 1,blk_frozen h.out 2⟩
theorem ff4 {cs:Array Value} (h:Aside0 (w.heap[g]?=some (.cells cs t (0,0)))):w.frozen? ⟨g,0,none⟩=false∧w.frozen? ⟨g,1,none⟩=false∧w.frozen? ⟨g,2,none⟩=false∧w.frozen? ⟨g,3,none⟩=false:=⟨blk_frozen h.out 0,blk_frozen h.out 1,blk_frozen h.out 2,blk_frozen h.out 3⟩
end
section
variable {P:Program} {ops:Array Oper} {rest:List Oper} {o:Oper} {a:Act} {Q:Exit → Act → World → Prop}
theorem boxQ {W : World} (N : Tmp) (cs : Array Value) (t : TypeId)
  (h:∀ g,g=W.heap.size → ∀ w1,w1.heap[g]?=some (.cells cs t (0,0)) → Below W.heap.size W w1 → wpList P ops Q rest (a.put o.dst (.pointer (some ⟨g,0,none⟩))) w1)
  (hd:o.dst=some N:=by rfl) (hgd:o.guard=none:=by rfl)
  (hrun:(execOp a.eval o).run P W=.ok (.value (.pointer (some ⟨W.heap.size,0,none⟩))) (W.alloc (.cells cs t (0,0))):=by first | (go_simp;done) | (go_simp;rfl)):wpList P ops Q (o :: rest) a W:=box_event hgd hd hrun h
theorem goesQ {w : World} (N : Option Tmp) {f : FuncId} {fn : Func} (hf : P.funcs[f]? = some fn) {az : Array Operand} {ts : Array TypeId} (args : Array Value)
  (h:Calls P f args w fun e w'=>∃ v,e=.returned v∧wpList P ops Q rest (a.put N v) w')
  (hd:o.dst=N:=by rfl) (hg:o.guard=none:=by rfl) (hop:o.op=.call { callee:=.value (.func f),args:=az,argTypes:=ts }:=by rfl)
  (hname : (fn.name == "runtime.NumGoroutine") = false := by kernel_rfl) (hb : fn.body.isSome = true := by rfl)
  (hargs:az.map a.eval=args:=by (try simp only [List.map_toArray,List.map_cons,List.map_nil]);first | done | rfl | (simp only [List.length_drop,List.length_take];rfl)):wpList P ops Q (o :: rest) a w :=
 goesL_ N hd hg hf hname hb args hop hargs h
end
section
variable {P:Program} {ops:Array Oper} {Q:Exit → Act → World → Prop} {md:Region.Mode} {S:World → Prop} {ds:List Nat}
theorem pureQ (i : Nat) (N : Option Tmp) {oi : Oper} {v : Value} {fuel : Nat} {l : Array Bool} {a : Act} {w : World} (l' : Array Bool) (hc : anyB md ops l l' i = true) {a' : Act} (h : wpAnyLast P md ops Q S ds fuel l' a' w)
  (hi:ops[i]?=some oi:=by rfl) (hN:oi.dst=N:=by rfl) (hQ:∀ c a w,Q (.panic c) (a.put oi.dst v) w → Q (.panic c) a w:=by exact fun _ _ _ h=>h)
  (hy:Yields P ops oi v a:=by exact Or.inl ⟨by rfl,by intro w';go_simp;with_reducible rfl⟩) (ha:a.put N v=a':=by simp only [Act.put,List.setIfInBounds_toArray,List.set_cons_zero,List.set_cons_succ,i64_w,i32_w];rfl):wpAnyLast P md ops Q S ds (fuel+1) l a w :=
 pure_ l' hi hN hc hQ hy ha h
end
/-- So many are done,so many not. -/
def tk (n m:Nat):Array Bool:=(List.replicate n true ++ List.replicate m false).toArray
end Go.Proofs.Ytpbhkdamkbopkaa.Sq
