/- Parts of the proof, glued by a program of this session (wip/tools/claimfit.py). -/
import Derived.Test.YtpbhkdamkbopkaaMPPC
namespace Go.Proofs.Ytpbhkdamkbopkaa.Sq
set_option linter.unusedSimpArgs false
set_option linter.unusedVariables false
open Go.RowKit Go.Proofs.YtpbhkdamkbopkaaW.PrintWords Go.Proofs.YtpbhkdamkbopkaaW.PrintLast Go.Proofs.YtpbhkdamkbopkaaW.PrintMore
section
variable {W0 w w1 w2 w' W:World} {g g2:Nat} {t:TypeId} {cs:Array Value} {S:Nat → Prop}
theorem hk (h : Aside0 (Kept W w S))
  (e:Kept W w S → Kept W w1 S:=by intro h_;repeat (first | with_reducible exact h_ | with_reducible apply Kept.alloc | with_reducible apply Kept.drewN | with_reducible apply Kept.drew | refine Kept.setCell ?_ (.inr (Aside0.out (by assumption))) _ | exact h_)):Kept W w1 S:=e h.out
theorem hz (h:Aside0 (Kept W w S)) (e:w.heap.size≤w1.heap.size:=by repeat (first | with_reducible exact Nat.le_refl _ | with_reducible refine sz_drewN ?_ _ | with_reducible refine sz_drew ?_ | with_reducible refine sz_alloc ?_ _ | with_reducible refine sz_set ?_ _ _ | exact Nat.le_refl _)):W.heap.size≤w1.heap.size:=Nat.le_trans h.out.1 e
theorem bk {o : Obj} (h : Aside0 (w.heap[g]? = some o))
  (e:w.heap[g]?=some o → w1.heap[g]?=some o:=by intro h_;repeat (first | with_reducible exact h_ | with_reducible refine blk_drewN ?_ _ | with_reducible refine blk_drew ?_ | with_reducible refine blk_alloc ?_ _ | exact h_)):w1.heap[g]?=some o:=e h.out
variable {α β:Type} {d:Kd α} {d2:Kd β} {e e2 base base2:Nat} {ok ok2:Nat → Prop} {v v2:Value} {xs:List α} {ys:List β}
theorem rr (h : Aside0 (d.R e w base ok v xs))
  (e1:d.R e w base ok v xs → d.R e w1 base ok v xs:=by intro h_;(with_reducible repeat (first | apply Kd.R_alloc | apply Kd.R_drewN | apply Kd.R_drew));exact h_):d.R e w1 base ok v xs:=e1 h.out
theorem ka (ho : Aside0 (d.R e w base ok v xs)) (h2 : Aside0 (d2.R e2 w base2 ok2 v2 ys)) (hkp : Kept w1 w2 (fun k_ => some k_ = v2.ownBlock))
  (e1:d.R e w base (fun k=>ok k∧some k ≠ v2.ownBlock) v xs → d.R e w1 base (fun k=>ok k∧some k ≠ v2.ownBlock) v xs:=by intro h_;(with_reducible repeat (first | apply Kd.R_alloc | apply Kd.R_drewN | apply Kd.R_drew));exact h_)
  (hd:∀ q,q ∈ e :: d.E → q ≠ e2:=by decide):Aside0 (d.R e w2 base ok v xs):=⟨Kd.R_mono (Kd.R_keptB (e1 (Kd.R_apart' ho.out (Kd.R_typed h2.out) hd)) hkp (fun k hk hs=>hk.2 hs)) (fun k hk=>hk.1.1)⟩
theorem aR {m:Nat} (hq:w.drewN m=w') (h:Aside0 (d.R e w base ok v xs)):Aside0 (d.R e w' base ok v xs):=⟨Kd.R_at hq h.out⟩
theorem aB {m:Nat} {o:Obj} (hq:w.drewN m=w') (h:Aside0 (w.heap[g]?=some o)):Aside0 (w'.heap[g]?=some o):=⟨blk_at hq h.out⟩
theorem aW {m B:Nat} {u:World} (hq:w.drewN m=w') (h:Aside0 (Below B u w)):Aside0 (Below B u w'):=⟨below_at hq h.out⟩
end
section
variable {P:Program} {ops:Array Oper} {rest:List Oper} {o:Oper} {a:Act} {Q:Exit → Act → World → Prop}
theorem stQ {W : World} (t : TypeId) (p : Tmp) (w1 : World) (h : ∀ w', w' = w1 → wpList P ops Q rest a w') {v : Operand} (ho : o.op = .store t (.tmp p) v := by rfl) (hgd : o.guard = none := by rfl) (hN : o.dst = none := by rfl)
  (hrun:(execOp a.eval o).run P W=.ok .skip w1:=by first | (go_simp;done) | (go_simp;rfl)):wpList P ops Q (o :: rest) a W:=store_event hgd ho hN hrun h
end
end Go.Proofs.Ytpbhkdamkbopkaa.Sq
namespace Go.Proofs.Ytpbhkdamkbopkaa.Sq
set_option linter.unusedSimpArgs false
set_option linter.unusedVariables false
open Go.RowKit Go.Proofs.YtpbhkdamkbopkaaW.PrintWords Go.Proofs.YtpbhkdamkbopkaaW.PrintLast Go.Proofs.YtpbhkdamkbopkaaW.PrintMore
section
variable {P:Program} {ops:Array Oper} {Q:Exit → Act → World → Prop} {md:Region.Mode} {S:World → Prop} {ds:List Nat}
theorem normQ {fuel:Nat} {l:Array Bool} {a a':Act} {w:World} (h:wpAnyLast P md ops Q S ds fuel l a' w) (ha:a=a':=by show Act.put _ _ _=_;simp only [Act.put,List.setIfInBounds_toArray,List.set_cons_zero,List.set_cons_succ,i64_w,i32_w];rfl):wpAnyLast P md ops Q S ds fuel l a w:=norm_ ha h
theorem goesP {oi : Oper} {N : Option Tmp} {a : Act} {w : World} {K : Act → World → Prop} {f : FuncId} {fn : Func} {az : Array Operand} {ts : Array TypeId} (hf : P.funcs[f]? = some fn) (args : Array Value)
  (h : Calls P f args w fun e w' => ∃ v, e = .returned v ∧ K (a.put N v) w') (hname : (fn.name == "runtime.NumGoroutine") = false := by kernel_rfl) (hb : fn.body.isSome = true := by rfl)
  (hw:Region.wanted oi (yielded ops a.tmps)=true:=by rfl) (hN:oi.dst=N:=by rfl) (hop:oi.op=.call { callee:=.value (.func f),args:=az,argTypes:=ts }:=by rfl) (hargs:az.map a.eval=args:=by (try simp only [List.map_toArray,List.map_cons,List.map_nil]);first | done | rfl | (simp only [List.length_drop,List.length_take];rfl)) :
  if Region.wanted oi (yielded ops a.tmps)=true then Oper.wp P oi a w K Q else K (a.put N undef) w:=goes_ hf hname hb args hw hN hop hargs h
end
/-- What has been decided. -/
theorem pd {p:Prop} [Decidable p] (h:decide p=true:=by first | (with_reducible assumption) | assumption):p:=of_decide_eq_true h
theorem cc8 {w : World} {g g2 : Nat} {t t2 : TypeId} {a b c d a2 b2 c2 d2 : Value} (h : Aside0 (w.heap[g]? = some (.cells #[a, b, c, d] t (0, 0)))) (h2 : Aside0 (w.heap[g2]? = some (.cells #[a2, b2, c2, d2] t2 (0, 0)))) :
  w.cell? ⟨g,0,none⟩=some a∧w.cell? ⟨g,1,none⟩=some b∧w.cell? ⟨g,2,none⟩=some c∧w.cell? ⟨g,3,none⟩=some d∧w.cell? ⟨g2,0,none⟩=some a2∧w.cell? ⟨g2,1,none⟩=some b2∧w.cell? ⟨g2,2,none⟩=some c2∧w.cell? ⟨g2,3,none⟩=some d2 :=
 ⟨(cc4 h).1,(cc4 h).2.1,(cc4 h).2.2.1,(cc4 h).2.2.2,cc4 h2⟩
end Go.Proofs.Ytpbhkdamkbopkaa.Sq
namespace Go.Proofs.Ytpbhkdamkbopkaa.Wr0
open Go.RowKit Go.Proofs.Ytpbhkdamkbopkaa.Wr Go.Proofs.YtpbhkdamkbopkaaW.PrintWords Go.Proofs.YtpbhkdamkbopkaaW.PrintLast Go.Proofs.YtpbhkdamkbopkaaW.PrintMore
def deflate_Raw.f (a0:ByteArray):Option (ByteArray × Int):=if a0.size=0 then some (strOfNums [3,0],0) else none
theorem deflate_Raw.calls (a0 : ByteArray) (r1 : ByteArray) (r2 : Int) (w : World) (h : deflate_Raw.f a0 = some (r1, r2)) :
  Calls Try.prog 39 #[.string a0] w fun e w'=>e=.returned (.tuple #[.string r1,.int .i64 r2])∧Below w.heap.size w w':=by
 unfold deflate_Raw.f at h;by_cases h0:a0.size=0;rotate_left
 ·rw [if_neg h0] at h;cases h
 rw [if_pos h0] at h;simp only [Option.some.injEq,Prod.mk.injEq] at h;obtain ⟨rfl,rfl⟩:=h;obtain ⟨d⟩:=a0;have e:d=#[]:=Array.eq_empty_of_size_eq_zero h0;subst e;exact raw0_calls w
end Go.Proofs.Ytpbhkdamkbopkaa.Wr0
namespace Go.Proofs.Ytpbhkdamkbopkaa.GRuns
open Go.RowKit Go.Proofs.YtpbhkdamkbopkaaW.PrintWords Go.Proofs.YtpbhkdamkbopkaaW.PrintLast Go.Proofs.YtpbhkdamkbopkaaW.PrintMore Go.Proofs.Ytpbhkdamkbopkaa.Wr0
attribute [local go_sem] max2_int min2_int max_two min_two max_three min_three max_four min_four
set_option linter.unusedVariables false
set_option linter.unusedSimpArgs false
def errW:Option Int → Value
 |none=>.nilIface
 |some c=>.iface 0 (.int .i64 c)
theorem errW_none:errW none=.nilIface:=rfl
theorem errW_some (c:Int):errW (some c)=.iface 0 (.int .i64 c):=rfl
theorem info3:(Try.prog.info? 3).map (fun i=>(i.zero,i.size,i.bytes))=some (some (.int .i64 0),1,8):=by kernel_rfl
end Go.Proofs.Ytpbhkdamkbopkaa.GRuns
namespace Go.Proofs.Ytpbhkdamkbopkaa.GRuns
open Go.RowKit Go.Proofs.YtpbhkdamkbopkaaW.PrintWords Go.Proofs.YtpbhkdamkbopkaaW.PrintLast Go.Proofs.YtpbhkdamkbopkaaW.PrintMore Go.Proofs.Ytpbhkdamkbopkaa.Wr0
attribute [local go_sem] max2_int min2_int max_two min_two max_three min_three max_four min_four
set_option linter.unusedVariables false
set_option linter.unusedSimpArgs false
theorem eqA97 (d : Nat) (w : World) (x0 y0 : Int) (x1 y1 : Int) (x2 y2 : Int) :
  (Op.equalIn (d+2) 97 (.agg #[.int .u8 x0,.int .u8 x1,.int .u8 x2]) (.agg #[.int .u8 y0,.int .u8 y1,.int .u8 y2])).run Try.prog w=.ok (x0 == y0 && (x1 == y1 && (x2 == y2))) w:=by
 obtain ⟨i5,hi⟩:∃ i,Try.prog.info? 5=some i:=Option.isSome_iff_exists.mp (by kernel_rfl);have hz:Try.prog.cellsOf 5=1:=by kernel_rfl
 rw [run_equalIn_array w (d+1) (n:=3) (e:=5) _ _ (by kernel_rfl) hi];have e1:∀ (a b:Int),(Op.equalIn (d+1) 5 (.int .u8 a) (.int .u8 b)).run Try.prog w=.ok (a == b) w:=fun a b=>run_equalIn_int w d 5 .u8 .u8 a b (by kernel_rfl)
 have hp:∀ (a0 a1 a2:Int),(part 5 #[.int .u8 a0,.int .u8 a1,.int .u8 a2] 0).run Try.prog w=.ok (.int .u8 a0) w∧(part 5 #[.int .u8 a0,.int .u8 a1,.int .u8 a2] 1).run Try.prog w=.ok (.int .u8 a1) w∧(part 5 #[.int .u8 a0,.int .u8 a1,.int .u8 a2] 2).run Try.prog w=.ok (.int .u8 a2) w:=by
  intro a0 a1 a2;refine ⟨?_,?_,?_⟩ <;> go_simp
 simp only [hz,show List.range 3=[0,1,2] from rfl,Op.eqItems,Sem.run_bind,Nat.zero_mul,Nat.one_mul,Nat.mul_one,(hp x0 x1 x2).1,(hp x0 x1 x2).2.1,(hp x0 x1 x2).2.2,(hp y0 y1 y2).1,(hp y0 y1 y2).2.1,(hp y0 y1 y2).2.2,Result.andThen_ok,e1];cases h0:(x0 == y0) <;> cases h1:(x1 == y1) <;> cases h2:(x2 == y2) <;> simp [h0,h1,h2,Result.andThen_ok,(hp x0 x1 x2).2.1,(hp x0 x1 x2).2.2,(hp y0 y1 y2).2.1,(hp y0 y1 y2).2.2,e1]
end Go.Proofs.Ytpbhkdamkbopkaa.GRuns
namespace Go.Proofs.Ytpbhkdamkbopkaa.GRuns
open Go.Proofs.Ytpbhkdamkbopkaa.Sq
open Go.RowKit Go.Proofs.YtpbhkdamkbopkaaW.PrintWords Go.Proofs.YtpbhkdamkbopkaaW.PrintLast Go.Proofs.YtpbhkdamkbopkaaW.PrintMore Go.Proofs.Ytpbhkdamkbopkaa.Wr0
attribute [local go_sem] max2_int min2_int max_two min_two max_three min_three max_four min_four
set_option linter.unusedVariables false
set_option linter.unusedSimpArgs false
def deflate_at.f (a0:ByteArray) (a1:Int):Option (Int × Int × Int × Bool):=if a1 < 0 then (some (0,0,0,false)) else (if a1 > (wrap64 ((a0.size:Int) - 3)) then (some (0,0,0,false)) else (if 0≤a1 then (if a1 < (a0.size:Int) then (if 0≤(wrap64 (a1+1)) then (if (wrap64 (a1+1)) < (a0.size:Int) then (if 0≤(wrap64 (a1+2)) then (if (wrap64 (a1+2)) < (a0.size:Int) then (some (bt a0 a1,bt a0 (wrap64 (a1+1)),bt a0 (wrap64 (a1+2)),true)) else (none)) else (none)) else (none)) else (none)) else (none)) else (none)))
def deflate_at.T3:Bool × List (List Nat × List Nat):=(true,[([],[]),([],[]),([0,1],[0,1]),([],[]),([],[]),([4],[4]),([3,5],[3,5]),([],[]),([],[]),([8],[8]),([7,9],[7,9]),([2,6,10],[2,6,10]),([11,0,1,2,3,4,5,6,7,8,9,10,11],[11]),([12,0,1,2,3,4,5,6,7,8,9,10,11,12],[])])
def deflate_at.B3:List Nat:=[0,0,3,0,0,16,56,0,0,256,896,2047,4095,8191]
theorem deflate_at.tab3:rtab .any (opsOf Try.f61 3)=deflate_at.T3:=by kernel_rfl
theorem deflate_at.bits3:waitsOk deflate_at.T3.2 deflate_at.B3=true:=by kernel_rfl
set_option maxHeartbeats 8000000 in
set_option maxRecDepth 100000 in
theorem deflate_at.calls (a0 : ByteArray) (a1 : Int) (r1 : Int) (r2 : Int) (r3 : Int) (r4 : Bool) (w : World) (h : deflate_at.f a0 a1 = some (r1, r2, r3, r4)) :
  Calls Try.prog 61 #[.string a0,.int .i64 a1] w fun e w'=>e=.returned (.tuple #[.agg #[.int .u8 r1,.int .u8 r2,.int .u8 r3],.bool r4])∧Below w.heap.size w w':=by
 have hu97:=Try.underlying97;have HB:=Aside0.mk (Below.refl w.heap.size w);have H:=h;unfold deflate_at.f at H;clear h;by_cases c3:a1 < 0
 ·rw [if_pos c3] at H;have Qi:=decide_eq_true c3;clear c3;simp only [Option.some.injEq,Prod.mk.injEq] at H;obtain ⟨rfl,rfl,rfl,rfl⟩:=H;go_enter Try.func61,Try.ntmps61;go_wp2_with (first | ((with_reducible refine gate_dst (N:=4) rfl ?_);(try (refine gate_guard (by rfl) ?_;dsimp only));refine boxQ 4 #[.int .u8 0,.int .u8 0,.int .u8 0] 97 ?_;intro Qb hg w4 hbox hb;have Qa:=Aside0.mk hbox;have Qg:=gs HB hg;have Qh:=gs HB hg;replace HB:=hs HB hb;clear hb hbox hg;obtain ⟨_,_,_⟩:=cc3 Qa;obtain ⟨_,_,_⟩:=ff3 Qa))
  refine bodyPost_ret (results_ct rfl _ _ Qb 97 #[.int .u8 0,.int .u8 0,.int .u8 0] (0,0) _ rfl (bq Qa) Try.underlying97 rfl (by kernel_rfl)) rfl ?_;exact ⟨by first | rfl | (simp [errW_none,errW_some] <;> rfl) | (simp [*,errW_none,errW_some] <;> rfl),hn HB⟩
 ·rw [if_neg c3] at H;have Qi:=decide_eq_false c3;clear c3;by_cases c6:a1 > (wrap64 ((a0.size:Int) - 3))
  ·rw [if_pos c6] at H;have Qj:=decide_eq_true c6;clear c6;simp only [Option.some.injEq,Prod.mk.injEq] at H;obtain ⟨rfl,rfl,rfl,rfl⟩:=H;go_enter Try.func61,Try.ntmps61;(go_wp2_with (first | ((with_reducible refine gate_dst (N:=4) rfl ?_);(try (refine gate_guard (by rfl) ?_;dsimp only));refine boxQ 4 #[.int .u8 0,.int .u8 0,.int .u8 0] 97 ?_;intro Qb hg w7 hbox hb;have Qa:=Aside0.mk hbox;have Qg:=gs HB hg;have Qh:=gs HB hg;replace HB:=hs HB hb;clear hb hbox hg;obtain ⟨_,_,_⟩:=cc3 Qa;obtain ⟨_,_,_⟩:=ff3 Qa)));refine bodyPost_ret (results_ct rfl _ _ Qb 97 #[.int .u8 0,.int .u8 0,.int .u8 0] (0,0) _ rfl (bq Qa) Try.underlying97 rfl (by kernel_rfl)) rfl ?_;exact ⟨by first | rfl | (simp [errW_none,errW_some] <;> rfl) | (simp [*,errW_none,errW_some] <;> rfl),hn HB⟩
  ·rw [if_neg c6] at H;have Qj:=decide_eq_false c6;clear c6;by_cases c9:0≤a1;rotate_left
   ·rw [if_neg c9] at H;exact absurd H (by simp)
   rw [if_pos c9] at H;have c9b0:=decide_eq_true c9;clear c9;by_cases c10:a1 < (a0.size:Int);rotate_left
   ·rw [if_neg c10] at H;exact absurd H (by simp)
   rw [if_pos c10] at H;have c10b0:=decide_eq_true c10;clear c10;obtain ⟨Qc,Qe⟩:∃ j_:Int,(wrap64 (a1+1))=j_:=⟨_,rfl⟩;(replace H:(if 0≤(Qc) then (if (Qc) < (a0.size:Int) then (if 0≤(wrap64 (a1+2)) then (if (wrap64 (a1+2)) < (a0.size:Int) then (some (bt a0 a1,bt a0 (Qc),bt a0 (wrap64 (a1+2)),true)) else (none)) else (none)) else (none)) else (none))=some (r1,r2,r3,r4):=by first | (rw [Qe] at H;exact H) | (simp only [Qe] at H ⊢;exact H));have hji12w:(IntKind.i64.wrap (a1+1))=Qc:=(i64_w _).trans Qe;by_cases c13:0≤(Qc);rotate_left
   ·rw [if_neg c13] at H;exact absurd H (by simp)
   rw [if_pos c13] at H;have c13b0:=decide_eq_true c13;clear c13;by_cases c14:(Qc) < (a0.size:Int);rotate_left
   ·rw [if_neg c14] at H;exact absurd H (by simp)
   rw [if_pos c14] at H;have c14b0:=decide_eq_true c14;clear c14;obtain ⟨Qd,Qf⟩:∃ j_:Int,(wrap64 (a1+2))=j_:=⟨_,rfl⟩;(replace H:(if 0≤(Qd) then (if (Qd) < (a0.size:Int) then (some (bt a0 a1,bt a0 (Qc),bt a0 (Qd),true)) else (none)) else (none))=some (r1,r2,r3,r4):=by first | (rw [Qf] at H;exact H) | (simp only [Qf] at H ⊢;exact H));have hji16w:(IntKind.i64.wrap (a1+2))=Qd:=(i64_w _).trans Qf;by_cases c17:0≤(Qd);rotate_left
   ·rw [if_neg c17] at H;exact absurd H (by simp)
   rw [if_pos c17] at H;have c17b0:=decide_eq_true c17;clear c17;by_cases c18:(Qd) < (a0.size:Int);rotate_left
   ·rw [if_neg c18] at H;exact absurd H (by simp)
   rw [if_pos c18] at H;have c18b0:=decide_eq_true c18;clear c18;simp only [Option.some.injEq,Prod.mk.injEq] at H;obtain ⟨rfl,rfl,rfl,rfl⟩:=H;go_enter Try.func61,Try.ntmps61;(try go_wp2_with (first | ((with_reducible refine gate_dst (N:=4) rfl ?_);(try (refine gate_guard (by rfl) ?_;dsimp only));refine boxQ 4 #[.int .u8 0,.int .u8 0,.int .u8 0] 97 ?_;intro Qb hg w20 hbox hb;have Qa:=Aside0.mk hbox;have Qg:=gs HB hg;have Qh:=gs HB hg;replace HB:=hs HB hb;clear hb hbox hg)));replace Qa:=Aside0.mk (blk_drew Qa.out);replace HB:=Aside0.mk (below_drew1 HB.out);have p11:0≤(a1:Int):=pd;have q11:a1 < (a0.size:Int):=pd;have hx11:=bt_at a0 a1;replace p11:=eq_true p11;replace q11:=eq_true q11;have p15:0≤((Qc):Int):=pd;have q15:(Qc) < (a0.size:Int):=pd;have hx15:=bt_at a0 (Qc);replace p15:=eq_true p15;replace q15:=eq_true q15;have p19:0≤((Qd):Int):=pd;have q19:(Qd) < (a0.size:Int):=pd;have hx19:=bt_at a0 (Qd);replace p19:=eq_true p19;replace q19:=eq_true q19;refine start_ (n:=14) (S:=fun w'=>True) (ds:=[]) #[false,false,false,false,false,false,false,false,false,false,false,false,false,false] (by kernel_rfl) rfl rfl trivial (fun hHeld=>?_);refine with_tabW deflate_at.tab3 deflate_at.bits3 (fun HT_ HW_=>?_);generalize w20.drew=w21 at Qa HB hHeld ⊢;refine pureQ 0 (some 16) (tk 1 13) (any_of HT_.out (by kernel_rfl)) ?_;refine pureQ 1 (some 17) (tk 2 12) (any_of HT_.out (by kernel_rfl)) ?_;refine pureQ 3 (some 19) #[true,true,false,true,false,false,false,false,false,false,false,false,false,false] (any_of HT_.out (by kernel_rfl)) ?_
   refine pureQ 4 (some 20) #[true,true,false,true,true,false,false,false,false,false,false,false,false,false] (any_of HT_.out (by kernel_rfl)) ?_;refine pureQ 5 (some 21) #[true,true,false,true,true,true,false,false,false,false,false,false,false,false] (any_of HT_.out (by kernel_rfl)) ?_;refine pureQ 7 (some 23) #[true,true,false,true,true,true,false,true,false,false,false,false,false,false] (any_of HT_.out (by kernel_rfl)) ?_;refine pureQ 8 (some 24) #[true,true,false,true,true,true,false,true,true,false,false,false,false,false] (any_of HT_.out (by kernel_rfl)) ?_;refine pureQ 9 (some 25) #[true,true,false,true,true,true,false,true,true,true,false,false,false,false] (any_of HT_.out (by kernel_rfl)) ?_;refine take_ (i:=2) (N:=some 18) (v:=?_) (a':=?_) #[true,true,true,true,true,true,false,true,true,true,false,false,false,false] rfl rfl (take_ofW HT_.out HW_.out (by kernel_rfl)) (fun _ _ _ h=>h) (Or.inl ⟨by rfl,?_⟩) hHeld ?_ ?_;rotate_left
   ·intro w' _;go_simp;with_reducible rfl
   rotate_left
   ·simp only [Act.put,List.setIfInBounds_toArray,List.set_cons_zero,List.set_cons_succ,i64_w,i32_w];rfl
   refine take_ (i:=6) (N:=some 22) (v:=?_) (a':=?_) (tk 10 4) rfl rfl (take_ofW HT_.out HW_.out (by kernel_rfl)) (fun _ _ _ h=>h) (Or.inl ⟨by rfl,?_⟩) hHeld ?_ ?_;rotate_left
   ·intro w' _;go_simp;with_reducible rfl
   rotate_left
   ·simp only [Act.put,List.setIfInBounds_toArray,List.set_cons_zero,List.set_cons_succ,i64_w,i32_w];rfl
   refine take_ (i:=10) (N:=some 26) (v:=?_) (a':=?_) (tk 11 3) rfl rfl (take_ofW HT_.out HW_.out (by kernel_rfl)) (fun _ _ _ h=>h) (Or.inl ⟨by rfl,?_⟩) hHeld ?_ ?_;rotate_left
   ·intro w' _;go_simp;with_reducible rfl
   rotate_left
   ·simp only [Act.put,List.setIfInBounds_toArray,List.set_cons_zero,List.set_cons_succ,i64_w,i32_w];rfl
   refine pureQ 11 (some 27) (tk 12 2) (any_of HT_.out (by kernel_rfl)) ?_;refine one_ (i:=12) (N:=none) (tk 13 1) rfl rfl (one_of HT_.out (by kernel_rfl)) (by decide) (fun K hK=>?_);have hs22:w21.cell? ⟨Qb,0,none⟩=some (.int .u8 0):=(blk_cell Qa.out 0).trans rfl;have hfs22:=blk_frozen Qa.out 0;have hs23:w21.cell? ⟨Qb,1,none⟩=some (.int .u8 0):=(blk_cell Qa.out 1).trans rfl;have hfs23:=blk_frozen Qa.out 1;have hs24:w21.cell? ⟨Qb,2,none⟩=some (.int .u8 0):=(blk_cell Qa.out 2).trans rfl;have hfs24:=blk_frozen Qa.out 2;refine skip_ (w1:=?_) (by rfl) rfl ?_ ?_;rotate_left
   ·go_simp;rfl
   refine hK.out _ _ trivial (fun hHeld=>?_);clear hK K;refine pureQ 13 (some 5) (tk 14 0) (any_of HT_.out (by kernel_rfl)) ?_;refine done_ (done_of HT_.out (by kernel_rfl)) ?_;(try go_wp2);refine bodyPost_ret (results_ct rfl _ _ Qb 97 #[.int .u8 (bt a0 a1),.int .u8 (bt a0 (Qc)),.int .u8 (bt a0 (Qd))] (0,0) _ rfl (bq Qa) Try.underlying97 rfl (by kernel_rfl)) rfl ?_;exact ⟨by first | rfl | (simp [errW_none,errW_some] <;> rfl) | (simp only [← Qe,← Qf];first | rfl | (simp [errW_none,errW_some] <;> rfl)) | (simp [*,errW_none,errW_some] <;> rfl),hn HB⟩
def deflate_alike.l0:Nat → ByteArray → Int → Int → Int → Option (Int)
 |0,_,_,_,_=>none
 |k+1,x0,x1,x2,x7=>if x7 < 258 then (if (wrap64 (x1+x7)) < (x0.size:Int) then (if 0≤(wrap64 (x1+x7)) then (if 0≤(wrap64 (x2+x7)) then (if (wrap64 (x2+x7)) < (x0.size:Int) then (if (bt x0 (wrap64 (x1+x7)))=(bt x0 (wrap64 (x2+x7))) then (deflate_alike.l0 k x0 x1 x2 (wrap64 (x7+1))) else (some x7)) else (none)) else (none)) else (none)) else (some x7)) else (some x7)
def deflate_alike.f (k:Nat) (a0:ByteArray) (a1:Int) (a2:Int):Option (Int):=deflate_alike.l0 k a0 a1 a2 0
set_option maxHeartbeats 8000000 in
set_option maxRecDepth 100000 in
theorem deflate_alike.calls (k : Nat) (a0 : ByteArray) (a1 : Int) (a2 : Int) (r : Int) (w : World) (h : deflate_alike.f k a0 a1 a2 = some r) :
  Calls Try.prog 89 #[.string a0,.int .i64 a1,.int .i64 a2] w fun e w'=>e=.returned (.int .i64 r)∧Drawn0 w w':=by
 have H:=h;unfold deflate_alike.f at H;clear h;have H':=Aside0.mk H;clear H;go_enter Try.func89,Try.ntmps89;go_wp2;repeat (go_quiet (fail);try go_wp2)
 go_loopg [7] k (fun kq v7 w'=>∃ (Qa:Int),v7=.int .i64 Qa∧Aside0 (deflate_alike.l0 kq a0 a1 a2 Qa=some r)∧Aside0 (kq≤k)∧Drawn0 w w')
 case atStart=>exact ⟨(0),(by first | rfl | (simp;done) | (simp [*];done)),H',⟨Nat.le_refl _⟩,by repeat (first | exact Drawn0.refl _ | apply Drawn0.step)⟩
 clear H';obtain ⟨Qa,rfl,HA,HK1,⟨m1,rfl⟩⟩:=hrel
 rcases gk with _ | k1
 ·exact absurd HA.out (by simp [deflate_alike.l0])
 have H:=HA.out;clear HA;simp only [deflate_alike.l0] at H;by_cases c4:Qa < 258;rotate_left
 ·rw [if_neg c4] at H;have Qg:=decide_eq_false c4;clear c4;obtain rfl:=Option.some.inj H;go_wp2;repeat (go_quiet (fail);try go_wp2)
  go_ret;exact ⟨by first | rfl | (simp;done) | (simp [*];done),by repeat (first | exact Drawn0.refl _ | apply Drawn0.step)⟩
 rw [if_pos c4] at H;have Qg:=decide_eq_true c4;clear c4;by_cases c5:(wrap64 (a1+Qa)) < (a0.size:Int);rotate_left
 ·rw [if_neg c5] at H;have Qd:=decide_eq_false c5;clear c5;obtain rfl:=Option.some.inj H;go_wp2;repeat (go_quiet (fail);try go_wp2)
  go_ret;exact ⟨by first | rfl | (simp;done) | (simp [*];done),by repeat (first | exact Drawn0.refl _ | apply Drawn0.step)⟩
 rw [if_pos c5] at H;have Qd:=decide_eq_true c5;clear c5;obtain ⟨ji6,Qb⟩:∃ j_:Int,(wrap64 (a1+Qa))=j_:=⟨_,rfl⟩;replace H:(if 0≤(ji6) then (if 0≤(wrap64 (a2+Qa)) then (if (wrap64 (a2+Qa)) < (a0.size:Int) then (if (bt a0 (ji6))=(bt a0 (wrap64 (a2+Qa))) then (deflate_alike.l0 k1 a0 a1 a2 (wrap64 (Qa+1))) else (some Qa)) else (none)) else (none)) else (none))=some r:=by first | (rw [Qb] at H;exact H) | (simp only [Qb] at H ⊢;exact H)
 (try rw [Qb] at Qd)
 have hji6w:(IntKind.i64.wrap (a1+Qa))=ji6:=(i64_w _).trans Qb;by_cases c7:0≤(ji6);rotate_left
 ·rw [if_neg c7] at H;exact absurd H (by simp)
 rw [if_pos c7] at H;have c7b0:=decide_eq_true c7;clear c7;obtain ⟨ji9,Qc⟩:∃ j_:Int,(wrap64 (a2+Qa))=j_:=⟨_,rfl⟩;replace H:(if 0≤(ji9) then (if (ji9) < (a0.size:Int) then (if (bt a0 (ji6))=(bt a0 (ji9)) then (deflate_alike.l0 k1 a0 a1 a2 (wrap64 (Qa+1))) else (some Qa)) else (none)) else (none))=some r:=by first | (rw [Qc] at H;exact H) | (simp only [Qc] at H ⊢;exact H)
 have hji9w:(IntKind.i64.wrap (a2+Qa))=ji9:=(i64_w _).trans Qc;by_cases c10:0≤(ji9);rotate_left
 ·rw [if_neg c10] at H;exact absurd H (by simp)
 rw [if_pos c10] at H;have c10b0:=decide_eq_true c10;clear c10;by_cases c11:(ji9) < (a0.size:Int);rotate_left
 ·rw [if_neg c11] at H;exact absurd H (by simp)
 rw [if_pos c11] at H;have c11b0:=decide_eq_true c11;clear c11;by_cases c13:(bt a0 (ji6))=(bt a0 (ji9))
 ·rw [if_pos c13] at H;have Qe:((bt a0 (ji6)) == (bt a0 (ji9)))=true:=beq_iff_eq.mpr c13;have Qf:((bt a0 (ji6)) != (bt a0 (ji9)))=false:=bne_eq_false_iff_eq.mpr c13;clear c13;have H':=Aside0.mk H;clear H;have p8:0≤((ji6):Int):=pd;have q8:(ji6) < (a0.size:Int):=pd;have hx8:=bt_at a0 (ji6);replace p8:=eq_true p8;replace q8:=eq_true q8;have p12:0≤((ji9):Int):=pd;have q12:(ji9) < (a0.size:Int):=pd;have Qh:=bt_at a0 (ji9);replace p12:=eq_true p12;replace q12:=eq_true q12;go_wp2;repeat (go_quiet (fail);try go_wp2)
  go_roundg k1
  case measure=>have:=HK1.out;omega
  case rel=>exact ⟨(wrap64 (Qa+1)),(by first | rfl | (simp;done) | (simp [*];done)),H',⟨by have:=HK1.out;omega⟩,by repeat (first | exact Drawn0.refl _ | apply Drawn0.step)⟩
 ·rw [if_neg c13] at H;have Qe:((bt a0 (ji6)) == (bt a0 (ji9)))=false:=beq_eq_false_iff_ne.mpr c13;have Qf:((bt a0 (ji6)) != (bt a0 (ji9)))=true:=bne_iff_ne.mpr c13;obtain rfl:=Option.some.inj H;have p8:0≤((ji6):Int):=pd;have q8:(ji6) < (a0.size:Int):=pd;have hx8:=bt_at a0 (ji6);replace p8:=eq_true p8;replace q8:=eq_true q8;have p12:0≤((ji9):Int):=pd;have q12:(ji9) < (a0.size:Int):=pd;have Qh:=bt_at a0 (ji9);replace p12:=eq_true p12;replace q12:=eq_true q12;go_wp2;repeat (go_quiet (fail);try go_wp2)
  go_ret;exact ⟨by first | rfl | (simp;done) | (simp only [← Qb,← Qc] <;> (first | rfl | simp)) | (simp [*];done),by repeat (first | exact Drawn0.refl _ | apply Drawn0.step)⟩
mutual
def deflate_best.l0:Nat → ByteArray → Int → List Int → Int → Int → Int → Option (Int × Int)
 |0,_,_,_,_,_,_=>none
 |k+1,x0,x1,x2,x8,x9,x10=>if x10 ≥ 0 then (if 0≤x10 then (if x10 < (x2.length:Int) then (deflate_best.j1 k x0 x1 x2 x8 x9 x10 (decide ((wrap64 (x1 - (rd x2 x10)))≤32768))) else (none)) else (none)) else (deflate_best.j1 k x0 x1 x2 x8 x9 x10 false)
def deflate_best.j1:Nat → ByteArray → Int → List Int → Int → Int → Int → Bool → Option (Int × Int)
 |0,_,_,_,_,_,_,_=>none
 |k+1,x0,x1,x2,x8,x9,x10,x25=>if x25=true then (if 0≤x10 then (if x10 < (x2.length:Int) then ((deflate_alike.f k x0 x1 (rd x2 x10)).bind fun t104=>(if t104 > x8 then (if t104=258 then (if t104 < 3 then (some (0,0)) else (some (t104,wrap64 (x1 - (rd x2 x10))))) else (if (wrap64 (x1+t104))=(x0.size:Int) then (if t104 < 3 then (some (0,0)) else (some (t104,wrap64 (x1 - (rd x2 x10))))) else (deflate_best.l0 k x0 x1 x2 t104 (wrap64 (x1 - (rd x2 x10))) (wrap64 (x10 - 1))))) else (if x8=258 then (if x8 < 3 then (some (0,0)) else (some (x8,x9))) else (if (wrap64 (x1+x8))=(x0.size:Int) then (if x8 < 3 then (some (0,0)) else (some (x8,x9))) else (deflate_best.l0 k x0 x1 x2 x8 x9 (wrap64 (x10 - 1))))))) else (none)) else (none)) else (if x8 < 3 then (some (0,0)) else (some (x8,x9)))
end
def deflate_best.f (k:Nat) (a0:ByteArray) (a1:Int) (l2:List Int):Option (Int × Int):=deflate_best.l0 k a0 a1 l2 0 0 (wrap64 ((l2.length:Int) - 1))
set_option maxHeartbeats 8000000 in
set_option maxRecDepth 100000 in
theorem deflate_best.calls (k : Nat) (a0 : ByteArray) (a1 : Int) (A2 : Option Addr) (c2 : Nat) (l2 : List Int) (r1 : Int) (r2 : Int) (w : World) (hr2 : Kd.C (Kd.int .i64) w A2 l2.length l2) (hc2 : l2.length ≤ c2) (h : deflate_best.f k a0 a1 l2 = some (r1, r2)) :
  Calls Try.prog 62 #[.string a0,.int .i64 a1,.slice A2 l2.length c2] w fun e w'=>e=.returned (.tuple #[.int .i64 r1,.int .i64 r2])∧Drawn0 w w':=by
 have HR2:=Aside0.mk hr2;have HC2:=Aside0.mk hc2;clear hr2 hc2;have H:=h;unfold deflate_best.f at H;clear h;have H':=Aside0.mk H;clear H;go_enter Try.func62,Try.ntmps62;go_wp2;repeat (go_quiet (fail);try go_wp2)
 go_loopg [8,9,10] k (fun kq v8 v9 v10 w'=>∃ (Qj:Int) (Qn:Int) (Qa:Int),v8=.int .i64 Qj∧v9=.int .i64 Qn∧v10=.int .i64 Qa∧Aside0 (deflate_best.l0 kq a0 a1 l2 Qj Qn Qa=some (r1,r2))∧Aside0 (kq≤k)∧Drawn0 w w')
 case atStart=>exact ⟨(0),(0),(wrap64 ((l2.length:Int) - 1)),(by first | rfl | (simp;done) | (simp [*];done)),(by first | rfl | (simp;done) | (simp [*];done)),(by first | rfl | (simp;done) | (simp [*];done)),H',⟨Nat.le_refl _⟩,by repeat (first | exact Drawn0.refl _ | apply Drawn0.step)⟩
 clear H';obtain ⟨Qj,Qn,Qa,rfl,rfl,rfl,HA,HK1,⟨m1,rfl⟩⟩:=hrel
 rcases gk with _ | k1
 ·exact absurd HA.out (by simp [deflate_best.l0])
 have H:=HA.out;clear HA;simp only [deflate_best.l0] at H;have HC4:=Aside0.mk H;clear H;go_upto_region 3 with (fail)
 repeat (go_quiet (fail);go_upto_region 3 with (fail))
 go_cut [25] (fun v25 wc=>∃ (kq:Nat) (Qo:Bool),v25=.bool Qo∧Aside0 (deflate_best.j1 kq a0 a1 l2 Qj Qn Qa Qo=some (r1,r2))∧Aside0 (kq≤k1)∧Drawn0 w wc)
 case first =>
  have H:=HC4.out;clear HC4;by_cases c5:Qa ≥ 0;rotate_left
  ·rw [if_neg c5] at H;have Qp:=decide_eq_false c5;clear c5
   (first | rw [Qp] | (simp only [i64_w,i32_w];rw [Qp]) | skip)
   have H':=Aside0.mk H;clear H;go_wp2;(repeat (go_quiet (fail);try go_wp2));go_meet
   case rel=>exact ⟨_,(false),(by first | rfl | (simp;done) | (simp [*];done)),H',⟨by have:=HK1.out;first | omega | exact Nat.le_refl _⟩,by repeat (first | exact Drawn0.refl _ | apply Drawn0.step)⟩
  rw [if_pos c5] at H;have Qp:=decide_eq_true c5;clear c5
  (first | rw [Qp] | (simp only [i64_w,i32_w];rw [Qp]) | skip)
  by_cases c6:0≤Qa;rotate_left
  ·rw [if_neg c6] at H;exact absurd H (by simp)
  rw [if_pos c6] at H;have c6b0:=decide_eq_true c6;clear c6;by_cases c7:Qa < (l2.length:Int);rotate_left
  ·rw [if_neg c7] at H;exact absurd H (by simp)
  rw [if_pos c7] at H;have c7b0:=decide_eq_true c7;clear c7;have H':=Aside0.mk H;clear H;have Qq:0≤(Qa:Int):=pd;have Qr:Qa < (l2.length:Int):=pd;obtain ⟨ad102,QH,hx102_0⟩:=Kd.at_int HR2.out Qa Qq Qr;cases QH;replace Qq:=eq_true Qq;replace Qr:=eq_true Qr;go_wp2;repeat (go_quiet (fail);try go_wp2)
  go_meet
  case rel=>exact ⟨_,(decide ((wrap64 (a1 - (rd l2 Qa)))≤32768)),(by first | rfl | (simp;done) | (simp [*];done)),H',⟨by have:=HK1.out;first | omega | exact Nat.le_refl _⟩,by repeat (first | exact Drawn0.refl _ | apply Drawn0.step)⟩
 clear HC4;obtain ⟨kq,Qo,rfl,HA,HJ3,⟨mc3,rfl⟩⟩:=hcut
 rcases kq with _ | kj3
 ·exact absurd HA.out (by simp [deflate_best.j1])
 have H:=HA.out;clear HA;simp only [deflate_best.j1] at H;by_cases c8:Qo=true
 ·subst c8;have H1:(if 0≤Qa then (if Qa < (l2.length:Int) then ((deflate_alike.f kj3 a0 a1 (rd l2 Qa)).bind fun Qd=>(if Qd > Qj then (if Qd=258 then (if Qd < 3 then (some (0,0)) else (some (Qd,wrap64 (a1 - (rd l2 Qa))))) else (if (wrap64 (a1+Qd))=(a0.size:Int) then (if Qd < 3 then (some (0,0)) else (some (Qd,wrap64 (a1 - (rd l2 Qa))))) else (deflate_best.l0 kj3 a0 a1 l2 Qd (wrap64 (a1 - (rd l2 Qa))) (wrap64 (Qa - 1))))) else (if Qj=258 then (if Qj < 3 then (some (0,0)) else (some (Qj,Qn))) else (if (wrap64 (a1+Qj))=(a0.size:Int) then (if Qj < 3 then (some (0,0)) else (some (Qj,Qn))) else (deflate_best.l0 kj3 a0 a1 l2 Qj Qn (wrap64 (Qa - 1))))))) else (none)) else (none))=some (r1,r2):=by rw [if_pos rfl] at H;exact H
  clear H;have H:=H1;clear H1;by_cases c9:0≤Qa;rotate_left
  ·rw [if_neg c9] at H;exact absurd H (by simp)
  rw [if_pos c9] at H;have c9b0:=decide_eq_true c9;clear c9;by_cases c10:Qa < (l2.length:Int);rotate_left
  ·rw [if_neg c10] at H;exact absurd H (by simp)
  rw [if_pos c10] at H;have c10b0:=decide_eq_true c10;clear c10;replace H:=Option.bind_eq_some_iff.mp H;obtain ⟨Qd,Qs,H⟩:=H;have A11:=Aside0.mk Qs;clear Qs;by_cases c12:Qd > Qj
  ·rw [if_pos c12] at H;have Qt:=decide_eq_true c12;clear c12;by_cases c13:Qd=258
   ·rw [if_pos c13] at H;have Qu:(Qd == 258)=true:=beq_iff_eq.mpr c13;have Qv:(Qd != 258)=false:=bne_eq_false_iff_eq.mpr c13;clear c13;by_cases c14:Qd < 3
    ·rw [if_pos c14] at H;have Qw:=decide_eq_true c14;clear c14;simp only [Option.some.injEq,Prod.mk.injEq] at H;obtain ⟨rfl,rfl⟩:=H;have Qf:0≤(Qa:Int):=pd;have Qg:Qa < (l2.length:Int):=pd;obtain ⟨Qh,Qm,Ql⟩:=Kd.at_int HR2.out Qa Qf Qg;cases Qm;replace Qf:=eq_true Qf;replace Qg:=eq_true Qg;(go_wp2_with (first | (go_at_call 89;(with_reducible refine (deflate_alike.calls kj3 a0 a1 (rd l2 Qa) Qd _ A11.out).mono ?_);rintro e w' ⟨rfl,⟨nd,rfl⟩⟩;(try first | exact ⟨rfl,_,World.drewN_drewN _ _ _⟩ | exact ⟨rfl,_,Eq.trans (World.drewN_drewN _ _ _) (congrArg (World.drewN _) (Nat.add_assoc _ _ _))⟩);have Qb:0≤(Qa:Int):=pd;have Qc:Qa < (l2.length:Int):=pd;obtain ⟨Qe,Qk,Qi⟩:=Kd.at_int HR2.out Qa Qb Qc;obtain rfl:Qh=Qe:=(by injection Qk);replace Qb:=eq_true Qb;replace Qc:=eq_true Qc)));(repeat (go_quiet (first | (go_at_call 89;(with_reducible refine (deflate_alike.calls kj3 a0 a1 (rd l2 Qa) Qd _ A11.out).mono ?_);rintro e w' ⟨rfl,⟨nd,rfl⟩⟩;(try first | exact ⟨rfl,_,World.drewN_drewN _ _ _⟩ | exact ⟨rfl,_,Eq.trans (World.drewN_drewN _ _ _) (congrArg (World.drewN _) (Nat.add_assoc _ _ _))⟩);have Qb:0≤(Qa:Int):=pd;have Qc:Qa < (l2.length:Int):=pd;obtain ⟨Qe,Qk,Qi⟩:=Kd.at_int HR2.out Qa Qb Qc;obtain rfl:Qh=Qe:=(by injection Qk);replace Qb:=eq_true Qb;replace Qc:=eq_true Qc));try go_wp2_with (first | (go_at_call 89;(with_reducible refine (deflate_alike.calls kj3 a0 a1 (rd l2 Qa) Qd _ A11.out).mono ?_);rintro e w' ⟨rfl,⟨nd,rfl⟩⟩;(try first | exact ⟨rfl,_,World.drewN_drewN _ _ _⟩ | exact ⟨rfl,_,Eq.trans (World.drewN_drewN _ _ _) (congrArg (World.drewN _) (Nat.add_assoc _ _ _))⟩);have Qb:0≤(Qa:Int):=pd;have Qc:Qa < (l2.length:Int):=pd;obtain ⟨Qe,Qk,Qi⟩:=Kd.at_int HR2.out Qa Qb Qc;obtain rfl:Qh=Qe:=(by injection Qk);replace Qb:=eq_true Qb;replace Qc:=eq_true Qc))))
     go_ret2;exact ⟨by first | rfl | (simp;done) | (simp [*];done),by repeat (first | exact Drawn0.refl _ | apply Drawn0.step)⟩
    ·rw [if_neg c14] at H;have Qw:=decide_eq_false c14;clear c14;simp only [Option.some.injEq,Prod.mk.injEq] at H;obtain ⟨rfl,rfl⟩:=H;have Qf:0≤(Qa:Int):=pd;have Qg:Qa < (l2.length:Int):=pd;obtain ⟨Qh,Qm,Ql⟩:=Kd.at_int HR2.out Qa Qf Qg;cases Qm;replace Qf:=eq_true Qf;replace Qg:=eq_true Qg;(go_wp2_with (first | (go_at_call 89;(with_reducible refine (deflate_alike.calls kj3 a0 a1 (rd l2 Qa) Qd _ A11.out).mono ?_);rintro e w' ⟨rfl,⟨nd,rfl⟩⟩;(try first | exact ⟨rfl,_,World.drewN_drewN _ _ _⟩ | exact ⟨rfl,_,Eq.trans (World.drewN_drewN _ _ _) (congrArg (World.drewN _) (Nat.add_assoc _ _ _))⟩);have Qb:0≤(Qa:Int):=pd;have Qc:Qa < (l2.length:Int):=pd;obtain ⟨Qe,Qk,Qi⟩:=Kd.at_int HR2.out Qa Qb Qc;obtain rfl:Qh=Qe:=(by injection Qk);replace Qb:=eq_true Qb;replace Qc:=eq_true Qc)));(repeat (go_quiet (first | (go_at_call 89;(with_reducible refine (deflate_alike.calls kj3 a0 a1 (rd l2 Qa) Qd _ A11.out).mono ?_);rintro e w' ⟨rfl,⟨nd,rfl⟩⟩;(try first | exact ⟨rfl,_,World.drewN_drewN _ _ _⟩ | exact ⟨rfl,_,Eq.trans (World.drewN_drewN _ _ _) (congrArg (World.drewN _) (Nat.add_assoc _ _ _))⟩);have Qb:0≤(Qa:Int):=pd;have Qc:Qa < (l2.length:Int):=pd;obtain ⟨Qe,Qk,Qi⟩:=Kd.at_int HR2.out Qa Qb Qc;obtain rfl:Qh=Qe:=(by injection Qk);replace Qb:=eq_true Qb;replace Qc:=eq_true Qc));try go_wp2_with (first | (go_at_call 89;(with_reducible refine (deflate_alike.calls kj3 a0 a1 (rd l2 Qa) Qd _ A11.out).mono ?_);rintro e w' ⟨rfl,⟨nd,rfl⟩⟩;(try first | exact ⟨rfl,_,World.drewN_drewN _ _ _⟩ | exact ⟨rfl,_,Eq.trans (World.drewN_drewN _ _ _) (congrArg (World.drewN _) (Nat.add_assoc _ _ _))⟩);have Qb:0≤(Qa:Int):=pd;have Qc:Qa < (l2.length:Int):=pd;obtain ⟨Qe,Qk,Qi⟩:=Kd.at_int HR2.out Qa Qb Qc;obtain rfl:Qh=Qe:=(by injection Qk);replace Qb:=eq_true Qb;replace Qc:=eq_true Qc))))
     go_ret2;exact ⟨by first | rfl | (simp;done) | (simp [*];done),by repeat (first | exact Drawn0.refl _ | apply Drawn0.step)⟩
   ·rw [if_neg c13] at H;have Qu:(Qd == 258)=false:=beq_eq_false_iff_ne.mpr c13;have Qv:(Qd != 258)=true:=bne_iff_ne.mpr c13;by_cases c15:(wrap64 (a1+Qd))=(a0.size:Int)
    ·rw [if_pos c15] at H;have Qx:((wrap64 (a1+Qd)) == (a0.size:Int))=true:=beq_iff_eq.mpr c15;have Qy:((wrap64 (a1+Qd)) != (a0.size:Int))=false:=bne_eq_false_iff_eq.mpr c15;clear c15;by_cases c16:Qd < 3
     ·rw [if_pos c16] at H;have Qz:=decide_eq_true c16;clear c16;simp only [Option.some.injEq,Prod.mk.injEq] at H;obtain ⟨rfl,rfl⟩:=H;have Qf:0≤(Qa:Int):=pd;have Qg:Qa < (l2.length:Int):=pd;obtain ⟨Qh,Qm,Ql⟩:=Kd.at_int HR2.out Qa Qf Qg;cases Qm;replace Qf:=eq_true Qf;replace Qg:=eq_true Qg;(go_wp2_with (first | (go_at_call 89;(with_reducible refine (deflate_alike.calls kj3 a0 a1 (rd l2 Qa) Qd _ A11.out).mono ?_);rintro e w' ⟨rfl,⟨nd,rfl⟩⟩;(try first | exact ⟨rfl,_,World.drewN_drewN _ _ _⟩ | exact ⟨rfl,_,Eq.trans (World.drewN_drewN _ _ _) (congrArg (World.drewN _) (Nat.add_assoc _ _ _))⟩);have Qb:0≤(Qa:Int):=pd;have Qc:Qa < (l2.length:Int):=pd;obtain ⟨Qe,Qk,Qi⟩:=Kd.at_int HR2.out Qa Qb Qc;obtain rfl:Qh=Qe:=(by injection Qk);replace Qb:=eq_true Qb;replace Qc:=eq_true Qc)));(repeat (go_quiet (first | (go_at_call 89;(with_reducible refine (deflate_alike.calls kj3 a0 a1 (rd l2 Qa) Qd _ A11.out).mono ?_);rintro e w' ⟨rfl,⟨nd,rfl⟩⟩;(try first | exact ⟨rfl,_,World.drewN_drewN _ _ _⟩ | exact ⟨rfl,_,Eq.trans (World.drewN_drewN _ _ _) (congrArg (World.drewN _) (Nat.add_assoc _ _ _))⟩);have Qb:0≤(Qa:Int):=pd;have Qc:Qa < (l2.length:Int):=pd;obtain ⟨Qe,Qk,Qi⟩:=Kd.at_int HR2.out Qa Qb Qc;obtain rfl:Qh=Qe:=(by injection Qk);replace Qb:=eq_true Qb;replace Qc:=eq_true Qc));try go_wp2_with (first | (go_at_call 89;(with_reducible refine (deflate_alike.calls kj3 a0 a1 (rd l2 Qa) Qd _ A11.out).mono ?_);rintro e w' ⟨rfl,⟨nd,rfl⟩⟩;(try first | exact ⟨rfl,_,World.drewN_drewN _ _ _⟩ | exact ⟨rfl,_,Eq.trans (World.drewN_drewN _ _ _) (congrArg (World.drewN _) (Nat.add_assoc _ _ _))⟩);have Qb:0≤(Qa:Int):=pd;have Qc:Qa < (l2.length:Int):=pd;obtain ⟨Qe,Qk,Qi⟩:=Kd.at_int HR2.out Qa Qb Qc;obtain rfl:Qh=Qe:=(by injection Qk);replace Qb:=eq_true Qb;replace Qc:=eq_true Qc))))
      go_ret2;exact ⟨by first | rfl | (simp;done) | (simp [*];done),by repeat (first | exact Drawn0.refl _ | apply Drawn0.step)⟩
     ·rw [if_neg c16] at H;have Qz:=decide_eq_false c16;clear c16;simp only [Option.some.injEq,Prod.mk.injEq] at H;obtain ⟨rfl,rfl⟩:=H;have Qf:0≤(Qa:Int):=pd;have Qg:Qa < (l2.length:Int):=pd;obtain ⟨Qh,Qm,Ql⟩:=Kd.at_int HR2.out Qa Qf Qg;cases Qm;replace Qf:=eq_true Qf;replace Qg:=eq_true Qg;(go_wp2_with (first | (go_at_call 89;(with_reducible refine (deflate_alike.calls kj3 a0 a1 (rd l2 Qa) Qd _ A11.out).mono ?_);rintro e w' ⟨rfl,⟨nd,rfl⟩⟩;(try first | exact ⟨rfl,_,World.drewN_drewN _ _ _⟩ | exact ⟨rfl,_,Eq.trans (World.drewN_drewN _ _ _) (congrArg (World.drewN _) (Nat.add_assoc _ _ _))⟩);have Qb:0≤(Qa:Int):=pd;have Qc:Qa < (l2.length:Int):=pd;obtain ⟨Qe,Qk,Qi⟩:=Kd.at_int HR2.out Qa Qb Qc;obtain rfl:Qh=Qe:=(by injection Qk);replace Qb:=eq_true Qb;replace Qc:=eq_true Qc)));(repeat (go_quiet (first | (go_at_call 89;(with_reducible refine (deflate_alike.calls kj3 a0 a1 (rd l2 Qa) Qd _ A11.out).mono ?_);rintro e w' ⟨rfl,⟨nd,rfl⟩⟩;(try first | exact ⟨rfl,_,World.drewN_drewN _ _ _⟩ | exact ⟨rfl,_,Eq.trans (World.drewN_drewN _ _ _) (congrArg (World.drewN _) (Nat.add_assoc _ _ _))⟩);have Qb:0≤(Qa:Int):=pd;have Qc:Qa < (l2.length:Int):=pd;obtain ⟨Qe,Qk,Qi⟩:=Kd.at_int HR2.out Qa Qb Qc;obtain rfl:Qh=Qe:=(by injection Qk);replace Qb:=eq_true Qb;replace Qc:=eq_true Qc));try go_wp2_with (first | (go_at_call 89;(with_reducible refine (deflate_alike.calls kj3 a0 a1 (rd l2 Qa) Qd _ A11.out).mono ?_);rintro e w' ⟨rfl,⟨nd,rfl⟩⟩;(try first | exact ⟨rfl,_,World.drewN_drewN _ _ _⟩ | exact ⟨rfl,_,Eq.trans (World.drewN_drewN _ _ _) (congrArg (World.drewN _) (Nat.add_assoc _ _ _))⟩);have Qb:0≤(Qa:Int):=pd;have Qc:Qa < (l2.length:Int):=pd;obtain ⟨Qe,Qk,Qi⟩:=Kd.at_int HR2.out Qa Qb Qc;obtain rfl:Qh=Qe:=(by injection Qk);replace Qb:=eq_true Qb;replace Qc:=eq_true Qc))))
      go_ret2;exact ⟨by first | rfl | (simp;done) | (simp [*];done),by repeat (first | exact Drawn0.refl _ | apply Drawn0.step)⟩
    ·rw [if_neg c15] at H;have Qx:((wrap64 (a1+Qd)) == (a0.size:Int))=false:=beq_eq_false_iff_ne.mpr c15;have Qy:((wrap64 (a1+Qd)) != (a0.size:Int))=true:=bne_iff_ne.mpr c15;have H':=Aside0.mk H;clear H;have Qf:0≤(Qa:Int):=pd;have Qg:Qa < (l2.length:Int):=pd;obtain ⟨Qh,Qm,Ql⟩:=Kd.at_int HR2.out Qa Qf Qg;cases Qm;replace Qf:=eq_true Qf;replace Qg:=eq_true Qg;(go_wp2_with (first | (go_at_call 89;(with_reducible refine (deflate_alike.calls kj3 a0 a1 (rd l2 Qa) Qd _ A11.out).mono ?_);rintro e w' ⟨rfl,⟨nd,rfl⟩⟩;(try first | exact ⟨rfl,_,World.drewN_drewN _ _ _⟩ | exact ⟨rfl,_,Eq.trans (World.drewN_drewN _ _ _) (congrArg (World.drewN _) (Nat.add_assoc _ _ _))⟩);have Qb:0≤(Qa:Int):=pd;have Qc:Qa < (l2.length:Int):=pd;obtain ⟨Qe,Qk,Qi⟩:=Kd.at_int HR2.out Qa Qb Qc;obtain rfl:Qh=Qe:=(by injection Qk);replace Qb:=eq_true Qb;replace Qc:=eq_true Qc)));(repeat (go_quiet (first | (go_at_call 89;(with_reducible refine (deflate_alike.calls kj3 a0 a1 (rd l2 Qa) Qd _ A11.out).mono ?_);rintro e w' ⟨rfl,⟨nd,rfl⟩⟩;(try first | exact ⟨rfl,_,World.drewN_drewN _ _ _⟩ | exact ⟨rfl,_,Eq.trans (World.drewN_drewN _ _ _) (congrArg (World.drewN _) (Nat.add_assoc _ _ _))⟩);have Qb:0≤(Qa:Int):=pd;have Qc:Qa < (l2.length:Int):=pd;obtain ⟨Qe,Qk,Qi⟩:=Kd.at_int HR2.out Qa Qb Qc;obtain rfl:Qh=Qe:=(by injection Qk);replace Qb:=eq_true Qb;replace Qc:=eq_true Qc));try go_wp2_with (first | (go_at_call 89;(with_reducible refine (deflate_alike.calls kj3 a0 a1 (rd l2 Qa) Qd _ A11.out).mono ?_);rintro e w' ⟨rfl,⟨nd,rfl⟩⟩;(try first | exact ⟨rfl,_,World.drewN_drewN _ _ _⟩ | exact ⟨rfl,_,Eq.trans (World.drewN_drewN _ _ _) (congrArg (World.drewN _) (Nat.add_assoc _ _ _))⟩);have Qb:0≤(Qa:Int):=pd;have Qc:Qa < (l2.length:Int):=pd;obtain ⟨Qe,Qk,Qi⟩:=Kd.at_int HR2.out Qa Qb Qc;obtain rfl:Qh=Qe:=(by injection Qk);replace Qb:=eq_true Qb;replace Qc:=eq_true Qc))))
     go_roundg kj3
     case measure=>have:=HK1.out;have:=HJ3.out;omega
     case rel=>exact ⟨(Qd),(wrap64 (a1 - (rd l2 Qa))),(wrap64 (Qa - 1)),(by first | rfl | (simp;done) | (simp [*];done)),(by first | rfl | (simp;done) | (simp [*];done)),(by first | rfl | (simp;done) | (simp [*];done)),H',⟨by have:=HK1.out;have:=HJ3.out;omega⟩,by repeat (first | exact Drawn0.refl _ | apply Drawn0.step)⟩
  ·rw [if_neg c12] at H;have Qt:=decide_eq_false c12;clear c12;by_cases c17:Qj=258
   ·rw [if_pos c17] at H;have QA:(Qj == 258)=true:=beq_iff_eq.mpr c17;have QB:(Qj != 258)=false:=bne_eq_false_iff_eq.mpr c17;clear c17;by_cases c18:Qj < 3
    ·rw [if_pos c18] at H;have QC:=decide_eq_true c18;clear c18;simp only [Option.some.injEq,Prod.mk.injEq] at H;obtain ⟨rfl,rfl⟩:=H;have Qf:0≤(Qa:Int):=pd;have Qg:Qa < (l2.length:Int):=pd;obtain ⟨Qh,Qm,Ql⟩:=Kd.at_int HR2.out Qa Qf Qg;cases Qm;replace Qf:=eq_true Qf;replace Qg:=eq_true Qg;(go_wp2_with (first | (go_at_call 89;(with_reducible refine (deflate_alike.calls kj3 a0 a1 (rd l2 Qa) Qd _ A11.out).mono ?_);rintro e w' ⟨rfl,⟨nd,rfl⟩⟩;(try first | exact ⟨rfl,_,World.drewN_drewN _ _ _⟩ | exact ⟨rfl,_,Eq.trans (World.drewN_drewN _ _ _) (congrArg (World.drewN _) (Nat.add_assoc _ _ _))⟩))));(repeat (go_quiet (first | (go_at_call 89;(with_reducible refine (deflate_alike.calls kj3 a0 a1 (rd l2 Qa) Qd _ A11.out).mono ?_);rintro e w' ⟨rfl,⟨nd,rfl⟩⟩;(try first | exact ⟨rfl,_,World.drewN_drewN _ _ _⟩ | exact ⟨rfl,_,Eq.trans (World.drewN_drewN _ _ _) (congrArg (World.drewN _) (Nat.add_assoc _ _ _))⟩)));try go_wp2_with (first | (go_at_call 89;(with_reducible refine (deflate_alike.calls kj3 a0 a1 (rd l2 Qa) Qd _ A11.out).mono ?_);rintro e w' ⟨rfl,⟨nd,rfl⟩⟩;(try first | exact ⟨rfl,_,World.drewN_drewN _ _ _⟩ | exact ⟨rfl,_,Eq.trans (World.drewN_drewN _ _ _) (congrArg (World.drewN _) (Nat.add_assoc _ _ _))⟩)))));go_ret2;exact ⟨by first | rfl | (simp;done) | (simp [*];done),by repeat (first | exact Drawn0.refl _ | apply Drawn0.step)⟩
    ·rw [if_neg c18] at H;have QC:=decide_eq_false c18;clear c18;simp only [Option.some.injEq,Prod.mk.injEq] at H;obtain ⟨rfl,rfl⟩:=H;have Qf:0≤(Qa:Int):=pd;have Qg:Qa < (l2.length:Int):=pd;obtain ⟨Qh,Qm,Ql⟩:=Kd.at_int HR2.out Qa Qf Qg;cases Qm;replace Qf:=eq_true Qf;replace Qg:=eq_true Qg;(go_wp2_with (first | (go_at_call 89;(with_reducible refine (deflate_alike.calls kj3 a0 a1 (rd l2 Qa) Qd _ A11.out).mono ?_);rintro e w' ⟨rfl,⟨nd,rfl⟩⟩;(try first | exact ⟨rfl,_,World.drewN_drewN _ _ _⟩ | exact ⟨rfl,_,Eq.trans (World.drewN_drewN _ _ _) (congrArg (World.drewN _) (Nat.add_assoc _ _ _))⟩))));(repeat (go_quiet (first | (go_at_call 89;(with_reducible refine (deflate_alike.calls kj3 a0 a1 (rd l2 Qa) Qd _ A11.out).mono ?_);rintro e w' ⟨rfl,⟨nd,rfl⟩⟩;(try first | exact ⟨rfl,_,World.drewN_drewN _ _ _⟩ | exact ⟨rfl,_,Eq.trans (World.drewN_drewN _ _ _) (congrArg (World.drewN _) (Nat.add_assoc _ _ _))⟩)));try go_wp2_with (first | (go_at_call 89;(with_reducible refine (deflate_alike.calls kj3 a0 a1 (rd l2 Qa) Qd _ A11.out).mono ?_);rintro e w' ⟨rfl,⟨nd,rfl⟩⟩;(try first | exact ⟨rfl,_,World.drewN_drewN _ _ _⟩ | exact ⟨rfl,_,Eq.trans (World.drewN_drewN _ _ _) (congrArg (World.drewN _) (Nat.add_assoc _ _ _))⟩)))));go_ret2;exact ⟨by first | rfl | (simp;done) | (simp [*];done),by repeat (first | exact Drawn0.refl _ | apply Drawn0.step)⟩
   ·rw [if_neg c17] at H;have QA:(Qj == 258)=false:=beq_eq_false_iff_ne.mpr c17;have QB:(Qj != 258)=true:=bne_iff_ne.mpr c17;by_cases c19:(wrap64 (a1+Qj))=(a0.size:Int)
    ·rw [if_pos c19] at H;have QD:((wrap64 (a1+Qj)) == (a0.size:Int))=true:=beq_iff_eq.mpr c19;have QE:((wrap64 (a1+Qj)) != (a0.size:Int))=false:=bne_eq_false_iff_eq.mpr c19;clear c19;by_cases c20:Qj < 3
     ·rw [if_pos c20] at H;have QF:=decide_eq_true c20;clear c20;simp only [Option.some.injEq,Prod.mk.injEq] at H;obtain ⟨rfl,rfl⟩:=H;have Qf:0≤(Qa:Int):=pd;have Qg:Qa < (l2.length:Int):=pd;obtain ⟨Qh,Qm,Ql⟩:=Kd.at_int HR2.out Qa Qf Qg;cases Qm;replace Qf:=eq_true Qf;replace Qg:=eq_true Qg;(go_wp2_with (first | (go_at_call 89;(with_reducible refine (deflate_alike.calls kj3 a0 a1 (rd l2 Qa) Qd _ A11.out).mono ?_);rintro e w' ⟨rfl,⟨nd,rfl⟩⟩;(try first | exact ⟨rfl,_,World.drewN_drewN _ _ _⟩ | exact ⟨rfl,_,Eq.trans (World.drewN_drewN _ _ _) (congrArg (World.drewN _) (Nat.add_assoc _ _ _))⟩))));(repeat (go_quiet (first | (go_at_call 89;(with_reducible refine (deflate_alike.calls kj3 a0 a1 (rd l2 Qa) Qd _ A11.out).mono ?_);rintro e w' ⟨rfl,⟨nd,rfl⟩⟩;(try first | exact ⟨rfl,_,World.drewN_drewN _ _ _⟩ | exact ⟨rfl,_,Eq.trans (World.drewN_drewN _ _ _) (congrArg (World.drewN _) (Nat.add_assoc _ _ _))⟩)));try go_wp2_with (first | (go_at_call 89;(with_reducible refine (deflate_alike.calls kj3 a0 a1 (rd l2 Qa) Qd _ A11.out).mono ?_);rintro e w' ⟨rfl,⟨nd,rfl⟩⟩;(try first | exact ⟨rfl,_,World.drewN_drewN _ _ _⟩ | exact ⟨rfl,_,Eq.trans (World.drewN_drewN _ _ _) (congrArg (World.drewN _) (Nat.add_assoc _ _ _))⟩)))));go_ret2;exact ⟨by first | rfl | (simp;done) | (simp [*];done),by repeat (first | exact Drawn0.refl _ | apply Drawn0.step)⟩
     ·rw [if_neg c20] at H;have QF:=decide_eq_false c20;clear c20;simp only [Option.some.injEq,Prod.mk.injEq] at H;obtain ⟨rfl,rfl⟩:=H;have Qf:0≤(Qa:Int):=pd;have Qg:Qa < (l2.length:Int):=pd;obtain ⟨Qh,Qm,Ql⟩:=Kd.at_int HR2.out Qa Qf Qg;cases Qm;replace Qf:=eq_true Qf;replace Qg:=eq_true Qg;(go_wp2_with (first | (go_at_call 89;(with_reducible refine (deflate_alike.calls kj3 a0 a1 (rd l2 Qa) Qd _ A11.out).mono ?_);rintro e w' ⟨rfl,⟨nd,rfl⟩⟩;(try first | exact ⟨rfl,_,World.drewN_drewN _ _ _⟩ | exact ⟨rfl,_,Eq.trans (World.drewN_drewN _ _ _) (congrArg (World.drewN _) (Nat.add_assoc _ _ _))⟩))));(repeat (go_quiet (first | (go_at_call 89;(with_reducible refine (deflate_alike.calls kj3 a0 a1 (rd l2 Qa) Qd _ A11.out).mono ?_);rintro e w' ⟨rfl,⟨nd,rfl⟩⟩;(try first | exact ⟨rfl,_,World.drewN_drewN _ _ _⟩ | exact ⟨rfl,_,Eq.trans (World.drewN_drewN _ _ _) (congrArg (World.drewN _) (Nat.add_assoc _ _ _))⟩)));try go_wp2_with (first | (go_at_call 89;(with_reducible refine (deflate_alike.calls kj3 a0 a1 (rd l2 Qa) Qd _ A11.out).mono ?_);rintro e w' ⟨rfl,⟨nd,rfl⟩⟩;(try first | exact ⟨rfl,_,World.drewN_drewN _ _ _⟩ | exact ⟨rfl,_,Eq.trans (World.drewN_drewN _ _ _) (congrArg (World.drewN _) (Nat.add_assoc _ _ _))⟩)))));go_ret2;exact ⟨by first | rfl | (simp;done) | (simp [*];done),by repeat (first | exact Drawn0.refl _ | apply Drawn0.step)⟩
    ·rw [if_neg c19] at H;have QD:((wrap64 (a1+Qj)) == (a0.size:Int))=false:=beq_eq_false_iff_ne.mpr c19;have QE:((wrap64 (a1+Qj)) != (a0.size:Int))=true:=bne_iff_ne.mpr c19;have H':=Aside0.mk H;clear H;have Qf:0≤(Qa:Int):=pd;have Qg:Qa < (l2.length:Int):=pd;obtain ⟨Qh,Qm,Ql⟩:=Kd.at_int HR2.out Qa Qf Qg;cases Qm;replace Qf:=eq_true Qf;replace Qg:=eq_true Qg;(go_wp2_with (first | (go_at_call 89;(with_reducible refine (deflate_alike.calls kj3 a0 a1 (rd l2 Qa) Qd _ A11.out).mono ?_);rintro e w' ⟨rfl,⟨nd,rfl⟩⟩;(try first | exact ⟨rfl,_,World.drewN_drewN _ _ _⟩ | exact ⟨rfl,_,Eq.trans (World.drewN_drewN _ _ _) (congrArg (World.drewN _) (Nat.add_assoc _ _ _))⟩))));(repeat (go_quiet (first | (go_at_call 89;(with_reducible refine (deflate_alike.calls kj3 a0 a1 (rd l2 Qa) Qd _ A11.out).mono ?_);rintro e w' ⟨rfl,⟨nd,rfl⟩⟩;(try first | exact ⟨rfl,_,World.drewN_drewN _ _ _⟩ | exact ⟨rfl,_,Eq.trans (World.drewN_drewN _ _ _) (congrArg (World.drewN _) (Nat.add_assoc _ _ _))⟩)));try go_wp2_with (first | (go_at_call 89;(with_reducible refine (deflate_alike.calls kj3 a0 a1 (rd l2 Qa) Qd _ A11.out).mono ?_);rintro e w' ⟨rfl,⟨nd,rfl⟩⟩;(try first | exact ⟨rfl,_,World.drewN_drewN _ _ _⟩ | exact ⟨rfl,_,Eq.trans (World.drewN_drewN _ _ _) (congrArg (World.drewN _) (Nat.add_assoc _ _ _))⟩)))));go_roundg kj3
     case measure=>have:=HK1.out;have:=HJ3.out;omega
     case rel=>exact ⟨(Qj),(Qn),(wrap64 (Qa - 1)),(by first | rfl | (simp;done) | (simp [*];done)),(by first | rfl | (simp;done) | (simp [*];done)),(by first | rfl | (simp;done) | (simp [*];done)),H',⟨by have:=HK1.out;have:=HJ3.out;omega⟩,by repeat (first | exact Drawn0.refl _ | apply Drawn0.step)⟩
 ·replace c8:=Bool.eq_false_iff.mpr c8;subst c8;have H1:(if Qj < 3 then (some (0,0)) else (some (Qj,Qn)))=some (r1,r2):=by rw [if_neg (show ¬ (false=true) by decide)] at H;exact H
  clear H;have H:=H1;clear H1;by_cases c21:Qj < 3
  ·rw [if_pos c21] at H;have QG:=decide_eq_true c21;clear c21;simp only [Option.some.injEq,Prod.mk.injEq] at H;obtain ⟨rfl,rfl⟩:=H;go_wp2;(repeat (go_quiet (fail);try go_wp2));go_ret2;exact ⟨by first | rfl | (simp;done) | (simp [*];done),by repeat (first | exact Drawn0.refl _ | apply Drawn0.step)⟩
  rw [if_neg c21] at H;have QG:=decide_eq_false c21;clear c21;simp only [Option.some.injEq,Prod.mk.injEq] at H;obtain ⟨rfl,rfl⟩:=H;go_wp2;repeat (go_quiet (fail);try go_wp2)
  go_ret2;exact ⟨by first | rfl | (simp;done) | (simp [*];done),by repeat (first | exact Drawn0.refl _ | apply Drawn0.step)⟩
end Go.Proofs.Ytpbhkdamkbopkaa.GRuns
namespace Go.Proofs.Ytpbhkdamkbopkaa.GRuns
open Go.Proofs.Ytpbhkdamkbopkaa.Sq
open Go.RowKit Go.Proofs.YtpbhkdamkbopkaaW.PrintWords Go.Proofs.YtpbhkdamkbopkaaW.PrintLast Go.Proofs.YtpbhkdamkbopkaaW.PrintMore Go.Proofs.Ytpbhkdamkbopkaa.Wr0
attribute [local go_sem] max2_int min2_int max_two min_two max_three min_three max_four min_four
set_option linter.unusedVariables false
set_option linter.unusedSimpArgs false
attribute [local go_sem high] eqA97
def deflate_lengthOf.f (a0:Int):Option (Int × Int):=if (wrap64 (a0 - 257)) < 8 then (some (wrap64 ((wrap64 (a0 - 257))+3),0)) else (if 0≤(wrap64 ((wrap64 (Int.tdiv (wrap64 (a0 - 257)) 4)) - 1)) then (some (wrap64 ((shl .i64 (wrap64 (4+(Int.tmod (wrap64 (a0 - 257)) 4))) (wrap64 ((wrap64 (Int.tdiv (wrap64 (a0 - 257)) 4)) - 1)))+3),wrap64 ((wrap64 (Int.tdiv (wrap64 (a0 - 257)) 4)) - 1))) else (none))
set_option maxHeartbeats 8000000 in
set_option maxRecDepth 100000 in
theorem deflate_lengthOf.calls (a0 : Int) (r1 : Int) (r2 : Int) (w : World) (h : deflate_lengthOf.f a0 = some (r1, r2)) :
  Calls Try.prog 91 #[.int .i64 a0] w fun e w'=>e=.returned (.tuple #[.int .i64 r1,.int .i64 r2])∧Drawn0 w w':=by
 have H:=h;unfold deflate_lengthOf.f at H;clear h;by_cases c2:(wrap64 (a0 - 257)) < 8
 ·rw [if_pos c2] at H;have Qd:=decide_eq_true c2;clear c2;simp only [Option.some.injEq,Prod.mk.injEq] at H;obtain ⟨rfl,rfl⟩:=H;go_enter Try.func91,Try.ntmps91;go_wp2;go_ret2;exact ⟨by first | rfl | (simp;done) | (simp [*];done),by repeat (first | exact Drawn0.refl _ | apply Drawn0.step)⟩
 rw [if_neg c2] at H;have Qd:=decide_eq_false c2;clear c2;obtain ⟨ji3,Qb⟩:∃ j_:Int,(wrap64 ((wrap64 (Int.tdiv (wrap64 (a0 - 257)) 4)) - 1))=j_:=⟨_,rfl⟩;replace H:(if 0≤(ji3) then (some (wrap64 ((shl .i64 (wrap64 (4+(Int.tmod (wrap64 (a0 - 257)) 4))) (ji3))+3),ji3)) else (none))=some (r1,r2):=by first | (rw [Qb] at H;exact H) | (simp only [Qb] at H ⊢;exact H)
 have hji3w:(IntKind.i64.wrap ((wrap64 (Int.tdiv (wrap64 (a0 - 257)) 4)) - 1))=ji3:=(i64_w _).trans Qb;by_cases c4:0≤(ji3);rotate_left
 ·rw [if_neg c4] at H;exact absurd H (by simp)
 rw [if_pos c4] at H;have c4b0:=eq_true c4;have c4b1:=decide_eq_true c4;clear c4;obtain ⟨ji5,Qa⟩:∃ j_:Int,(shl .i64 (wrap64 (4+(Int.tmod (wrap64 (a0 - 257)) 4))) (ji3))=j_:=⟨_,rfl⟩;replace H:(some (wrap64 ((ji5)+3),ji3))=some (r1,r2):=by first | (rw [Qa] at H;exact H) | (simp only [Qa] at H ⊢;exact H)
 have Qc:(IntKind.i64.wrap ((wrap64 (4+(Int.tmod (wrap64 (a0 - 257)) 4)))*2 ^ min (ji3).toNat 64))=ji5:=Qa;have hji5z:(ji3)≤64 → (IntKind.i64.wrap ((wrap64 (4+(Int.tmod (wrap64 (a0 - 257)) 4)))*2 ^ (ji3).toNat))=ji5:=shl_small Qa;have hji5y:(wrap64 ((wrap64 (4+(Int.tmod (wrap64 (a0 - 257)) 4)))*2 ^ min (ji3).toNat 64))=ji5:=(i64_w _).symm.trans Qc;have hji5x:(ji3)≤64 → (wrap64 ((wrap64 (4+(Int.tmod (wrap64 (a0 - 257)) 4)))*2 ^ (ji3).toNat))=ji5:=fun h_=>(i64_w _).symm.trans (hji5z h_);simp only [Option.some.injEq,Prod.mk.injEq] at H;obtain ⟨rfl,rfl⟩:=H;go_enter Try.func91,Try.ntmps91;go_wp2;go_ret2;exact ⟨by first | rfl | (simp;done) | (simp only [← Qb,← Qa] <;> (first | rfl | simp)) | (simp [*];done),by repeat (first | exact Drawn0.refl _ | apply Drawn0.step)⟩
def deflate_distanceOf.f (a0:Int):Option (Int × Int):=if a0 < 4 then (some (wrap64 (a0+1),0)) else (if 0≤(wrap64 ((wrap64 (Int.tdiv a0 2)) - 1)) then (some (wrap64 ((shl .i64 (wrap64 (2+(Int.tmod a0 2))) (wrap64 ((wrap64 (Int.tdiv a0 2)) - 1)))+1),wrap64 ((wrap64 (Int.tdiv a0 2)) - 1))) else (none))
set_option maxHeartbeats 8000000 in
set_option maxRecDepth 100000 in
theorem deflate_distanceOf.calls (a0 : Int) (r1 : Int) (r2 : Int) (w : World) (h : deflate_distanceOf.f a0 = some (r1, r2)) :
  Calls Try.prog 92 #[.int .i64 a0] w fun e w'=>e=.returned (.tuple #[.int .i64 r1,.int .i64 r2])∧Drawn0 w w':=by
 have H:=h;unfold deflate_distanceOf.f at H;clear h;by_cases c2:a0 < 4
 ·rw [if_pos c2] at H;have Qd:=decide_eq_true c2;clear c2;simp only [Option.some.injEq,Prod.mk.injEq] at H;obtain ⟨rfl,rfl⟩:=H;go_enter Try.func92,Try.ntmps92;go_wp2;go_ret2;exact ⟨by first | rfl | (simp;done) | (simp [*];done),by repeat (first | exact Drawn0.refl _ | apply Drawn0.step)⟩
 rw [if_neg c2] at H;have Qd:=decide_eq_false c2;clear c2;obtain ⟨ji3,Qb⟩:∃ j_:Int,(wrap64 ((wrap64 (Int.tdiv a0 2)) - 1))=j_:=⟨_,rfl⟩;replace H:(if 0≤(ji3) then (some (wrap64 ((shl .i64 (wrap64 (2+(Int.tmod a0 2))) (ji3))+1),ji3)) else (none))=some (r1,r2):=by first | (rw [Qb] at H;exact H) | (simp only [Qb] at H ⊢;exact H)
 have hji3w:(IntKind.i64.wrap ((wrap64 (Int.tdiv a0 2)) - 1))=ji3:=(i64_w _).trans Qb;by_cases c4:0≤(ji3);rotate_left
 ·rw [if_neg c4] at H;exact absurd H (by simp)
 rw [if_pos c4] at H;have c4b0:=eq_true c4;have c4b1:=decide_eq_true c4;clear c4;obtain ⟨ji5,Qa⟩:∃ j_:Int,(shl .i64 (wrap64 (2+(Int.tmod a0 2))) (ji3))=j_:=⟨_,rfl⟩;replace H:(some (wrap64 ((ji5)+1),ji3))=some (r1,r2):=by first | (rw [Qa] at H;exact H) | (simp only [Qa] at H ⊢;exact H)
 have Qc:(IntKind.i64.wrap ((wrap64 (2+(Int.tmod a0 2)))*2 ^ min (ji3).toNat 64))=ji5:=Qa;have hji5z:(ji3)≤64 → (IntKind.i64.wrap ((wrap64 (2+(Int.tmod a0 2)))*2 ^ (ji3).toNat))=ji5:=shl_small Qa;have hji5y:(wrap64 ((wrap64 (2+(Int.tmod a0 2)))*2 ^ min (ji3).toNat 64))=ji5:=(i64_w _).symm.trans Qc;have hji5x:(ji3)≤64 → (wrap64 ((wrap64 (2+(Int.tmod a0 2)))*2 ^ (ji3).toNat))=ji5:=fun h_=>(i64_w _).symm.trans (hji5z h_);simp only [Option.some.injEq,Prod.mk.injEq] at H;obtain ⟨rfl,rfl⟩:=H;go_enter Try.func92,Try.ntmps92;go_wp2;go_ret2;exact ⟨by first | rfl | (simp;done) | (simp only [← Qb,← Qa] <;> (first | rfl | simp)) | (simp [*];done),by repeat (first | exact Drawn0.refl _ | apply Drawn0.step)⟩
mutual
def celluloidref06_Run.l0:Nat → ByteArray → Int → Int → Int → Int → Option (Int × Int)
 |0,_,_,_,_,_=>none
 |k+1,x0,x1,x6,x7,x8=>if x8≤x1 then (celluloidref06_Run.j1 k x0 x1 x6 x7 x8 (decide (x8≤32768))) else (celluloidref06_Run.j1 k x0 x1 x6 x7 x8 false)
def celluloidref06_Run.j1:Nat → ByteArray → Int → Int → Int → Int → Bool → Option (Int × Int)
 |0,_,_,_,_,_,_=>none
 |k+1,x0,x1,x6,x7,x8,x18=>if x18=true then (celluloidref06_Run.l1 k x0 x1 x6 x7 x8 0) else (if x6 < 3 then (some (0,0)) else (some (x6,x7)))
def celluloidref06_Run.l1:Nat → ByteArray → Int → Int → Int → Int → Int → Option (Int × Int)
 |0,_,_,_,_,_,_=>none
 |k+1,x0,x1,x6,x7,x8,x9=>if x9 < 258 then (if (wrap64 (x1+x9)) < (x0.size:Int) then (if 0≤(wrap64 (x1+x9)) then (if 0≤(wrap64 ((wrap64 (x1+x9)) - x8)) then (if (wrap64 ((wrap64 (x1+x9)) - x8)) < (x0.size:Int) then (if (bt x0 (wrap64 (x1+x9)))=(bt x0 (wrap64 ((wrap64 (x1+x9)) - x8))) then (celluloidref06_Run.l1 k x0 x1 x6 x7 x8 (wrap64 (x9+1))) else (if x9 > x6 then (celluloidref06_Run.l0 k x0 x1 x9 x8 (wrap64 (x8+1))) else (celluloidref06_Run.l0 k x0 x1 x6 x7 (wrap64 (x8+1))))) else (none)) else (none)) else (none)) else (if x9 > x6 then (celluloidref06_Run.l0 k x0 x1 x9 x8 (wrap64 (x8+1))) else (celluloidref06_Run.l0 k x0 x1 x6 x7 (wrap64 (x8+1))))) else (if x9 > x6 then (celluloidref06_Run.l0 k x0 x1 x9 x8 (wrap64 (x8+1))) else (celluloidref06_Run.l0 k x0 x1 x6 x7 (wrap64 (x8+1))))
end
def celluloidref06_Run.f (k:Nat) (a0:ByteArray) (a1:Int):Option (Int × Int):=if a1 < 0 then (some (0,0)) else (celluloidref06_Run.l0 k a0 a1 0 0 1)
set_option maxHeartbeats 8000000 in
set_option maxRecDepth 100000 in
theorem celluloidref06_Run.calls (k : Nat) (a0 : ByteArray) (a1 : Int) (r1 : Int) (r2 : Int) (w : World) (h : celluloidref06_Run.f k a0 a1 = some (r1, r2)) :
  Calls Try.prog 38 #[.string a0,.int .i64 a1] w fun e w'=>e=.returned (.tuple #[.int .i64 r1,.int .i64 r2])∧Drawn0 w w':=by
 have H:=h;unfold celluloidref06_Run.f at H;clear h;by_cases c3:a1 < 0
 ·rw [if_pos c3] at H;have Qj:=decide_eq_true c3;clear c3;simp only [Option.some.injEq,Prod.mk.injEq] at H;obtain ⟨rfl,rfl⟩:=H;go_enter Try.func38,Try.ntmps38;go_wp2;repeat (go_quiet (fail);try go_wp2)
  go_ret2;exact ⟨by first | rfl | (simp;done) | (simp [*];done),by repeat (first | exact Drawn0.refl _ | apply Drawn0.step)⟩
 rw [if_neg c3] at H;have Qj:=decide_eq_false c3;clear c3;have H':=Aside0.mk H;clear H;go_enter Try.func38,Try.ntmps38;go_wp2;repeat (go_quiet (fail);try go_wp2)
 go_loopg [6,7,8] k (fun kq v6 v7 v8 w'=>∃ (Qb:Int) (Qe:Int) (Qa:Int),v6=.int .i64 Qb∧v7=.int .i64 Qe∧v8=.int .i64 Qa∧Aside0 (celluloidref06_Run.l0 kq a0 a1 Qb Qe Qa=some (r1,r2))∧Aside0 (kq≤k)∧Drawn0 w w')
 case atStart=>exact ⟨(0),(0),(1),(by first | rfl | (simp;done) | (simp [*];done)),(by first | rfl | (simp;done) | (simp [*];done)),(by first | rfl | (simp;done) | (simp [*];done)),H',⟨Nat.le_refl _⟩,by repeat (first | exact Drawn0.refl _ | apply Drawn0.step)⟩
 clear H';clear Qj;obtain ⟨Qb,Qe,Qa,rfl,rfl,rfl,HA,HK1,⟨m1,rfl⟩⟩:=hrel
 rcases gk with _ | k1
 ·exact absurd HA.out (by simp [celluloidref06_Run.l0])
 have H:=HA.out;clear HA;simp only [celluloidref06_Run.l0] at H;have HC4:=Aside0.mk H;clear H;go_upto_region 5 with (fail)
 repeat (go_quiet (fail);go_upto_region 5 with (fail))
 go_cut [18] (fun v18 wc=>∃ (kq:Nat) (Qf:Bool),v18=.bool Qf∧Aside0 (celluloidref06_Run.j1 kq a0 a1 Qb Qe Qa Qf=some (r1,r2))∧Aside0 (kq≤k1)∧Drawn0 w wc)
 case first =>
  have H:=HC4.out;clear HC4;by_cases c5:Qa≤a1;rotate_left
  ·rw [if_neg c5] at H;have Qg:=decide_eq_false c5;clear c5
   (first | rw [Qg] | (simp only [i64_w,i32_w];rw [Qg]) | skip)
   have H':=Aside0.mk H;clear H;go_wp2;(repeat (go_quiet (fail);try go_wp2));go_meet
   case rel=>exact ⟨_,(false),(by first | rfl | (simp;done) | (simp [*];done)),H',⟨by have:=HK1.out;first | omega | exact Nat.le_refl _⟩,by repeat (first | exact Drawn0.refl _ | apply Drawn0.step)⟩
  rw [if_pos c5] at H;have Qg:=decide_eq_true c5;clear c5
  (first | rw [Qg] | (simp only [i64_w,i32_w];rw [Qg]) | skip)
  have H':=Aside0.mk H;clear H;go_wp2;repeat (go_quiet (fail);try go_wp2)
  go_meet
  case rel=>exact ⟨_,(decide (Qa≤32768)),(by first | rfl | (simp;done) | (simp [*];done)),H',⟨by have:=HK1.out;first | omega | exact Nat.le_refl _⟩,by repeat (first | exact Drawn0.refl _ | apply Drawn0.step)⟩
 clear HC4;obtain ⟨kq,Qf,rfl,HA,HJ3,⟨mc3,rfl⟩⟩:=hcut
 rcases kq with _ | kj3
 ·exact absurd HA.out (by simp [celluloidref06_Run.j1])
 have H:=HA.out;clear HA;simp only [celluloidref06_Run.j1] at H;by_cases c6:Qf=true
 ·subst c6;have H1:(celluloidref06_Run.l1 kj3 a0 a1 Qb Qe Qa 0)=some (r1,r2):=by rw [if_pos rfl] at H;exact H
  clear H;have H:=H1;clear H1;have H':=Aside0.mk H;clear H;go_wp2;repeat (go_quiet (fail);try go_wp2)
  go_loopg [9] kj3 (fun kq v9 w'=>∃ (Qc:Int),v9=.int .i64 Qc∧Aside0 (celluloidref06_Run.l1 kq a0 a1 Qb Qe Qa Qc=some (r1,r2))∧Aside0 (kq≤kj3)∧Drawn0 w w')
  case atStart=>exact ⟨(0),(by first | rfl | (simp;done) | (simp [*];done)),H',⟨Nat.le_refl _⟩,by repeat (first | exact Drawn0.refl _ | apply Drawn0.step)⟩
  clear H';obtain ⟨Qc,rfl,HA,HK3,⟨m3,rfl⟩⟩:=hrel
  rcases gk with _ | k3
  ·exact absurd HA.out (by simp [celluloidref06_Run.l1])
  have H:=HA.out;clear HA;simp only [celluloidref06_Run.l1] at H;by_cases c7:Qc < 258
  ·rw [if_pos c7] at H;have Qt:=decide_eq_true c7;clear c7;by_cases c8:(wrap64 (a1+Qc)) < (a0.size:Int)
   ·rw [if_pos c8] at H;have Qk:=decide_eq_true c8;clear c8;obtain ⟨ji9,Qi⟩:∃ j_:Int,(wrap64 (a1+Qc))=j_:=⟨_,rfl⟩;(replace H:(if 0≤(ji9) then (if 0≤(wrap64 ((ji9) - Qa)) then (if (wrap64 ((ji9) - Qa)) < (a0.size:Int) then (if (bt a0 (ji9))=(bt a0 (wrap64 ((ji9) - Qa))) then (celluloidref06_Run.l1 k3 a0 a1 Qb Qe Qa (wrap64 (Qc+1))) else (if Qc > Qb then (celluloidref06_Run.l0 k3 a0 a1 Qc Qa (wrap64 (Qa+1))) else (celluloidref06_Run.l0 k3 a0 a1 Qb Qe (wrap64 (Qa+1))))) else (none)) else (none)) else (none))=some (r1,r2):=by first | (rw [Qi] at H;exact H) | (simp only [Qi] at H ⊢;exact H))
    (try rw [Qi] at Qk)
    have hji9w:(IntKind.i64.wrap (a1+Qc))=ji9:=(i64_w _).trans Qi;by_cases c10:0≤(ji9);rotate_left
    ·rw [if_neg c10] at H;exact absurd H (by simp)
    rw [if_pos c10] at H;have c10b0:=decide_eq_true c10;clear c10;obtain ⟨Qd,Qh⟩:∃ j_:Int,(wrap64 ((ji9) - Qa))=j_:=⟨_,rfl⟩;(replace H:(if 0≤(Qd) then (if (Qd) < (a0.size:Int) then (if (bt a0 (ji9))=(bt a0 (Qd)) then (celluloidref06_Run.l1 k3 a0 a1 Qb Qe Qa (wrap64 (Qc+1))) else (if Qc > Qb then (celluloidref06_Run.l0 k3 a0 a1 Qc Qa (wrap64 (Qa+1))) else (celluloidref06_Run.l0 k3 a0 a1 Qb Qe (wrap64 (Qa+1))))) else (none)) else (none))=some (r1,r2):=by first | (rw [Qh] at H;exact H) | (simp only [Qh] at H ⊢;exact H));have hji12w:(IntKind.i64.wrap ((ji9) - Qa))=Qd:=(i64_w _).trans Qh;by_cases c13:0≤(Qd);rotate_left
    ·rw [if_neg c13] at H;exact absurd H (by simp)
    rw [if_pos c13] at H;have c13b0:=decide_eq_true c13;clear c13;by_cases c14:(Qd) < (a0.size:Int);rotate_left
    ·rw [if_neg c14] at H;exact absurd H (by simp)
    rw [if_pos c14] at H;have c14b0:=decide_eq_true c14;clear c14;by_cases c16:(bt a0 (ji9))=(bt a0 (Qd))
    ·rw [if_pos c16] at H;have Ql:((bt a0 (ji9)) == (bt a0 (Qd)))=true:=beq_iff_eq.mpr c16;have Qm:((bt a0 (ji9)) != (bt a0 (Qd)))=false:=bne_eq_false_iff_eq.mpr c16;clear c16;have H':=Aside0.mk H;clear H;have p11:0≤((ji9):Int):=pd;have q11:(ji9) < (a0.size:Int):=pd;have Qn:=bt_at a0 (ji9);replace p11:=eq_true p11;replace q11:=eq_true q11;have p15:0≤((Qd):Int):=pd;have q15:(Qd) < (a0.size:Int):=pd;have Qo:=bt_at a0 (Qd);replace p15:=eq_true p15;replace q15:=eq_true q15;go_wp2;(repeat (go_quiet (fail);try go_wp2));go_roundg k3
     case measure=>have:=HK1.out;have:=HJ3.out;have:=HK3.out;omega
     case rel=>exact ⟨(wrap64 (Qc+1)),(by first | rfl | (simp;done) | (simp [*];done)),H',⟨by have:=HK1.out;have:=HJ3.out;have:=HK3.out;omega⟩,by repeat (first | exact Drawn0.refl _ | apply Drawn0.step)⟩
    ·rw [if_neg c16] at H;have Ql:((bt a0 (ji9)) == (bt a0 (Qd)))=false:=beq_eq_false_iff_ne.mpr c16;have Qm:((bt a0 (ji9)) != (bt a0 (Qd)))=true:=bne_iff_ne.mpr c16;by_cases c17:Qc > Qb
     ·rw [if_pos c17] at H;have Qp:=decide_eq_true c17;clear c17;have H':=Aside0.mk H;clear H;have p11:0≤((ji9):Int):=pd;have q11:(ji9) < (a0.size:Int):=pd;have Qn:=bt_at a0 (ji9);replace p11:=eq_true p11;replace q11:=eq_true q11;have p15:0≤((Qd):Int):=pd;have q15:(Qd) < (a0.size:Int):=pd;have Qo:=bt_at a0 (Qd);replace p15:=eq_true p15;replace q15:=eq_true q15;go_wp2;(repeat (go_quiet (fail);try go_wp2));go_roundg k3
      case measure=>have:=HK1.out;have:=HJ3.out;have:=HK3.out;omega
      case rel=>exact ⟨(Qc),(Qa),(wrap64 (Qa+1)),(by first | rfl | (simp;done) | (simp [*];done)),(by first | rfl | (simp;done) | (simp [*];done)),(by first | rfl | (simp;done) | (simp [*];done)),H',⟨by have:=HK1.out;have:=HJ3.out;have:=HK3.out;omega⟩,by repeat (first | exact Drawn0.refl _ | apply Drawn0.step)⟩
     ·rw [if_neg c17] at H;have Qp:=decide_eq_false c17;clear c17;have H':=Aside0.mk H;clear H;have p11:0≤((ji9):Int):=pd;have q11:(ji9) < (a0.size:Int):=pd;have Qn:=bt_at a0 (ji9);replace p11:=eq_true p11;replace q11:=eq_true q11;have p15:0≤((Qd):Int):=pd;have q15:(Qd) < (a0.size:Int):=pd;have Qo:=bt_at a0 (Qd);replace p15:=eq_true p15;replace q15:=eq_true q15;go_wp2;(repeat (go_quiet (fail);try go_wp2));go_roundg k3
      case measure=>have:=HK1.out;have:=HJ3.out;have:=HK3.out;omega
      case rel=>exact ⟨(Qb),(Qe),(wrap64 (Qa+1)),(by first | rfl | (simp;done) | (simp [*];done)),(by first | rfl | (simp;done) | (simp [*];done)),(by first | rfl | (simp;done) | (simp [*];done)),H',⟨by have:=HK1.out;have:=HJ3.out;have:=HK3.out;omega⟩,by repeat (first | exact Drawn0.refl _ | apply Drawn0.step)⟩
   ·rw [if_neg c8] at H;have Qk:=decide_eq_false c8;clear c8;by_cases c18:Qc > Qb
    ·rw [if_pos c18] at H;have Qq:=decide_eq_true c18;clear c18;have H':=Aside0.mk H;clear H;go_wp2;(repeat (go_quiet (fail);try go_wp2));go_roundg k3
     case measure=>have:=HK1.out;have:=HJ3.out;have:=HK3.out;omega
     case rel=>exact ⟨(Qc),(Qa),(wrap64 (Qa+1)),(by first | rfl | (simp;done) | (simp [*];done)),(by first | rfl | (simp;done) | (simp [*];done)),(by first | rfl | (simp;done) | (simp [*];done)),H',⟨by have:=HK1.out;have:=HJ3.out;have:=HK3.out;omega⟩,by repeat (first | exact Drawn0.refl _ | apply Drawn0.step)⟩
    rw [if_neg c18] at H;have Qq:=decide_eq_false c18;clear c18;have H':=Aside0.mk H;clear H;go_wp2;(repeat (go_quiet (fail);try go_wp2));go_roundg k3
    case measure=>have:=HK1.out;have:=HJ3.out;have:=HK3.out;omega
    case rel=>exact ⟨(Qb),(Qe),(wrap64 (Qa+1)),(by first | rfl | (simp;done) | (simp [*];done)),(by first | rfl | (simp;done) | (simp [*];done)),(by first | rfl | (simp;done) | (simp [*];done)),H',⟨by have:=HK1.out;have:=HJ3.out;have:=HK3.out;omega⟩,by repeat (first | exact Drawn0.refl _ | apply Drawn0.step)⟩
  ·rw [if_neg c7] at H;have Qt:=decide_eq_false c7;clear c7;by_cases c19:Qc > Qb
   ·rw [if_pos c19] at H;have Qr:=decide_eq_true c19;clear c19;have H':=Aside0.mk H;clear H;go_wp2;(repeat (go_quiet (fail);try go_wp2));go_roundg k3
    case measure=>have:=HK1.out;have:=HJ3.out;have:=HK3.out;omega
    case rel=>exact ⟨(Qc),(Qa),(wrap64 (Qa+1)),(by first | rfl | (simp;done) | (simp [*];done)),(by first | rfl | (simp;done) | (simp [*];done)),(by first | rfl | (simp;done) | (simp [*];done)),H',⟨by have:=HK1.out;have:=HJ3.out;have:=HK3.out;omega⟩,by repeat (first | exact Drawn0.refl _ | apply Drawn0.step)⟩
   rw [if_neg c19] at H;have Qr:=decide_eq_false c19;clear c19;have H':=Aside0.mk H;clear H;go_wp2;(repeat (go_quiet (fail);try go_wp2));go_roundg k3
   case measure=>have:=HK1.out;have:=HJ3.out;have:=HK3.out;omega
   case rel=>exact ⟨(Qb),(Qe),(wrap64 (Qa+1)),(by first | rfl | (simp;done) | (simp [*];done)),(by first | rfl | (simp;done) | (simp [*];done)),(by first | rfl | (simp;done) | (simp [*];done)),H',⟨by have:=HK1.out;have:=HJ3.out;have:=HK3.out;omega⟩,by repeat (first | exact Drawn0.refl _ | apply Drawn0.step)⟩
 ·replace c6:=Bool.eq_false_iff.mpr c6;subst c6;have H1:(if Qb < 3 then (some (0,0)) else (some (Qb,Qe)))=some (r1,r2):=by rw [if_neg (show ¬ (false=true) by decide)] at H;exact H
  clear H;have H:=H1;clear H1;by_cases c20:Qb < 3
  ·rw [if_pos c20] at H;have Qs:=decide_eq_true c20;clear c20;simp only [Option.some.injEq,Prod.mk.injEq] at H;obtain ⟨rfl,rfl⟩:=H;go_wp2;(repeat (go_quiet (fail);try go_wp2));go_ret2;exact ⟨by first | rfl | (simp;done) | (simp [*];done),by repeat (first | exact Drawn0.refl _ | apply Drawn0.step)⟩
  rw [if_neg c20] at H;have Qs:=decide_eq_false c20;clear c20;simp only [Option.some.injEq,Prod.mk.injEq] at H;obtain ⟨rfl,rfl⟩:=H;go_wp2;repeat (go_quiet (fail);try go_wp2)
  go_ret2;exact ⟨by first | rfl | (simp;done) | (simp [*];done),by repeat (first | exact Drawn0.refl _ | apply Drawn0.step)⟩
end Go.Proofs.Ytpbhkdamkbopkaa.GRuns
namespace Go.Proofs.Ytpbhkdamkbopkaa.Wr
set_option linter.unusedSimpArgs false
set_option linter.unusedVariables false
open Go.RowKit Go.Proofs.YtpbhkdamkbopkaaW.PrintWords Go.Proofs.YtpbhkdamkbopkaaW.PrintLast Go.Proofs.YtpbhkdamkbopkaaW.PrintMore
open Go.Proofs.Ytpbhkdamkbopkaa.GRuns (deflate_lengthOf.f deflate_lengthOf.calls deflate_distanceOf.f deflate_distanceOf.calls)
/-- The least length and the bits of a length symbol,by its number behind 257. -/
def lof (k:Nat):Int × Int:=(deflate_lengthOf.f (257+(k:Int))).getD (0,0)
/-- The same of a distance symbol. -/
def dof (k:Nat):Int × Int:=(deflate_distanceOf.f (k:Int)).getD (0,0)
theorem lof_all:∀ k:Nat,k < 28 → deflate_lengthOf.f (257+(k:Int))=some (lof k)∧3≤(lof k).1∧(lof k).1≤258∧0≤(lof k).2∧(lof k).2≤5:=by decide +kernel
theorem dof_all:∀ k:Nat,k < 30 → deflate_distanceOf.f (k:Int)=some (dof k)∧1≤(dof k).1∧(dof k).1≤32768∧0≤(dof k).2∧(dof k).2≤13:=by decide +kernel
/-- The last symbol,among the first k,whose least length is no more than n. -/
def lf (n:Int):Nat → Int × Int × Int
 |0=>(257,3,0)
 |k+1=>if (lof k).1≤n then (257+(k:Int),lof k) else lf n k
def df (n:Int):Nat → Int × Int × Int
 |0=>(0,1,0)
 |k+1=>if (dof k).1≤n then ((k:Int),dof k) else df n k
theorem lf_rng {n:Int} (hn:3≤n):∀ k,k≤28 → 257≤(lf n k).1∧(lf n k).1≤284∧(lf n k).2.1≤n∧3≤(lf n k).2.1∧0≤(lf n k).2.2∧(lf n k).2.2≤5:=by
 intro k
 induction k with
 |zero=>intro _;simp only [lf,df];omega
 |succ k ih =>
  intro hk;obtain ⟨_,h1,h2,h3,h4⟩:=lof_all k (by omega);unfold lf
  split
  ·simp only;omega
  ·exact ih (by omega)
theorem df_rng {n:Int} (hn:1≤n):∀ k,k≤30 → 0≤(df n k).1∧(df n k).1≤29∧(df n k).2.1≤n∧1≤(df n k).2.1∧0≤(df n k).2.2∧(df n k).2.2≤13:=by
 intro k
 induction k with
 |zero=>intro _;simp only [lf,df];omega
 |succ k ih =>
  intro hk;obtain ⟨_,h1,h2,h3,h4⟩:=dof_all k (by omega);unfold df
  split
  ·simp only;omega
  ·exact ih (by omega)
/-- The symbol of a length. -/
def lsym (n:Int):Int × Int × Int:=if n=258 then (285,258,0) else lf n 28
def dsym (n:Int):Int × Int × Int:=df n 30
theorem lsym_rng {n:Int} (hn:3≤n):257≤(lsym n).1∧(lsym n).1≤285∧(lsym n).2.1≤n∧3≤(lsym n).2.1∧0≤(lsym n).2.2∧(lsym n).2.2≤5:=by
 unfold lsym
 split
 ·simp only;omega
 ·have:=lf_rng hn 28 (Nat.le_refl _);omega
/-- A run's bits. -/
def rc (n far:Int):List Int:=sc (lsym n).1 ++ nb (n - (lsym n).2.1) (lsym n).2.2.toNat ++ cb (dsym far).1 5 ++ nb (far - (dsym far).2.1) (dsym far).2.2.toNat
theorem rc_bits (n far:Int):Bits (rc n far):=(((sc_bits _).append (nb_bits _ _)).append (cb_bits _ _)).append (nb_bits _ _)
theorem Fro.draw {w w1 w2:World} {g:Nat} {v v1:Value} (h:Fro w g v w1 v1) (hd:Drawn0 w1 w2):Fro w g v w2 v1:=by
 obtain ⟨n,rfl⟩:=hd.out;exact ⟨keep_drewN h.keep n,h.own⟩
theorem bits_zero (w0 : World) (g : Nat) (v0 : Value) (B : List Int) (v : Int) (w : World) (h : WSt w0 g v0 (pk B) (fr B.length) w) (hB : Bits B) (hv0 : 0 ≤ v) (hv1 : v ≤ 1000000) (hl : B.length ≤ 1000000000) :
  Calls Try.prog 63 #[.pointer (some ⟨g,0,none⟩),.int .i64 v,.int .i64 0] w fun e w'=>∃ v1,e=.returned (.tuple #[])∧WSt w0 g v1 (pk (B ++ nb v 0)) (fr (B ++ nb v 0).length) w'∧Fro w g v0 w' v1 :=
 bits_calls w0 g v0 B v 0 w h hB hv0 hv1 (by decide) hl
theorem code_five (w0 : World) (g : Nat) (v0 : Value) (B : List Int) (v : Int) (w : World) (h : WSt w0 g v0 (pk B) (fr B.length) w) (hB : Bits B) (hv0 : 0 ≤ v) (hv1 : v ≤ 1000000) (hl : B.length ≤ 1000000000 - 16) :
  Calls Try.prog 90 #[.pointer (some ⟨g,0,none⟩),.int .i64 v,.int .i64 5] w fun e w'=>∃ v1,e=.returned (.tuple #[])∧WSt w0 g v1 (pk (B ++ cb v 5)) (fr (B ++ cb v 5).length) w'∧Fro w g v0 w' v1 :=
 code_calls w0 g v0 B v 5 w h hB hv0 hv1 (by decide) hl
set_option maxRecDepth 100000 in
set_option maxHeartbeats 2000000 in
theorem run_calls (w0 : World) (g : Nat) (v0 : Value) (B : List Int) (n far : Int) (w : World) (h : WSt w0 g v0 (pk B) (fr B.length) w) (hB : Bits B) (hn0 : 3 ≤ n) (hn1 : n ≤ 258) (hf0 : 1 ≤ far) (hf1 : far ≤ 32768) (hl : B.length ≤ 1000000000 - 100) :
  Calls Try.prog 65 #[.pointer (some ⟨g,0,none⟩),.int .i64 n,.int .i64 far] w fun e w'=>∃ v1,e=.returned (.tuple #[])∧WSt w0 g v1 (pk (B ++ rc n far)) (fr (B ++ rc n far).length) w'∧Fro w g v0 w' v1:=by
 have HH:=Aside0.mk h;have HB:=Aside0.mk hB;clear h hB;go_enter Try.func65,Try.ntmps65;go_wp2
 go_loopw [6,7,8,9] (fun v6 v7 v8 v9 w'=>∃ (k:Nat) (s b m:Int),k≤28∧v6=.int .i64 s∧v7=.int .i64 b∧v8=.int .i64 m∧v9=.int .i64 (257+(k:Int))∧Aside0 (lf n k=(s,b,m))∧Aside0 (WSt w0 g v0 (pk B) (fr B.length) w')∧Aside0 (Fro w g v0 w' v0)) (fun _ _ _ v9 _=>28 - (intOf v9 - 257).toNat)
 case atStart=>exact ⟨0,257,3,0,Nat.zero_le _,rfl,rfl,rfl,rfl,⟨rfl⟩,HH,⟨Fro.refl _ _ _⟩⟩
 clear HH;obtain ⟨k,s,b,m,hk,rfl,rfl,rfl,rfl,HL,HW,HF⟩:=hrel;by_cases hlt:k < 28
 ·have hdec:decide (257+(k:Int) < 285)=true:=decide_eq_true (by omega);obtain ⟨he,h1,h2,h3,h4⟩:=lof_all k hlt;obtain ⟨p,hp⟩:∃ p,p=lof k:=⟨_,rfl⟩;obtain ⟨b1,m1⟩:=p;rw [← hp] at he h1 h2 h3 h4;have HP:=Aside0.mk hp;have HE:=Aside0.mk he;clear hp he;by_cases c:b1≤n
  ·have hc:decide (b1≤n)=true:=decide_eq_true c;have HL2:Aside0 (lf n (k+1)=(257+(k:Int),b1,m1)):=⟨by show (if (lof k).1≤n then (257+(k:Int),lof k) else lf n k)=_;rw [← HP.out,if_pos c]⟩;(go_wp2_with (go_at_call 91;(with_reducible refine (deflate_lengthOf.calls (257+(k:Int)) b1 m1 _ HE.out).mono ?_);rintro e w' ⟨rfl,hd⟩;have HD:=Aside0.mk hd;clear hd))
   go_roundw
   case rel=>exact ⟨k+1,_,_,_,by omega,rfl,rfl,rfl,by go_num,HL2,⟨HW.out.below HD.out.below⟩,⟨HF.out.draw HD.out⟩⟩
   case measure=>simp [intOf];omega
  ·have hc:decide (b1≤n)=false:=decide_eq_false c;have HL2:Aside0 (lf n (k+1)=(s,b,m)):=⟨by show (if (lof k).1≤n then (257+(k:Int),lof k) else lf n k)=_;rw [← HP.out,if_neg c];exact HL.out⟩;(go_wp2_with (go_at_call 91;(with_reducible refine (deflate_lengthOf.calls (257+(k:Int)) b1 m1 _ HE.out).mono ?_);rintro e w' ⟨rfl,hd⟩;have HD:=Aside0.mk hd;clear hd))
   go_roundw
   case rel=>exact ⟨k+1,_,_,_,by omega,rfl,rfl,rfl,by go_num,HL2,⟨HW.out.below HD.out.below⟩,⟨HF.out.draw HD.out⟩⟩
   case measure=>simp [intOf];omega
 ·have hdec:decide (257+(k:Int) < 285)=false:=decide_eq_false (by omega);obtain rfl:k=28:=by omega
  have HN1:Aside0 (B.length≤1000000000 - 16):=⟨by omega⟩;obtain ⟨r1,r2,r3,r4,r5,r6⟩:=lsym_rng hn0;by_cases c:n=258
  focus
   (have hc:(n == 258)=true:=by rw [c];rfl);have HS:Aside0 (lsym n=(285,258,0)):=⟨by unfold lsym;rw [if_pos c]⟩;have N0:Aside0 ((0:Int)≤285):=⟨by decide⟩;have N1:Aside0 ((285:Int)≤300):=⟨by decide⟩;have N2:Aside0 ((0:Int)≤0):=⟨by decide⟩;have N3:Aside0 ((0:Int)≤1000000):=⟨by decide⟩;have N4:Aside0 (Bits (B ++ sc 285)):=⟨HB.out.append (sc_bits _)⟩;have N5:Aside0 ((B ++ sc 285).length≤1000000000):=⟨by have:=sc_len 285;rw [List.length_append];omega⟩;clear HL
   go_wp2_with (first
    |(go_at_call 64;(with_reducible refine (symbol_calls w0 g _ B 285 _ HW.out HB.out N0.out N1.out HN1.out).mono ?_);rintro e w' ⟨v2,rfl,hw2,hf2⟩;have HW2:=Aside0.mk hw2;have HF2:=Aside0.mk (HF.out.trans hf2);clear hw2 hf2)
    |(go_at_call 63;(with_reducible refine (bits_zero w0 g _ (B ++ sc 285) 0 _ HW2.out N4.out N2.out N3.out N5.out).mono ?_);rintro e w' ⟨v3,rfl,hw2,hf2⟩;have HW3:=Aside0.mk hw2;have HF3:=Aside0.mk (HF2.out.trans hf2);clear hw2 hf2))
   obtain ⟨C,hC⟩:∃ C,C=(B ++ sc 285) ++ nb 0 0:=⟨_,rfl⟩;have HC:Aside0 (C=B ++ (sc (lsym n).1 ++ nb (n - (lsym n).2.1) (lsym n).2.2.toNat)):=⟨by rw [hC,HS.out,List.append_assoc,c];rfl⟩;rw [← hC] at HW3;clear hC HS N0 N1 N2 N3 N4 N5 hc c HW HF HW2 HF2
  rotate_left
  focus
   have hc:(n == 258)=false:=beq_eq_false_iff_ne.2 c;have HS:Aside0 (lsym n=(s,b,m)):=⟨by unfold lsym;rw [if_neg c];exact HL.out⟩;rw [HS.out] at r1 r2 r3 r4 r5 r6;simp only at r1 r2 r3 r4 r5 r6;obtain ⟨mm,rfl⟩:∃ mm:Nat,m=(mm:Int):=⟨m.toNat,by omega⟩;have N0:Aside0 (0≤s):=⟨by omega⟩;have N1:Aside0 (s≤300):=⟨by omega⟩;have N2:Aside0 (0≤n - b):=⟨by omega⟩;have N3:Aside0 (n - b≤1000000):=⟨by omega⟩;have N4:Aside0 (Bits (B ++ sc s)):=⟨HB.out.append (sc_bits _)⟩;have N5:Aside0 ((B ++ sc s).length≤1000000000):=⟨by have:=sc_len s;rw [List.length_append];omega⟩;have N6:Aside0 (mm≤16):=⟨by omega⟩;clear HL
   go_wp2_with (first
    |(go_at_call 64;(with_reducible refine (symbol_calls w0 g _ B s _ HW.out HB.out N0.out N1.out HN1.out).mono ?_);rintro e w' ⟨v2,rfl,hw2,hf2⟩;have HW2:=Aside0.mk hw2;have HF2:=Aside0.mk (HF.out.trans hf2);clear hw2 hf2)
    |(go_at_call 63;(with_reducible refine (bits_calls w0 g _ (B ++ sc s) (n - b) mm _ HW2.out N4.out N2.out N3.out N6.out N5.out).mono ?_);rintro e w' ⟨v3,rfl,hw2,hf2⟩;have HW3:=Aside0.mk hw2;have HF3:=Aside0.mk (HF2.out.trans hf2);clear hw2 hf2))
   obtain ⟨C,hC⟩:∃ C,C=(B ++ sc s) ++ nb (n - b) mm:=⟨_,rfl⟩;have HC:Aside0 (C=B ++ (sc (lsym n).1 ++ nb (n - (lsym n).2.1) (lsym n).2.2.toNat)):=⟨by rw [hC,HS.out,List.append_assoc];rfl⟩;rw [← hC] at HW3;clear hC HS N0 N1 N2 N3 N4 N5 hc c HW HF HW2 HF2
  all_goals
   have HCB:Aside0 (Bits C∧C.length≤1000000000 - 60):=⟨by
    rw [HC.out];refine ⟨HB.out.append ((sc_bits _).append (nb_bits _ _)),?_⟩;have h1:=sc_len (lsym n).1;have h2:=(lsym_rng hn0).2.2.2.2.2;rw [List.length_append,List.length_append,nb_len];omega⟩
   go_loopw [6,7,8,41] (fun v6 v7 v8 v9 w'=>∃ (k:Nat) (s b m:Int),k≤30∧v6=.int .i64 s∧v7=.int .i64 b∧v8=.int .i64 m∧v9=.int .i64 (k:Int)∧Aside0 (df far k=(s,b,m))∧Aside0 (WSt w0 g v3 (pk C) (fr C.length) w')∧Aside0 (Fro w g v0 w' v3)) (fun _ _ _ v9 _=>30 - (intOf v9).toNat)
   case atStart=>exact ⟨0,0,1,0,Nat.zero_le _,rfl,rfl,rfl,rfl,⟨rfl⟩,HW3,HF3⟩
   clear HW3 HF3;obtain ⟨k,s,b,m,hk,rfl,rfl,rfl,rfl,HL,HW,HF⟩:=hrel;by_cases hlt2:k < 30
   ·have hdec2:decide ((k:Int) < 30)=true:=decide_eq_true (by omega);obtain ⟨he,h1,h2,h3,h4⟩:=dof_all k hlt2;obtain ⟨p,hp⟩:∃ p,p=dof k:=⟨_,rfl⟩;obtain ⟨b1,m1⟩:=p;rw [← hp] at he h1 h2 h3 h4;have HP:=Aside0.mk hp;have HE:=Aside0.mk he;clear hp he;by_cases c:b1≤far
    ·have hc:decide (b1≤far)=true:=decide_eq_true c;have HL2:Aside0 (df far (k+1)=((k:Int),b1,m1)):=⟨by show (if (dof k).1≤far then ((k:Int),dof k) else df far k)=_;rw [← HP.out,if_pos c]⟩;(go_wp2_with (go_at_call 92;(with_reducible refine (deflate_distanceOf.calls (k:Int) b1 m1 _ HE.out).mono ?_);rintro e w' ⟨rfl,hd⟩;have HD:=Aside0.mk hd;clear hd))
     go_roundw
     case rel=>exact ⟨k+1,_,_,_,by omega,rfl,rfl,rfl,by go_num,HL2,⟨HW.out.below HD.out.below⟩,⟨HF.out.draw HD.out⟩⟩
     case measure=>simp [intOf];omega
    ·have hc:decide (b1≤far)=false:=decide_eq_false c;have HL2:Aside0 (df far (k+1)=(s,b,m)):=⟨by show (if (dof k).1≤far then ((k:Int),dof k) else df far k)=_;rw [← HP.out,if_neg c];exact HL.out⟩;(go_wp2_with (go_at_call 92;(with_reducible refine (deflate_distanceOf.calls (k:Int) b1 m1 _ HE.out).mono ?_);rintro e w' ⟨rfl,hd⟩;have HD:=Aside0.mk hd;clear hd))
     go_roundw
     case rel=>exact ⟨k+1,_,_,_,by omega,rfl,rfl,rfl,by go_num,HL2,⟨HW.out.below HD.out.below⟩,⟨HF.out.draw HD.out⟩⟩
     case measure=>simp [intOf];omega
   ·have hdec2:decide ((k:Int) < 30)=false:=decide_eq_false (by omega);(obtain rfl:k=30:=by omega);obtain ⟨q1,q2,q3,q4,q5,q6⟩:=df_rng hf0 30 (Nat.le_refl _);rw [HL.out] at q1 q2 q3 q4 q5 q6;simp only at q1 q2 q3 q4 q5 q6;obtain ⟨mm,rfl⟩:∃ mm:Nat,m=(mm:Int):=⟨m.toNat,by omega⟩;have N1:Aside0 (s≤1000000):=⟨by omega⟩;have N2:Aside0 (0≤far - b):=⟨by omega⟩;have N3:Aside0 (far - b≤1000000):=⟨by omega⟩;have N4:Aside0 (Bits (C ++ cb s 5)):=⟨HCB.out.1.append (cb_bits _ _)⟩;have N5:Aside0 ((C ++ cb s 5).length≤1000000000):=⟨by have:=HCB.out.2;rw [List.length_append,cb_len];omega⟩;have N6:Aside0 (mm≤16):=⟨by omega⟩;have N7:Aside0 (C.length≤1000000000 - 16):=⟨by have:=HCB.out.2;omega⟩;have HF4:Aside0 (B ++ rc n far=(C ++ cb s 5) ++ nb (far - b) mm):=⟨by rw [HC.out];unfold rc dsym;rw [HL.out];simp only [List.append_assoc];rfl⟩
    go_wp2_with (first
     |(go_at_call 90;(with_reducible refine (code_five w0 g _ C s _ HW.out HCB.out.1 q1 N1.out N7.out).mono ?_);rintro e w' ⟨v4,rfl,hw2,hf2⟩;have HW2:=Aside0.mk hw2;have HF2:=Aside0.mk (HF.out.trans hf2);clear hw2 hf2)
     |(go_at_call 63;(with_reducible refine (bits_calls w0 g _ (C ++ cb s 5) (far - b) mm _ HW2.out N4.out N2.out N3.out N6.out N5.out).mono ?_);rintro e w' ⟨v5,rfl,hw2,hf2⟩;have HW3:=Aside0.mk hw2;have HF3:=Aside0.mk (HF2.out.trans hf2);clear hw2 hf2))
    exact bodyPost_end (v:=.tuple #[]) (by simp [results,Try.results65,go_sem]) rfl ⟨v5,rfl,by rw [HF4.out];exact HW3.out,HF3.out⟩
end Go.Proofs.Ytpbhkdamkbopkaa.Wr
namespace Go.Proofs.Ytpbhkdamkbopkaa.Wr
set_option linter.unusedSimpArgs false
set_option linter.unusedVariables false
open Go.RowKit Go.Maps Go.WideElems Go.MapKept
open Go.ChangeMaps (setBlock heap_setBlock_same heap_setBlock_other putKey)
theorem laidOut97:laidOutB Try.prog=true:=by kernel_rfl
theorem key97:Try.prog.keyTypeAt 2 97=true:=by kernel_rfl
theorem law97:Go.WideMaps.KeyLaw Try.prog 97:=deep_law_laid laidOut97 (m:=2) (by omega) (by decide +kernel) key97 (by kernel_rfl)
theorem keyed97:Keyed Try.prog 97:=Keyed.of_law law97
theorem zero22 (w:World):(zeroValue 22).run Try.prog w=.ok (.slice none 0 0) w:=by kernel_rfl
/-- Three bytes as a key. -/
def tk (a b c:Int):Value:=.agg #[.int .u8 a,.int .u8 b,.int .u8 c]
theorem keytype97:Try.prog.keyType 97=true:=by kernel_rfl
theorem types_pos:∃ n,Try.prog.types.size+1=n+2:=⟨Try.prog.types.size - 1,by have:1≤Try.prog.types.size:=of_decide_eq_true (by kernel_rfl);omega⟩
theorem cells5:Try.prog.cellsOf 5=1:=by kernel_rfl
theorem cells97:Try.prog.cellsOf 97=3:=by kernel_rfl
theorem key_some {a b c:Int} (ha:0≤a∧a≤255) (hb:0≤b∧b≤255) (hc:0≤c∧c≤255):∃ kl,keyOf Try.prog 97 (tk a b c)=some kl:=by
 have hf:Value.formed Try.prog 97 (tk a b c)=true:=by
  unfold tk;simp [Value.formed,Try.underlying97,cells5,cells97]
 have wa:(Lit.int .u8 a).wf=true:=by show (decide _ && decide _)=true;simp [IntKind.min,IntKind.max,IntKind.signed,IntKind.bits];omega
 have wb:(Lit.int .u8 b).wf=true:=by show (decide _ && decide _)=true;simp [IntKind.min,IntKind.max,IntKind.signed,IntKind.bits];omega
 have wc:(Lit.int .u8 c).wf=true:=by show (decide _ && decide _)=true;simp [IntKind.min,IntKind.max,IntKind.signed,IntKind.bits];omega
 obtain ⟨n,hn⟩:=types_pos;unfold keyOf;rw [Try.underlying97,hn];simp only [keytype97,hf,Bool.and_self,if_true]
 have e:Try.prog.keyLits (n+2) 97 (tk a b c).cells.toList=some [.int .u8 a,.int .u8 b,.int .u8 c]:=by
  have k5:∀ x,(Lit.int .u8 x).wf=true → Try.prog.keyLits (n+1) 5 [Value.int .u8 x]=some [.int .u8 x]:=fun x hx=>by
   unfold Program.keyLits;rw [Try.underlying5];simp [hx]
  unfold Program.keyLits;rw [Try.underlying97];simp [tk,Value.cells,cells97,cells5,show List.range 3=[0,1,2] from rfl,k5 a wa,k5 b wb,k5 c wc]
 rw [e];exact ⟨_,rfl⟩
/-- The key's reading. -/
noncomputable def tl (a b c:Int):Lit:=(keyOf Try.prog 97 (tk a b c)).getD (.bool false)
theorem tl_key {a b c:Int} (ha:0≤a∧a≤255) (hb:0≤b∧b≤255) (hc:0≤c∧c≤255):keyOf Try.prog 97 (tk a b c)=some (tl a b c):=by
 obtain ⟨kl,h⟩:=key_some ha hb hc;unfold tl;rw [h];rfl
attribute [irreducible] tl
theorem tl_inj {a b c a' b' c':Int} (ha:0≤a∧a≤255) (hb:0≤b∧b≤255) (hc:0≤c∧c≤255) (ha':0≤a'∧a'≤255) (hb':0≤b'∧b'≤255) (hc':0≤c'∧c'≤255) (h:tl a b c=tl a' b' c'):a=a'∧b=b'∧c=c':=by
 have h1:=tl_key ha hb hc;have h2:=tl_key ha' hb' hc';rw [← h] at h2;have:=law97.inj h1 h2;simp [tk] at this;exact this
theorem tl_lit {a b c:Int} (ha:0≤a∧a≤255) (hb:0≤b∧b≤255) (hc:0≤c∧c≤255):WideAt.IsKeyLit (tl a b c):=by
 obtain ⟨l,hl⟩:∃ l,l=tl a b c:=⟨_,rfl⟩;have h:keyOf Try.prog 97 (tk a b c)=some l:=by rw [hl];exact tl_key ha hb hc
 rw [← hl];exact keyed97.key h
theorem put_here {D:DataW Unit} (hD:Maps.IsMap D) {a b c:Int} (ha:0≤a∧a≤255) (hb:0≤b∧b≤255) (hc:0≤c∧c≤255) (d:DataW Unit):(D.put (tl a b c) d).atKey (tl a b c) .nil=d:=by
 obtain ⟨l,hl⟩:∃ l,l=tl a b c:=⟨_,rfl⟩;have h:WideAt.IsKeyLit l:=by rw [hl];exact tl_lit ha hb hc
 rw [← hl];exact atKey_put_same hD h d .nil
theorem put_there {D:DataW Unit} {a b c a' b' c':Int} (ha:0≤a∧a≤255) (hb:0≤b∧b≤255) (hc:0≤c∧c≤255) (ha':0≤a'∧a'≤255) (hb':0≤b'∧b'≤255) (hc':0≤c'∧c'≤255) (d:DataW Unit) (hne:¬ (a=a'∧b=b'∧c=c')):(D.put (tl a' b' c') d).atKey (tl a b c) .nil=D.atKey (tl a b c) .nil:=by
 have h:tl a b c ≠ tl a' b' c':=fun e=>hne (tl_inj ha hb hc ha' hb' hc' e);generalize tl a b c=l at *;generalize tl a' b' c'=l' at *;exact atKey_put_other h d .nil
theorem one_key:∀ {l:List MapEntry},(l.map (·.key)).Nodup → ∀ {x y:MapEntry},x ∈ l → y ∈ l → x.key=y.key → x=y
 |[],_,_,_,hx,_,_=>by cases hx
 |z :: l,hn,x,y,hx,hy,h=>by
  rw [List.map_cons,List.nodup_cons] at hn
  rcases List.mem_cons.1 hx with hx1 | hx1
  ·rcases List.mem_cons.1 hy with hy1 | hy1
   ·rw [hx1,hy1]
   ·exact absurd (List.mem_map.2 ⟨y,hy1,by rw [← h,hx1]⟩) hn.1
  ·rcases List.mem_cons.1 hy with hy1 | hy1
   ·exact absurd (List.mem_map.2 ⟨x,hx1,by rw [h,hy1]⟩) hn.1
   ·exact one_key hn.2 hx1 hy1 h
section
variable {H:Type} {P:Program} {k:TypeId} {w w':World} {base:Nat} {e:TypeId} {q:IntKind} {b n:Nat} {D:DataW H} {v:Value} {zs:List Int}
/-- What is owned hangs on its own block alone. -/
theorem own_same (h:w.ownsInts base e q v zs) (hs:∀ g,v.ownBlock=some g → w'.heap[g]?=w.heap[g]?):w'.ownsInts base e q v zs:=by
 obtain ⟨⟨h1,h2⟩,h3⟩:=h;refine ⟨⟨h1,?_⟩,h3⟩
 rcases h2 with h2 | ⟨g,cap,cur,rfl,hb,hh,h4⟩
 ·exact .inl h2
 ·exact .inr ⟨g,cap,cur,rfl,hb,(hs g rfl).trans hh,h4⟩
theorem owns_same (h:w.ownsGroups P k base e q b n D) (hb:w'.heap[b]?=w.heap[b]?) (hs:∀ es clock,w.heap[b]?=some (.map es clock) → ∀ x ∈ es.toList,∀ g,x.val.ownBlock=some g → w'.heap[g]?=w.heap[g]?):w'.ownsGroups P k base e q b n D:=by
 obtain ⟨es,clock,hh,F,hn,rfl,hbb,hlen,hap⟩:=h
 have hst:∀ x ∈ es.toList,∀ z,rowElem (H:=H) w base e q x.val=some z → rowElem w' base e q x.val=some z:=fun x hx z hz=>by
  obtain ⟨zs,ho,rfl⟩:=rowElem_inv hz;exact rowElem_mk (own_same ho (hs es clock hh x hx))
 obtain ⟨F1,hmap,_⟩:=F.stay hst;refine ⟨es,clock,hb.trans hh,F1,hn,by rw [hmap],hbb,fun x hx zs ho=>?_,hap⟩;obtain ⟨y,hy⟩:=F.reads x hx;obtain ⟨z,hz,_⟩:=rd_val hy;obtain ⟨zs0,ho0,_⟩:=rowElem_inv hz;rw [ho.unique (own_same ho0 (hs es clock hh x hx))];exact hlen x hx zs0 ho0
theorem shuns_same {No:Nat → Prop} (h:w.Shuns b No) (hb:w'.heap[b]?=w.heap[b]?):w'.Shuns b No:=fun es clock hh=>h es clock (hb.symm.trans hh)
/-- An entry for a key,and the store of what it is to hold. -/
theorem groups_entry {t E : TypeId} {key : Value} {kl : Lit} (K : Go.WideMaps.KeyLaw P k) (ht : P.underlying t = some (.map k E)) (hz : ∀ u : World, (zeroValue E).run P u = .ok (.slice none 0 0) u) (h : w.ownsGroups P k base e q b n D) (hn : n < maxLen) (hkey : keyOf P k key = some kl) :
  ∃ v st zs w1,(Instr.mapEntry t (.map (some b)) key).run P w=.ok (.tuple #[v,goInt st]) w1∧w.grownBy w1 (some b)∧D.atKey kl .nil=rowDatum q v zs∧w1.ownsInts base e q v zs∧zs.length≤n∧(∀ No:Nat → Prop,w.Shuns b No → ∀ g,v.ownBlock=some g → ¬ No g) ∧
   ∀ (w2:World) (v':Value) (zs':List Int),w1.grownBy w2 v.ownBlock → w2.ownsInts base e q v' zs' → zs'.length≤n+1 → (v'.ownBlock=v.ownBlock ∨ ∃ g,v'.ownBlock=some g∧w.heap.size≤g) →
    ∃ w3,(Instr.entryStore t (.map (some b)) (goInt st) v').run P w2=.ok () w3∧w3.ownsGroups P k base e q b (n+1) (D.put kl (rowDatum q v' zs'))∧w2.grownBy w3 (some b)∧∀ No:Nat → Prop,w.Shuns b No → (∀ g,v'.ownBlock=some g → ¬ No g) → w3.Shuns b No:=by
 obtain ⟨es,clock,hb,F,hs,rfl,hbb,hlen,hap⟩:=h;have KK:=Keyed.of_law K;have hblt:b < w.heap.size:=(Array.getElem?_eq_some_iff.1 hb).1;obtain ⟨v,st,es1,clock1,hrun,hv,hback⟩:=entry_then_store K ht hz hb F hkey;have hg1:w.grownBy (setBlock w b (.map es1 clock1)) (some b):=⟨rfl,rfl,rfl,by simp [setBlock],fun i _ hi=>heap_setBlock_other hb _ (fun e1=>hi (by rw [e1]))⟩
 have owned:∀ x ∈ es.toList,∃ zs,w.ownsInts base e q x.val zs:=fun x hx=>by
  obtain ⟨y,hy⟩:=F.reads x hx;obtain ⟨z,hz,_⟩:=rd_val hy;obtain ⟨zs,ho,_⟩:=rowElem_inv hz;exact ⟨zs,ho⟩
 have own_ne:∀ {W:World} {u:Value} {ys:List Int},W.ownsInts base e q u ys → ∀ g,u.ownBlock=some g → g ≠ b:=fun ho g hg e1=>by
  have:=(ho.1.lt g hg).1;omega
 -- what the entry holds
 have hat:∃ zs,(DataW.map ((es.toList.map (rg P k (rowElem (H:=H) w base e q))).foldr DataW.insert [])).atKey kl .nil=rowDatum q v zs∧w.ownsInts base e q v zs∧zs.length≤n∧(v=.slice none 0 0∧(∀ x ∈ es.toList,x.key ≠ key) ∨ ∃ e0 ∈ es.toList,e0.key=key∧v=e0.val):=by
  rcases Maps.fit_look false KK ht (hz w) hb F hkey with ⟨_,hno,hat⟩ | ⟨e0,y,hm0,h3,_,hR,hat,_⟩
  ·rcases hv with ⟨e0,hm0,h3,_⟩ | ⟨_,rfl⟩
   ·exact absurd h3 (hno e0 hm0)
   ·exact ⟨[],hat _,World.ownsInts_nil _ _ _ _,Nat.zero_le _,.inl ⟨rfl,hno⟩⟩
  ·rcases hv with ⟨e1,hm1,h4,rfl⟩ | ⟨hno,_⟩
   ·obtain ⟨zs,ho,rfl⟩:=rowElem_inv hR;(have he:e1.val=e0.val:=by rw [one_key F.stamped.2.2 hm1 hm0 (h4.trans h3.symm)]);rw [he];exact ⟨zs,hat _,ho,hlen e0 hm0 zs ho,.inr ⟨e0,hm0,h3,rfl⟩⟩
   ·exact absurd h3 (hno e0 hm0)
 obtain ⟨zs,hat,hov,hzl,hvv⟩:=hat;refine ⟨v,st,zs,_,hrun,hg1,hat,own_same hov (fun g hg=>heap_setBlock_other hb _ (own_ne hov g hg)),hzl,fun No hsh g hg=>?_,?_⟩
 ·rcases hvv with ⟨rfl,_⟩ | ⟨e0,hm0,_,rfl⟩
  ·cases hg
  ·exact hsh es clock hb e0 hm0 g hg
 ·intro w2 v' zs' hg hown' hl' hloc;have hvb:some b ≠ v.ownBlock:=fun e1=>own_ne hov b e1.symm rfl;have hb2:w2.heap[b]?=some (.map es1 clock1):=(hg.block b (by simpa [setBlock] using hblt) hvb).trans (heap_setBlock_same hb _)
  have sep:∀ x ∈ es.toList,x.key ≠ key → ∀ g,x.val.ownBlock=some g → v.ownBlock ≠ some g:=by
   intro x hx hne g hgx e1
   rcases hvv with ⟨rfl,_⟩ | ⟨e0,hm0,h3,rfl⟩
   ·cases e1
   ·rcases hap x hx e0 hm0 (by rw [h3];exact hne) with h | h
    ·rw [h] at hgx;cases hgx
    ·exact h (hgx.trans e1.symm)
  have far:∀ x ∈ es.toList,x.key ≠ key → ∀ g,x.val.ownBlock=some g → w2.heap[g]?=w.heap[g]?:=by
   intro x hx hne g hgx;obtain ⟨ys,ho⟩:=owned x hx;have h1:=(ho.1.lt g hgx).2;exact (hg.block g (by simpa [setBlock] using h1) (fun e1=>sep x hx hne g hgx e1.symm)).trans (heap_setBlock_other hb _ (own_ne ho g hgx))
  obtain ⟨es',clock',hstore,hmu⟩:=hback w2 v' hb2
  have hs1:∀ x ∈ es.toList,x.key ≠ key → ∀ z,rowElem (H:=H) w base e q x.val=some z → rowElem w2 base e q x.val=some z:=by
   intro x hx hne z hz;obtain ⟨zs0,ho,rfl⟩:=rowElem_inv hz;exact rowElem_mk (own_same ho (far x hx hne))
  obtain ⟨es2,clock2,hmu2,F',hput,_,_,hwho⟩:=Maps.fit_store (R':=rowElem (H:=H) w2 base e q) KK ht hb F (Nat.lt_of_le_of_lt hs hn) hs1 hkey (rowElem_mk hown')
  obtain ⟨rfl,rfl⟩:es'=es2∧clock'=clock2:=by
   rw [hmu] at hmu2;(have e1:setBlock w b (.map es' clock')=setBlock w b (.map es2 clock2):=by simpa using hmu2);have e2:=heap_setBlock_same hb (.map es' clock');rw [e1,heap_setBlock_same hb (.map es2 clock2)] at e2;simp at e2;exact ⟨e2.1.symm,e2.2.symm⟩
  have hg2:w2.grownBy (setBlock w2 b (.map es' clock')) (some b):=⟨rfl,rfl,rfl,by simp [setBlock],fun i _ hi=>heap_setBlock_other hb2 _ (fun e1=>hi (by rw [e1]))⟩;have up:∀ {u:Value} {ys:List Int},w2.ownsInts base e q u ys → (setBlock w2 b (.map es' clock')).ownsInts base e q u ys:=fun ho=>own_same ho (fun g hgu=>heap_setBlock_other hb2 _ (own_ne ho g hgu))
  have hs2:∀ x ∈ es'.toList,∀ z,rowElem (H:=H) w2 base e q x.val=some z → rowElem (setBlock w2 b (.map es' clock')) base e q x.val=some z:=by
   intro x _ z hz;obtain ⟨ys,ho,rfl⟩:=rowElem_inv hz;exact rowElem_mk (up ho)
  obtain ⟨F2,hmap2,_⟩:=F'.stay hs2
  have old_new:∀ x ∈ es.toList,x.key ≠ key → x.val.ownBlock=none ∨ x.val.ownBlock ≠ v'.ownBlock:=by
   intro x hx hne;cases hx':x.val.ownBlock with
   |none=>exact .inl rfl
   |some gx =>
    obtain ⟨ys,ho⟩:=owned x hx;have h1:=(ho.1.lt gx hx').2;refine .inr (fun e1=>?_)
    rcases hloc with h | ⟨g,h,h2⟩
    ·rw [h] at e1;exact sep x hx hne gx hx' e1.symm
    ·rw [h] at e1;cases e1;omega
  refine ⟨_,hstore,⟨es',clock',heap_setBlock_same hb2 _,F2,?_,?_,hbb,?_,?_⟩,hg2,?_⟩
  ·have e1:es'.size=((es'.toList.map (rg P k (rowElem (H:=H) w2 base e q))).foldr DataW.insert []).length:=by rw [DataW.length_sorted];simp
   rw [e1,hput];unfold putKey;rw [DataW.length_insert];have e2:=List.length_filter_le (ChangeMaps.notKey kl) ((es.toList.map (rg P k (rowElem (H:=H) w base e q))).foldr DataW.insert []);rw [DataW.length_sorted] at e2;simp at e2;omega
  ·rw [hmap2,DataW.put_eq,hput]
  ·intro x hx ys ho
   have back:w2.ownsInts base e q x.val ys:=by
    obtain ⟨y,hy⟩:=F'.reads x hx;obtain ⟨z,hz,_⟩:=rd_val hy;obtain ⟨ys',ho',_⟩:=rowElem_inv hz;rw [ho.unique (up ho')];exact ho'
   rcases hwho x hx with ⟨hx0,hne⟩ | ⟨_,hval⟩
   ·obtain ⟨ys0,ho0⟩:=owned x hx0;have:=hlen x hx0 ys0 ho0;rw [back.unique (own_same ho0 (far x hx0 hne))];omega
   ·rw [hval] at back;rw [back.unique hown'];exact hl'
  ·intro x hx y hy hne
   rcases hwho x hx with ⟨hx0,hxk⟩ | ⟨hxk,hxv⟩ <;> rcases hwho y hy with ⟨hy0,hyk⟩ | ⟨hyk,hyv⟩
   ·exact hap x hx0 y hy0 hne
   ·rw [hyv];exact old_new x hx0 hxk
   ·rw [hxv];cases hv':v'.ownBlock with
    |none=>exact Or.inl rfl
    |some g =>
     refine Or.inr (fun e1=>?_)
     rcases old_new y hy0 hyk with h | h
     ·rw [h] at e1;cases e1
     ·exact h (by rw [hv',e1])
   ·exact absurd (hxk.trans hyk.symm) hne
  ·intro No hsh hno es3 clock3 hb3 x hx g hgx;rw [heap_setBlock_same hb2] at hb3;simp at hb3;obtain ⟨rfl,rfl⟩:=hb3
   rcases hwho x hx with ⟨hx0,_⟩ | ⟨_,hval⟩
   ·exact hsh es clock hb x hx0 g hgx
   ·exact hno g (hval ▸ hgx)
end
end Go.Proofs.Ytpbhkdamkbopkaa.Wr
namespace Go.Proofs.Ytpbhkdamkbopkaa.Rn
set_option linter.unusedSimpArgs false
set_option linter.unusedVariables false
open Go.RowKit Go.Proofs.Ytpbhkdamkbopkaa.GRuns Go.Proofs.YtpbhkdamkbopkaaW.PrintWords Go.Proofs.YtpbhkdamkbopkaaW.PrintLast Go.Proofs.YtpbhkdamkbopkaaW.PrintMore
theorem w64 {n:Int} (h0:-9223372036854775808≤n) (h1:n≤9223372036854775807):wrap64 n=n:=by unfold wrap64;omega
/-- So many bytes at i stand at j,too,n being known. -/
def ml (s:ByteArray) (i j:Nat):Nat → Nat → Nat
 |0,n=>n
 |e+1,n=>if n < 258∧i+n < s.size∧bt s ((i+n:Nat):Int)=bt s ((j+n:Nat):Int) then ml s i j e (n+1) else n
def mlen (s:ByteArray) (i j:Nat):Nat:=ml s i j 258 0
theorem ml_spec (s : ByteArray) (i j : Nat) : ∀ (e n : Nat), n + e = 258 → (∀ t, t < n → bt s ((i + t : Nat) : Int) = bt s ((j + t : Nat) : Int)) → i + n ≤ s.size →
  n≤ml s i j e n∧ml s i j e n≤258∧i+ml s i j e n≤s.size∧(∀ t,t < ml s i j e n → bt s ((i+t:Nat):Int)=bt s ((j+t:Nat):Int)) ∧
   (ml s i j e n=258 ∨ i+ml s i j e n=s.size ∨ bt s ((i+ml s i j e n:Nat):Int) ≠ bt s ((j+ml s i j e n:Nat):Int)):=by
 intro e
 induction e with
 |zero=>intro n hn h hi;simp only [ml];exact ⟨Nat.le_refl _,by omega,hi,h,.inl (by omega)⟩
 |succ e ih =>
  intro n hn h hi;simp only [ml];by_cases c:n < 258∧i+n < s.size∧bt s ((i+n:Nat):Int)=bt s ((j+n:Nat):Int);rotate_left
  ·rw [if_neg c];refine ⟨Nat.le_refl _,by omega,hi,h,?_⟩;by_cases c2:i+n < s.size
   ·exact .inr (.inr (fun h3=>c ⟨by omega,c2,h3⟩))
   ·exact .inr (.inl (by omega))
  rw [if_pos c]
  obtain ⟨a,b,c',d,f⟩:=ih (n+1) (by omega) (fun t ht=>by
   rcases Nat.lt_or_ge t n with h' | h'
   ·exact h t h'
   ·obtain rfl:t=n:=by omega
    exact c.2.2) (by omega)
  exact ⟨by omega,b,c',d,f⟩
theorem mlen_spec {s : ByteArray} {i j : Nat} (hi : i ≤ s.size) : mlen s i j ≤ 258 ∧ i + mlen s i j ≤ s.size ∧ (∀ t, t < mlen s i j → bt s ((i + t : Nat) : Int) = bt s ((j + t : Nat) : Int)) ∧
  (mlen s i j=258 ∨ i+mlen s i j=s.size ∨ bt s ((i+mlen s i j:Nat):Int) ≠ bt s ((j+mlen s i j:Nat):Int)):=by
 obtain ⟨_,a,b,c,d⟩:=ml_spec s i j 258 0 rfl (fun t ht=>absurd ht (Nat.not_lt_zero _)) (by omega);exact ⟨a,b,c,d⟩
attribute [irreducible] mlen
/-- The best of the distances below D: the longest,the nearest. -/
def best (s:ByteArray) (i:Nat):Nat → Nat × Nat
 |0=>(0,0)
 |D+1=>if mlen s i (i - (D+1)) > (best s i D).1 then (mlen s i (i - (D+1)),D+1) else best s i D
def fin (p:Nat × Nat):Nat × Nat:=if p.1 < 3 then (0,0) else p
/-- The run of a place. -/
def run (s:ByteArray) (i:Nat):Nat × Nat:=fin (best s i (min i 32768))
theorem best_spec (s:ByteArray) (i:Nat):∀ D,(∀ d,1≤d → d≤D → mlen s i (i - d)≤(best s i D).1)∧((best s i D).1=0∧(best s i D).2=0 ∨ 1≤(best s i D).2∧(best s i D).2≤D∧mlen s i (i - (best s i D).2)=(best s i D).1∧0 < (best s i D).1∧∀ d,1≤d → d < (best s i D).2 → mlen s i (i - d) < (best s i D).1):=by
 intro D
 induction D with
 |zero=>exact ⟨fun d h0 h1=>absurd h1 (by omega),.inl ⟨rfl,rfl⟩⟩
 |succ D ih =>
  obtain ⟨h0,h1⟩:=ih;simp only [best];by_cases c:mlen s i (i - (D+1)) > (best s i D).1;rotate_left
  ·rw [if_neg c];refine ⟨fun d d0 d1=>?_,?_⟩
   ·rcases Nat.lt_or_ge d (D+1) with h | h
    ·exact h0 d d0 (by omega)
    ·obtain rfl:d=D+1:=by omega
     omega
   ·rcases h1 with h1 | ⟨a,b,c',d,e⟩
    ·exact .inl h1
    ·exact .inr ⟨a,by omega,c',d,e⟩
  rw [if_pos c];refine ⟨fun d d0 d1=>?_,.inr ⟨by simp,by simp,rfl,by simp only;omega,fun d d0 d1=>?_⟩⟩
  ·rcases Nat.lt_or_ge d (D+1) with h | h
   ·have:=h0 d d0 (by omega);simp only;omega
   ·obtain rfl:d=D+1:=by omega
    exact Nat.le_refl _
  ·have:=h0 d d0 (by simp only at d1;omega);simp only;omega
theorem run_none {s:ByteArray} {i:Nat} (h:∀ d,1≤d → d≤min i 32768 → mlen s i (i - d) < 3):run s i=(0,0):=by
 obtain ⟨b0,b1⟩:=best_spec s i (min i 32768);unfold run;generalize best s i (min i 32768)=p at *;unfold fin
 rcases b1 with ⟨z,_⟩ | ⟨a,b,c,d,e⟩
 ·rw [if_pos (by omega)]
 ·rw [if_pos (by have:=h p.2 a b;omega)]
end Go.Proofs.Ytpbhkdamkbopkaa.Rn
namespace Go.Proofs.Ytpbhkdamkbopkaa.Rn
set_option linter.unusedSimpArgs false
set_option linter.unusedVariables false
open Go.RowKit Go.Proofs.Ytpbhkdamkbopkaa.GRuns Go.Proofs.YtpbhkdamkbopkaaW.PrintWords Go.Proofs.YtpbhkdamkbopkaaW.PrintLast Go.Proofs.YtpbhkdamkbopkaaW.PrintMore
theorem alike_loop (s:ByteArray) (hs:s.size≤140737488351232) (i j:Nat) (hj:j≤i):∀ (e n:Nat),n+e=258 → i+n≤s.size → ∀ k,e+1≤k → deflate_alike.l0 k s (i:Int) (j:Int) (n:Int)=some ((ml s i j e n:Nat):Int):=by
 intro e
 induction e with
 |zero =>
  intro n hn hi k hk;obtain ⟨k,rfl⟩:=Nat.exists_eq_add_of_le' hk;obtain rfl:n=258:=by omega
  rw [show k+(0+1)=k+1 from rfl,deflate_alike.l0,if_neg (by omega)];rfl
 |succ e ih =>
  intro n hn hi k hk;obtain ⟨k,rfl⟩:=Nat.exists_eq_add_of_le' hk;have e1:wrap64 ((i:Int)+(n:Int))=((i+n:Nat):Int):=by rw [w64 (by omega) (by omega)];omega
  have e2:wrap64 ((j:Int)+(n:Int))=((j+n:Nat):Int):=by rw [w64 (by omega) (by omega)];omega
  have e3:wrap64 ((n:Int)+1)=((n+1:Nat):Int):=by rw [w64 (by omega) (by omega)];omega
  rw [show k+(e+1+1)=(k+e+1)+1 from rfl,deflate_alike.l0,e1,e2,e3,if_pos (by omega)];simp only [ml];by_cases c:i+n < s.size
  ·rw [if_pos (by omega),if_pos (by omega),if_pos (by omega),if_pos (by omega)];by_cases c2:bt s ((i+n:Nat):Int)=bt s ((j+n:Nat):Int)
   ·rw [if_pos c2,if_pos ⟨by omega,c,c2⟩];exact ih (n+1) (by omega) (by omega) (k+e+1) (by omega)
   ·rw [if_neg c2,if_neg (fun h=>c2 h.2.2)]
  ·rw [if_neg (by omega),if_neg (fun h=>c h.2.1)]
theorem alike_f (s:ByteArray) (hs:s.size≤140737488351232) (i j:Nat) (hj:j≤i) (hi:i≤s.size) (k:Nat) (hk:259≤k):deflate_alike.f k s (i:Int) (j:Int)=some ((mlen s i j:Nat):Int):=by
 have h:=alike_loop s hs i j hj 258 0 rfl (by omega) k hk;unfold mlen;exact h
/-- Three bytes alike. -/
def tri (s:ByteArray) (i j:Nat):Prop:=bt s (i:Int)=bt s (j:Int)∧bt s ((i+1:Nat):Int)=bt s ((j+1:Nat):Int)∧bt s ((i+2:Nat):Int)=bt s ((j+2:Nat):Int)
instance (s:ByteArray) (i j:Nat):Decidable (tri s i j):=by unfold tri;infer_instance
theorem tri_iff {s:ByteArray} {i j:Nat} (hi:i+3≤s.size):tri s i j ↔ 3≤mlen s i j:=by
 obtain ⟨a,b,c,d⟩:=mlen_spec (s:=s) (i:=i) (j:=j) (by omega);constructor
 ·intro ⟨h0,h1,h2⟩
  rcases Nat.lt_or_ge (mlen s i j) 3 with h | h
  ·exfalso
   rcases d with d | d | d
   ·omega
   ·omega
   ·generalize mlen s i j=m at *;(have:m=0 ∨ m=1 ∨ m=2:=by omega)
    rcases this with rfl | rfl | rfl
    ·exact d h0
    ·exact d h1
    ·exact d h2
  ·exact h
 ·intro h;exact ⟨c 0 (by omega),c 1 (by omega),c 2 (by omega)⟩
/-- The places from a on with three bytes as at i,n of them looked at. -/
def pl (s:ByteArray) (i a:Nat):Nat → List Int
 |0=>[]
 |n+1=>if tri s i (a+n) then pl s i a n ++ [((a+n:Nat):Int)] else pl s i a n
theorem pl_len (s:ByteArray) (i a:Nat):∀ n,(pl s i a n).length≤n:=by
 intro n
 induction n with
 |zero=>exact Nat.le_refl _
 |succ n ih =>
  simp only [pl]
  split
  ·simp;omega
  ·omega
theorem fin_stay (s:ByteArray) (i D:Nat) (h:mlen s i (i - (D+1)) < 3):fin (best s i (D+1))=fin (best s i D):=by
 simp only [best]
 split
 ·unfold fin;rw [if_pos (by simp only;omega),if_pos (by omega)]
 ·rfl
/-- A best of the length that none is above stays. -/
theorem best_stay (s:ByteArray) (i D:Nat) (h:∀ d,mlen s i (i - d)≤(best s i D).1):∀ n,best s i (D+n)=best s i D:=by
 intro n
 induction n with
 |zero=>rfl
 |succ n ih =>
  rw [show D+(n+1)=(D+n)+1 from rfl];simp only [best];rw [if_neg (by rw [ih];have:=h (D+n+1);omega),ih]
/-- As integers. -/
def ip (p:Nat × Nat):Int × Int:=(((p.1:Nat):Int),((p.2:Nat):Int))
theorem fin_int (p:Nat × Nat):(if (((fin p).1:Nat):Int) < 3 then some ((0:Int),(0:Int)) else some ((((fin p).1:Nat):Int),(((fin p).2:Nat):Int)))=some (ip (fin p)):=by
 unfold fin
 split <;> rename_i c
 ·simp [ip]
 ·rw [if_neg (by omega)];rfl
theorem rd_mid (L Q:List Int) (x:Int):rd (L ++ [x] ++ Q) (L.length:Int)=x:=by
 simp [rd,List.getD_eq_getElem?_getD]
/-- What stops the loop is the run. -/
theorem stay_of {s:ByteArray} {i D n:Nat} (hi:i+3≤s.size) (hn:min i 32768=D+n) (h:(fin (best s i D)).1=258 ∨ i+(fin (best s i D)).1=s.size):run s i=fin (best s i D)∧¬ (fin (best s i D)).1 < 3:=by
 have h3:¬ (best s i D).1 < 3:=by
  intro h4;unfold fin at h;rw [if_pos h4] at h;simp only at h;omega
 have e4:fin (best s i D)=best s i D:=by unfold fin;rw [if_neg h3]
 rw [e4] at h ⊢;refine ⟨?_,h3⟩
 have h5:=best_stay s i D (fun d=>by
  obtain ⟨v0,v1,_,_⟩:=mlen_spec (s:=s) (i:=i) (j:=i - d) (by omega);omega) n
 unfold run;rw [hn,h5,e4]
/-- The end of a turn. -/
theorem turn_ite (i m f z : Nat) (r : Nat × Nat) (c : Option (Int × Int)) (hm : m ≤ 258) (hz : i + m ≤ z) (hz' : z ≤ 140737488351232) (stay : m = 258 ∨ i + m = z → r = (m, f) ∧ ¬ m < 3) (hc : c = some (ip r)) :
  (if ((m:Nat):Int)=258 then (if ((m:Nat):Int) < 3 then some (0,0) else some (((m:Nat):Int),((f:Nat):Int))) else if wrap64 (((i:Nat):Int)+((m:Nat):Int))=((z:Nat):Int) then (if ((m:Nat):Int) < 3 then some (0,0) else some (((m:Nat):Int),((f:Nat):Int))) else c)=some (ip r):=by
 rw [w64 (by omega) (by omega)];by_cases c1:m=258
 ·have h:=stay (.inl c1);rw [if_pos (by omega),if_neg (by omega),h.1];rfl
 ·rw [if_neg (by omega)];by_cases c2:i+m=z
  ·have h:=stay (.inr c2);rw [if_pos (by omega),if_neg (by omega),h.1];rfl
  ·rw [if_neg (by omega)];exact hc
/-- The best with a distance more,where three bytes are alike. -/
theorem best_more {s:ByteArray} {i D:Nat} (hm:3≤mlen s i (i - (D+1))):fin (best s i (D+1))=if mlen s i (i - (D+1)) > (fin (best s i D)).1 then (mlen s i (i - (D+1)),D+1) else fin (best s i D):=by
 simp only [best];generalize mlen s i (i - (D+1))=m at *;generalize best s i D=p;have e0:fin (m,D+1)=(m,D+1):=by unfold fin;rw [if_neg (by simp only;omega)]
 by_cases h:p.1 < 3
 ·have e1:fin p=(0,0):=by unfold fin;rw [if_pos h]
  rw [e1,if_pos (show m > p.1 by omega),e0,if_pos (by simp only;omega)]
 ·have e1:fin p=p:=by unfold fin;rw [if_neg h]
  rw [e1];by_cases g:m > p.1
  ·rw [if_pos g,e0]
  ·rw [if_neg g,e1]
/-- A turn of the loop over the places: nothing but numbers. -/
theorem turn_all (i m f m' f' z : Nat) (r : Nat × Nat) (c c' : Option (Int × Int)) (hm : m ≤ 258) (hz : i + m ≤ z) (hm' : m' ≤ m ∨ m' ≤ 258 ∧ i + m' ≤ z) (hz' : z ≤ 140737488351232)
  (stay:(if m > m' then (m,f) else (m',f')).1=258 ∨ i+(if m > m' then (m,f) else (m',f')).1=z → r=(if m > m' then (m,f) else (m',f'))∧¬ (if m > m' then (m,f) else (m',f')).1 < 3) (hc:m > m' → c=some (ip r)) (hc':¬ m > m' → c'=some (ip r)) :
  (if ((m:Nat):Int) > ((m':Nat):Int) then (if ((m:Nat):Int)=258 then (if ((m:Nat):Int) < 3 then some (0,0) else some (((m:Nat):Int),((f:Nat):Int))) else if wrap64 (((i:Nat):Int)+((m:Nat):Int))=((z:Nat):Int) then (if ((m:Nat):Int) < 3 then some (0,0) else some (((m:Nat):Int),((f:Nat):Int))) else c) else (if ((m':Nat):Int)=258 then (if ((m':Nat):Int) < 3 then some (0,0) else some (((m':Nat):Int),((f':Nat):Int))) else if wrap64 (((i:Nat):Int)+((m':Nat):Int))=((z:Nat):Int) then (if ((m':Nat):Int) < 3 then some (0,0) else some (((m':Nat):Int),((f':Nat):Int))) else c'))=some (ip r):=by
 by_cases g:m > m'
 ·rw [if_pos (by omega)];simp only [if_pos g] at stay;exact turn_ite i m f z r c hm hz hz' stay (hc g)
 ·rw [if_neg (by omega)];simp only [if_neg g] at stay;exact turn_ite i m' f' z r c' (by omega) (by omega) hz' stay (hc' g)
theorem at_ok (s:ByteArray) (hs:s.size≤140737488351232) (p:Nat) (hp:p+3≤s.size):deflate_at.f s (p:Int)=some (bt s (p:Int),bt s ((p+1:Nat):Int),bt s ((p+2:Nat):Int),true):=by
 have e1:wrap64 ((p:Int)+1)=((p+1:Nat):Int):=by rw [w64 (by omega) (by omega)];omega
 have e2:wrap64 ((p:Int)+2)=((p+2:Nat):Int):=by rw [w64 (by omega) (by omega)];omega
 have e3:wrap64 ((s.size:Int) - 3)=((s.size - 3:Nat):Int):=by rw [w64 (by omega) (by omega)];omega
 unfold deflate_at.f;rw [e1,e2,e3];clear e1 e2 e3;rw [if_neg (by omega),if_neg (by omega),if_pos (by omega),if_pos (by omega),if_pos (by omega),if_pos (by omega),if_pos (by omega),if_pos (by omega)]
theorem at_no (s:ByteArray) (hs:s.size≤140737488351232) (p:Int) (hp:p < 0 ∨ p+3 > s.size):deflate_at.f s p=some (0,0,0,false):=by
 have e3:wrap64 ((s.size:Int) - 3)=(s.size:Int) - 3:=w64 (by omega) (by omega);unfold deflate_at.f;rw [e3];by_cases c:p < 0
 ·rw [if_pos c]
 ·rw [if_neg c,if_pos (by omega)]
end Go.Proofs.Ytpbhkdamkbopkaa.Rn
namespace Go.Proofs.Ytpbhkdamkbopkaa.Rn
set_option linter.unusedSimpArgs false
set_option linter.unusedVariables false
open Go.RowKit Go.Proofs.Ytpbhkdamkbopkaa.GRuns Go.Proofs.YtpbhkdamkbopkaaW.PrintWords Go.Proofs.YtpbhkdamkbopkaaW.PrintLast Go.Proofs.YtpbhkdamkbopkaaW.PrintMore
theorem pl_last (s:ByteArray) (i:Nat):∀ n,pl s i 0 n=[] ∨ ∃ Q p,pl s i 0 n=Q ++ [((p:Nat):Int)]∧p < n:=by
 intro n
 induction n with
 |zero=>exact .inl rfl
 |succ n ih =>
  simp only [pl]
  split
  ·exact .inr ⟨_,0+n,rfl,by omega⟩
  ·rcases ih with h | ⟨Q,p,h,hp⟩
   ·exact .inl h
   ·exact .inr ⟨Q,p,h,by omega⟩
/-- The loop over all the places,from the nearest on. -/
theorem best_full (s : ByteArray) (hs : s.size ≤ 140737488351232) (i : Nat) (hi : i + 3 ≤ s.size) (L : List Int) (hL : L.length < 17592186044416) : ∀ n D, n + D = i → D ≤ 32768 → (∃ Q, L = pl s i 0 n ++ Q) →
  ∀ k,2*n+262≤k → deflate_best.l0 k s (i:Int) L (((fin (best s i D)).1:Nat):Int) (((fin (best s i D)).2:Nat):Int) (((pl s i 0 n).length:Int) - 1)=some (ip (run s i)):=by
 intro n
 induction n with
 |zero =>
  intro D hD hD2 _ k hk;obtain ⟨k,rfl⟩:=Nat.exists_eq_add_of_le' (show 2≤k by omega);have hr:run s i=fin (best s i D):=by unfold run;rw [show min i 32768=D by omega]
  rw [show k+2=(k+1)+1 from rfl,deflate_best.l0];rw [if_neg (by simp [pl]),deflate_best.j1,if_neg (by simp),hr];exact fin_int _
 |succ n ih =>
  intro D hD hD2 hQ k hk;obtain ⟨Q,hQ⟩:=hQ
  rcases Nat.lt_or_ge D 32768 with hlt | hge
  ·have hp:i - (D+1)=0+n:=by omega
   by_cases c:tri s i (0+n);rotate_left
   ·have hm : mlen s i (i - (D + 1)) < 3 := by
     rw [hp]
     rcases Nat.lt_or_ge (mlen s i (0+n)) 3 with h | h
     ·exact h
     ·exact absurd ((tri_iff hi).2 h) c
    simp only [pl,if_neg c] at hQ ⊢;have ih':=ih (D+1) (by omega) (by omega) ⟨Q,hQ⟩ k (by omega);rw [fin_stay s i D hm] at ih';exact ih'
   have hm:=(tri_iff hi).1 c;simp only [pl,if_pos c] at hQ ⊢;obtain ⟨k,rfl⟩:=Nat.exists_eq_add_of_le' (show 2≤k by omega);(have hrd:rd L ((pl s i 0 n).length:Int)=((0+n:Nat):Int):=by rw [hQ];exact rd_mid _ _ _);(have hlen:(pl s i 0 n).length < L.length:=by rw [hQ];simp);(have hl1:(((pl s i 0 n ++ [((0+n:Nat):Int)]).length:Int) - 1)=((pl s i 0 n).length:Int):=by simp);have ih':=ih (D+1) (by omega) (by omega) ⟨[((0+n:Nat):Int)] ++ Q,by rw [hQ,List.append_assoc]⟩ k (by omega);have stay:=stay_of (s:=s) (i:=i) (D:=D+1) (n:=min i 32768 - (D+1)) hi (by omega);obtain ⟨u0,u1,_,_⟩:=mlen_spec (s:=s) (i:=i) (j:=0+n) (by omega)
   have v:(fin (best s i D)).1≤mlen s i (0+n) ∨ (fin (best s i D)).1≤258∧i+(fin (best s i D)).1≤s.size:=by
    rcases (best_spec s i D).2 with h | ⟨_,_,h,_⟩
    ·left;unfold fin;split <;> (try simp only) <;> omega
    ·right
     obtain ⟨v0,v1,_,_⟩:=mlen_spec (s:=s) (i:=i) (j:=i - (best s i D).2) (by omega);rw [h] at v0 v1;unfold fin
     split <;> (try simp only) <;> omega
   have hb:=best_more (s:=s) (i:=i) (D:=D) (by rw [hp];exact hm);rw [hb,hp] at stay ih';(have ed:wrap64 ((i:Int) - ((0+n:Nat):Int))=((D+1:Nat):Int):=by rw [w64 (by omega) (by omega)];omega);have el:wrap64 (((pl s i 0 n).length:Int) - 1)=((pl s i 0 n).length:Int) - 1:=w64 (by omega) (by omega);(have hk1:259≤k:=by omega);(have hd:((D+1:Nat):Int)≤32768:=by omega);have hn0:(0:Int)≤((pl s i 0 n).length:Int):=Int.natCast_nonneg _;have hn1:((pl s i 0 n).length:Int) < (L.length:Int):=Int.ofNat_lt.mpr hlen;have hal:=alike_f s hs i (0+n) (by omega) (by omega) k hk1;rw [hl1,show k+2=(k+1)+1 from rfl,deflate_best.l0,hrd];rw [if_pos hn0,if_pos hn0,if_pos hn1,ed,decide_eq_true hd,deflate_best.j1,if_pos rfl,if_pos hn0,if_pos hn1,hrd,ed,el,hal];simp only [Option.bind_some];generalize mlen s i (0+n)=m at *;generalize fin (best s i D)=p at *;obtain ⟨m',f'⟩:=p;exact turn_all i m (D+1) m' f' s.size (run s i) _ _ u0 u1 v hs stay (fun g=>by rw [if_pos g] at ih';exact ih') (fun g=>by rw [if_neg g] at ih';exact ih')
  ·obtain ⟨k,rfl⟩:=Nat.exists_eq_add_of_le' (show 2≤k by omega);(have hr:run s i=fin (best s i D):=by unfold run;rw [show min i 32768=D by omega])
   have hj:deflate_best.j1 (k+1) s (i:Int) L (((fin (best s i D)).1:Nat):Int) (((fin (best s i D)).2:Nat):Int) (((pl s i 0 (n+1)).length:Int) - 1) false=some (ip (run s i)):=by
    rw [deflate_best.j1,if_neg (by simp),hr];exact fin_int _
   rw [show k+2=(k+1)+1 from rfl,deflate_best.l0]
   rcases pl_last s i (n+1) with h | ⟨Q',p,h,hp⟩
   ·rw [if_neg (by rw [h];simp)];exact hj
   ·have hl:(((pl s i 0 (n+1)).length:Int) - 1)=(Q'.length:Int):=by rw [h];simp
    (have hlen:Q'.length < L.length:=by rw [hQ,h];simp);(have hrd:rd L (Q'.length:Int)=((p:Nat):Int):=by rw [hQ,h];exact rd_mid _ _ _);(have ed:wrap64 ((i:Int) - ((p:Nat):Int))=((i - p:Nat):Int):=by rw [w64 (by omega) (by omega)];omega);rw [hl] at hj ⊢;(have hd:¬ ((i - p:Nat):Int)≤32768:=by omega);rw [if_pos (Int.natCast_nonneg _),if_pos (Int.natCast_nonneg _),if_pos (Int.ofNat_lt.mpr hlen),hrd,ed,decide_eq_false hd];exact hj
/-- Over all the places of the same three bytes,best answers the run. -/
theorem best_f (s:ByteArray) (hs:s.size≤140737488351232) (i:Nat) (hi:i+3≤s.size) (hi2:i < 17592186044416) (k:Nat) (hk:2*i+262≤k):deflate_best.f k s (i:Int) (pl s i 0 i)=some (ip (run s i)):=by
 have hl:=pl_len s i 0 i;have el:wrap64 (((pl s i 0 i).length:Int) - 1)=((pl s i 0 i).length:Int) - 1:=w64 (by omega) (by omega);unfold deflate_best.f;rw [el];exact best_full s hs i hi _ (by omega) i 0 (by omega) (by omega) ⟨[],by rw [List.append_nil]⟩ k hk
end Go.Proofs.Ytpbhkdamkbopkaa.Rn
namespace Go.Proofs.Ytpbhkdamkbopkaa.Wr
set_option linter.unusedSimpArgs false
set_option linter.unusedVariables false
open Go.WideElems (rd_val)
open Go.RowKit Go.Maps Go.MapKept Go.ChangeShapes Go.Proofs.YtpbhkdamkbopkaaW.PrintWords Go.Proofs.YtpbhkdamkbopkaaW.PrintLast Go.Proofs.YtpbhkdamkbopkaaW.PrintMore
open Go.Proofs.Ytpbhkdamkbopkaa.Rn (run pl tri)
/-- The places below n where these three bytes begin. -/
def pos (s:ByteArray) (a b c:Int):Nat → List Int
 |0=>[]
 |n+1=>if n+3≤s.size∧bt s (n:Int)=a∧bt s ((n+1:Nat):Int)=b∧bt s ((n+2:Nat):Int)=c then pos s a b c n ++ [(n:Int)] else pos s a b c n
theorem pos_pl (s:ByteArray) (i:Nat) (hi:i+3≤s.size):∀ n,n≤i → pos s (bt s (i:Int)) (bt s ((i+1:Nat):Int)) (bt s ((i+2:Nat):Int)) n=pl s i 0 n:=by
 intro n
 induction n with
 |zero=>intro _;rfl
 |succ n ih =>
  intro hn;simp only [pos,pl,Nat.zero_add];rw [ih (by omega)];by_cases c:tri s i n
  ·rw [if_pos c,if_pos ⟨by omega,c.1.symm,c.2.1.symm,c.2.2.symm⟩]
  ·rw [if_neg c,if_neg (fun h=>c ⟨h.2.1.symm,h.2.2.1.symm,h.2.2.2.symm⟩)]
/-- A datum reads as these numbers. -/
def Dat (d:DataW Unit) (zs:List Int):Prop:=(d=.nil∧zs=[]) ∨ d=.slice (lits .i64 zs) []
theorem lits_inj {zs ys:List Int} (h:lits (H:=Unit) .i64 zs=lits .i64 ys):zs=ys:=by
 unfold lits at h;exact (List.map_inj_right (fun a b hab=>by cases hab;rfl)).1 h
theorem Dat.unique {d:DataW Unit} {zs ys:List Int} (h:Dat d zs) (k:Dat d ys):zs=ys:=by
 rcases h with ⟨h1,h2⟩ | h1 <;> rcases k with ⟨k1,k2⟩ | k1
 ·rw [h2,k2]
 ·rw [h1] at k1;cases k1
 ·rw [k1] at h1;cases h1
 ·rw [h1] at k1;simp at k1;exact lits_inj k1
theorem rows_lt {H:Type} {P:Program} {k:TypeId} {w:World} {base:Nat} {e:TypeId} {q:IntKind} {b n:Nat} {D:DataW H} (h:w.ownsGroups P k base e q b n D):∀ es clock,w.heap[b]?=some (.map es clock) → ∀ x ∈ es.toList,∀ g,x.val.ownBlock=some g → base≤g∧g < w.heap.size:=by
 intro es clock hb x hx g hg;obtain ⟨es',clock',hb',F,_⟩:=h;obtain ⟨rfl,rfl⟩:es'=es∧clock'=clock:=by rw [hb'] at hb;simpa using hb
 obtain ⟨y,hy⟩:=F.reads x hx;obtain ⟨z,hz,_⟩:=rd_val hy;obtain ⟨zs,hoi,_⟩:=rowElem_inv hz;exact hoi.1.lt g hg
theorem WSt.same {w0:World} {g:Nat} {v:Value} {o:List Int} {f:Int} {w w':World} (h:WSt w0 g v o f w) (hg:w'.heap[g]?=w.heap[g]?) (hv:∀ k,v.ownBlock=some k → w'.heap[k]?=w.heap[k]?) (hb:Below w0.heap.size w0 w'):WSt w0 g v o f w' :=
 ⟨hg.trans h.blk,Kd.R_reok rfl (Kd.R_step (Kd.R_tight rfl h.row) (fun k hk _=>hv k hk.symm)) h.row.1,h.hg,hb⟩
/-- The writer and the places. -/
structure RSt (W0:World) (s:ByteArray) (g m:Nat) (v:Value) (B:List Int) (i:Nat) (w:World):Prop where
 wr:WSt W0 g v (pk B) (fr B.length) w
 bits:Bits B
 gm:g < m
 mw:m < w.heap.size
 vm:v.ownBlock ≠ some m
 grp:∃ (D:DataW Unit) (n:Nat),n≤i∧w.ownsGroups Try.prog 97 (m+1) 3 .i64 m n D∧Maps.IsMap D∧∀ a b c,(0≤a∧a≤255) → (0≤b∧b≤255) → (0≤c∧c≤255) → Dat (D.atKey (tl a b c) .nil) (pos s a b c i)
 shun:w.Shuns m (fun k=>k=g ∨ v.ownBlock=some k)
variable {W0:World} {s:ByteArray} {g m:Nat} {v:Value} {B:List Int} {i:Nat} {w w':World}
theorem RSt.below (h:RSt W0 s g m v B i w) (hb:Below w.heap.size w w'):RSt W0 s g m v B i w':=by
 obtain ⟨D,n,h1,h2,h3,h4⟩:=h.grp;have hm:=hb.block m h.mw;exact ⟨h.wr.below hb,h.bits,h.gm,Nat.lt_of_lt_of_le h.mw hb.size,h.vm,⟨D,n,h1,owns_same h2 hm (fun es clock he x hx g' hg'=>hb.block g' (rows_lt h2 es clock he x hx g' hg').2),h3,h4⟩,shuns_same h.shun hm⟩
theorem RSt.wrote {v':Value} {C:List Int} (h:RSt W0 s g m v B i w) (hC:Bits C) (hw:WSt W0 g v' (pk (B ++ C)) (fr (B ++ C).length) w') (hf:Fro w g v w' v'):RSt W0 s g m v' (B ++ C) i w':=by
 obtain ⟨D,n,h1,h2,h3,h4⟩:=h.grp;have hm:w'.heap[m]?=w.heap[m]?:=hf.keep.2 m h.mw (by have:=h.gm;omega) (fun e=>h.vm e.symm)
 have hs:∀ es clock,w.heap[m]?=some (.map es clock) → ∀ x ∈ es.toList,∀ g',x.val.ownBlock=some g' → w'.heap[g']?=w.heap[g']?:=fun es clock he x hx g' hg' =>
  hf.keep.2 g' (rows_lt h2 es clock he x hx g' hg').2 (fun e=>h.shun es clock he x hx g' hg' (.inl e)) (fun e=>h.shun es clock he x hx g' hg' (.inr e.symm))
 have hsh:w.Shuns m (fun k=>k=g ∨ v'.ownBlock=some k):=h.shun.reno h2 (fun k hk=>by
  rcases hk with hk | hk
  ·exact .inl (.inl hk)
  ·rcases hf.own with e | ⟨b,e,hb⟩
   ·exact .inl (.inr (e ▸ hk))
   ·rw [e] at hk;cases hk;exact .inr hb)
 refine ⟨hw,h.bits.append hC,h.gm,Nat.lt_of_lt_of_le h.mw hf.keep.1,fun e=>?_,⟨D,n,h1,owns_same h2 hm hs,h3,h4⟩,shuns_same hsh hm⟩
 rcases hf.own with e1 | ⟨b,e1,hb⟩
 ·exact h.vm (e1 ▸ e)
 ·rw [e1] at e;cases e;have:=h.mw;omega
/-- A place without three bytes. -/
theorem RSt.skip (h:RSt W0 s g m v B i w) (hi:s.size < i+3):RSt W0 s g m v B (i+1) w:=by
 obtain ⟨D,n,h1,h2,h3,h4⟩:=h.grp;refine ⟨h.wr,h.bits,h.gm,h.mw,h.vm,⟨D,n,by omega,h2,h3,fun a b c ha hb hc=>?_⟩,h.shun⟩
 have e:pos s a b c (i+1)=pos s a b c i:=by
  simp only [pos];rw [if_neg (fun h=>by omega)]
 rw [e];exact h4 a b c ha hb hc
/-- The places of three bytes,looked up. -/
theorem RSt.look (h : RSt W0 s g m v B i w) (hi : i ≤ 1000000000) {a b c : Int} (ha : 0 ≤ a ∧ a ≤ 255) (hb : 0 ≤ b ∧ b ≤ 255) (hc : 0 ≤ c ∧ c ≤ 255) :
  ∃ A cap,(Instr.lookup 105 (.map (some m)) (tk a b c) false).run Try.prog w=.ok (.slice A (pos s a b c i).length cap) w∧(pos s a b c i).length≤cap∧Kd.C (Kd.int .i64) w A (pos s a b c i).length (pos s a b c i):=by
 obtain ⟨D,n,h1,h2,h3,h4⟩:=h.grp;obtain ⟨u,zs,hrun,hat,hoi,_,_⟩:=h2.at keyed97 Try.underlying105 (zero22 w) (by unfold maxLen;omega) (tl_key ha hb hc);have hz:zs=pos s a b c i:=Dat.unique (d:=rowDatum .i64 u zs) hoi.datum (hat ▸ h4 a b c ha hb hc);have hR:Kd.R (Kd.int .i64) 3 w (m+1) (fun _=>True) u zs:=Kd.R_of_own hoi.1 (fun _ _=>trivial);obtain ⟨A,cap,e,hle,hC⟩:=Kd.R_reads hR;rw [← hz];exact ⟨A,cap,by rw [hrun,e],hle,hC⟩
/-- An entry that is appended to: the places hold one more. -/
theorem RSt.entry (h : RSt W0 s g m v B i w) (hs : s.size ≤ 1000000000) (hi : i + 3 ≤ s.size) :
  ∃ (u:Value) (st:Int) (zs:List Int) (w1:World),(Instr.mapEntry 105 (.map (some m)) (tk (bt s (i:Int)) (bt s ((i+1:Nat):Int)) (bt s ((i+2:Nat):Int)))).run Try.prog w=.ok (.tuple #[u,goInt st]) w1∧w.grownBy w1 (some m) ∧
   w1.ownsRow (m+1) 3 1 u zs.length (zs.map (Value.int .i64))∧zs.length≤i∧m+1≤w1.heap.size ∧
   ∀ (w2:World) (u':Value),w1.grownBy w2 u.ownBlock → w2.ownsRow (m+1) 3 1 u' (zs.length+1) (zs.map (Value.int .i64) ++ [.int .i64 (i:Int)]) → (u'.ownBlock=u.ownBlock ∨ u'.ownBlock=some w1.heap.size) →
    ∃ w3,(Instr.entryStore 105 (.map (some m)) (goInt st) u').run Try.prog w2=.ok () w3∧RSt W0 s g m v B (i+1) w3:=by
 obtain ⟨D,n,h1,h2,h3,h4⟩:=h.grp;have ra:=bt_range s (i:Int);have rb:=bt_range s ((i+1:Nat):Int);have rc:=bt_range s ((i+2:Nat):Int);obtain ⟨u,st,zs,w1,hrun,hg1,hat,hoi,hzl,hsh,hback⟩:=groups_entry law97 Try.underlying105 zero22 h2 (by unfold maxLen;omega) (tl_key ra rb rc);have hz:zs=pos s (bt s (i:Int)) (bt s ((i+1:Nat):Int)) (bt s ((i+2:Nat):Int)) i:=Dat.unique (d:=rowDatum .i64 u zs) hoi.datum (hat ▸ h4 _ _ _ ra rb rc);refine ⟨u,st,zs,w1,hrun,hg1,hoi.1,by omega,Nat.lt_of_lt_of_le h.mw hg1.size,?_⟩;intro w2 u' hg2 hown hloc
 have hwf:(Lit.int .i64 (i:Int)).wf=true:=by
  simp [Lit.wf,IntKind.min,IntKind.max,IntKind.signed,IntKind.bits];omega
 have hoi':w2.ownsInts (m+1) 3 .i64 u' (zs ++ [(i:Int)]):=hoi.appended hown hwf;have hloc':u'.ownBlock=u.ownBlock ∨ ∃ g,u'.ownBlock=some g∧w.heap.size≤g:=hloc.imp id (fun h=>⟨_,h,hg1.size⟩);obtain ⟨w3,hrun3,hown3,hg3,hsh3⟩:=hback w2 u' (zs ++ [(i:Int)]) hg2 hoi' (by simp;omega) hloc';refine ⟨w3,hrun3,?_⟩
 -- what is not the map's nor its row's stays
 have hgs:g < w.heap.size:=blk_lt h.wr.blk
 have stay:∀ k,k < w.heap.size → k ≠ m → u.ownBlock ≠ some k → w3.heap[k]?=w.heap[k]?:=fun k hk hm hu =>
  ((hg3.block k (Nat.lt_of_lt_of_le hk (Nat.le_trans hg1.size hg2.size)) (fun e=>hm (by cases e;rfl))).trans (hg2.block k (Nat.lt_of_lt_of_le hk hg1.size) (fun e=>hu e.symm))).trans (hg1.block k hk (fun e=>hm (by cases e;rfl)))
 have husn:=hsh _ h.shun
 have hbel:Below W0.heap.size W0 w3:=by
  have hWm:W0.heap.size≤m:=Nat.le_trans h.wr.hg (Nat.le_of_lt h.gm);have b1:=h.wr.bl.grown hg1 h.wr.bl.size (fun j hj=>by cases hj;exact hWm);have b2:=b1.grown hg2 b1.size (fun j hj=>by have:=(hoi.1.lt j hj).1;omega);exact b2.grown hg3 b2.size (fun j hj=>by cases hj;exact hWm)
 have hvlt:∀ k,v.ownBlock=some k → k < w.heap.size:=fun k hk=>by
  obtain ⟨inner,ho⟩:=Kd.R_own h.wr.row;exact (ho.lt k hk).2
 refine ⟨h.wr.same (stay g hgs (by have:=h.gm;omega) (fun e=>husn g e (.inl rfl))) (fun k hk=>stay k (hvlt k hk) (fun e=>h.vm (e ▸ hk)) (fun e=>husn k e (.inr hk))) hbel,h.bits,h.gm,Nat.lt_of_lt_of_le h.mw (Nat.le_trans hg1.size (Nat.le_trans hg2.size hg3.size)),h.vm,⟨_,n+1,by omega,hown3,h3.put _ _,fun a b c ha hb hc=>?_⟩,hsh3 _ h.shun ?_⟩
 ·by_cases e:a=bt s (i:Int)∧b=bt s ((i+1:Nat):Int)∧c=bt s ((i+2:Nat):Int)
  ·rw [e.1,e.2.1,e.2.2,put_here h3 ra rb rc];simp only [pos];rw [if_pos ⟨hi,trivial,trivial,trivial⟩,← hz];exact hoi'.datum
  ·rw [put_there ha hb hc ra rb rc _ e];simp only [pos];rw [if_neg (fun e1=>e ⟨e1.2.1.symm,e1.2.2.1.symm,e1.2.2.2.symm⟩)];exact h4 a b c ha hb hc
 ·intro k hk hno
  rcases hloc with e | e
  ·exact husn k (e ▸ hk) hno
  ·rw [e] at hk;cases hk
   rcases hno with e1 | e1
   ·have:=hg1.size;omega
   ·have:=hvlt _ e1;have:=hg1.size;omega
section
variable {P:Program} {ops:Array Oper} {rest:List Oper} {o:Oper} {a:Act} {Q:Exit → Act → World → Prop} {w w1:World}
theorem wpList_mapEntry_run (hg:o.guard=none) (mo x:Operand) (t:TypeId) (hop:o.op=Op.mapEntry t mo x) (mv key r:Value) (hm:a.eval mo=mv) (hx:a.eval x=key) (hrun:(Instr.mapEntry t mv key).run P w=.ok r w1) (hK:wpList P ops Q rest (a.put o.dst r) w1):wpList P ops Q (o :: rest) a w:=by
 refine wpList_plain hg fun K' hK'=>?_;unfold Oper.wp;simp [execOp,hop,hm,hx,hrun,Result.andThen];exact hK' _ _ hK
theorem wpList_entryStore_run (hg:o.guard=none) (mo st x:Operand) (t:TypeId) (hop:o.op=Op.entryStore t mo st x) (mv sv key:Value) (hm:a.eval mo=mv) (hst:a.eval st=sv) (hx:a.eval x=key) (hrun:(Instr.entryStore t mv sv key).run P w=.ok () w1) (hK:wpList P ops Q rest (a.put o.dst undef) w1):wpList P ops Q (o :: rest) a w:=by
 refine wpList_plain hg fun K' hK'=>?_;unfold Oper.wp;simp [execOp,hop,hm,hst,hx,hrun,Result.andThen];exact hK' _ _ hK
theorem wpList_lookup_run (hg:o.guard=none) (mo x:Operand) (t:TypeId) (hop:o.op=Op.lookup t mo x false) (mv key r:Value) (hm:a.eval mo=mv) (hx:a.eval x=key) (hrun:(Instr.lookup t mv key false).run P w=.ok r w) (hK:wpList P ops Q rest (a.put o.dst r) w):wpList P ops Q (o :: rest) a w:=by
 refine wpList_plain hg fun K' hK'=>?_;unfold Oper.wp;simp [execOp,hop,hm,hx,hrun,Result.andThen];exact hK' _ _ hK
end
end Go.Proofs.Ytpbhkdamkbopkaa.Wr
namespace Go.Proofs.Ytpbhkdamkbopkaa.Wr
set_option linter.unusedSimpArgs false
set_option linter.unusedVariables false
open Go.RowKit Go.Maps Go.MapKept Go.Proofs.YtpbhkdamkbopkaaW.PrintWords Go.Proofs.YtpbhkdamkbopkaaW.PrintLast Go.Proofs.YtpbhkdamkbopkaaW.PrintMore
open Go.Proofs.Ytpbhkdamkbopkaa.Rn (run ip at_ok at_no best_f)
open Go.Proofs.Ytpbhkdamkbopkaa.GRuns (deflate_at.f deflate_at.calls deflate_best.f deflate_best.calls)
/-- The bits of the bytes from i on. -/
def rbits (s:ByteArray):Nat → Nat → List Int
 |0,_=>[]
 |k+1,i=>if i < s.size then (if (run s i).1=0 then sc (bt s (i:Int)) ++ rbits s k (i+1) else rc ((run s i).1:Nat) ((run s i).2:Nat) ++ rbits s k (i+(run s i).1)) else []
/-- The bits of a whole. -/
def RB (s:ByteArray):List Int:=(([] ++ [1]) ++ nb 1 2 ++ rbits s s.size 0) ++ sc 256
theorem RSt.start {W0:World} {s:ByteArray} {g:Nat} {v:Value} {B:List Int} {w:World} (h:WSt W0 g v (pk B) (fr B.length) w) (hB:Bits B):RSt W0 s g w.heap.size v B 0 (w.alloc (.map #[] 0)):=by
 refine ⟨h.below (below_alloc (Below.refl _ _) _),hB,blk_lt h.blk,by simp,fun e=>?_,⟨.map [],0,Nat.le_refl _,World.ownsGroups_made w Try.prog 97 3 .i64,Maps.isMap_empty,fun a b c _ _ _=>.inl ⟨rfl,rfl⟩⟩,World.Shuns_made w _⟩;obtain ⟨inner,ho⟩:=Kd.R_own h.row;have:=(ho.lt _ e).2;omega
theorem add_block (b:Nat) (t:Nat):((⟨b,0,none⟩:Addr).add t).block=b:=by
 simp [Addr.add]
 split <;> rfl
theorem cell_keep {w8 wm:World} {m:Nat} {y:Int} (hgm:(w8.alloc (.cells #[.int .i64 y] 3)).grownBy wm (some m)) (hm:m < w8.heap.size):∀ t u,[Value.int .i64 y][t]?=some u → wm.cell? ((⟨w8.heap.size,0,none⟩:Addr).add t)=some u:=by
 intro t u htu
 have hb:wm.heap[((⟨w8.heap.size,0,none⟩:Addr).add t).block]?=(w8.alloc (.cells #[.int .i64 y] 3)).heap[((⟨w8.heap.size,0,none⟩:Addr).add t).block]?:=by
  rw [add_block];exact hgm.block w8.heap.size (by simp) (fun e1=>by have:=Option.some.inj e1;omega)
 exact (World.cell?_of_block hb).trans (cell_one_new w8 _ 3 t u htu)
theorem info3w:(Try.prog.info? 3).map (fun i=>(i.zero,i.size,i.bytes))=some (some (.int .i64 0),1,8):=by kernel_rfl
theorem run_rng (s:ByteArray) (i:Nat) (hi:i≤s.size):(run s i).1=0∧(run s i).2=0 ∨ 3≤(run s i).1∧(run s i).1≤258∧1≤(run s i).2∧(run s i).2≤i∧(run s i).2≤32768∧i+(run s i).1≤s.size:=by
 obtain ⟨b0,b1⟩:=Rn.best_spec s i (min i 32768);unfold run;generalize Rn.best s i (min i 32768)=p at *;unfold Rn.fin;by_cases c:p.1 < 3
 ·rw [if_pos c];exact .inl ⟨rfl,rfl⟩
 ·rw [if_neg c]
  rcases b1 with b1 | ⟨a0,a1,a2,a3,a4⟩
  ·omega
  ·obtain ⟨v0,v1,v2,_⟩:=Rn.mlen_spec (s:=s) (i:=i) (j:=i - p.2) hi;rw [a2] at v0 v1 v2;exact .inr ⟨by omega,v0,a0,by omega,by omega,v1⟩
theorem rc_len (n far:Int) (hn:3≤n) (hf:1≤far):(rc n far).length≤32:=by
 have h1:=sc_len (lsym n).1;have h2:=(lsym_rng hn).2.2.2.2.2;have h3:=(df_rng hf 30 (Nat.le_refl _)).2.2.2.2.2;unfold rc;rw [List.length_append,List.length_append,List.length_append,nb_len,nb_len,cb_len];have h4:(dsym far).2.2≤13:=h3;omega
set_option maxRecDepth 100000 in
set_option maxHeartbeats 4000000 in
theorem raw_calls (s:ByteArray) (hs:s.size≤262144) (w:World):Calls Try.prog 39 #[.string s] w fun e w'=>e=.returned (.tuple #[.string (strOfNums (pk (RB s))),.int .i64 0])∧Below w.heap.size w w':=by
 have hu97:=Try.underlying97;have E0:Aside0 (Bits []):=⟨fun b hb=>absurd hb (by simp)⟩;have E1:Aside0 (Bits ([] ++ [1])):=⟨fun b hb=>by simp at hb;omega⟩;have E2:Aside0 ((0:Int)≤1∧(1:Int)≤1):=⟨by decide⟩;have E3:Aside0 (([]:List Int).length≤1000000000):=⟨by decide⟩;have E4:Aside0 ((0:Int)≤1):=⟨by decide⟩;have E5:Aside0 ((1:Int)≤1000000):=⟨by decide⟩;have E6:Aside0 ((([]:List Int) ++ [1]).length≤1000000000):=⟨by decide⟩;have hmm:=@run_makeMap Try.prog;obtain ⟨i0,hi,hz0,hz1,hz2⟩:=info_parts info3w;have hbig:decide ((s.size:Int) > 262144)=false:=decide_eq_false (by omega);go_enter Try.func39,Try.ntmps39
 go_upto_region 8 with (first
  |((with_reducible refine gate_dst (N:=17) rfl ?_);refine box_event ?hg (N:=17) ?hd (cs:=#[.slice none 0 0,.int .i64 0]) (t:=103) ?hr ?_;(case hd=>rfl);(case hg=>rfl);(case hr=>first | (go_simp;done) | (go_simp;rfl));intro g hg w1 hx hb;have H0:Aside0 (WSt w g (.slice none 0 0) (pk []) (fr ([]:List Int).length) w1):=⟨⟨hx,Kd.R_nil _ _ _ _ _,Nat.le_of_eq hg.symm,hb⟩⟩;clear hx hb hg)
  |(go_at_call 63;(with_reducible refine (bits_one w g _ [] 1 _ H0.out E0.out E2.out E3.out).mono ?_);rintro e w' ⟨v2,rfl,hw2,hf2⟩;have H1:=Aside0.mk hw2;clear hw2 hf2)
  |(go_at_call 63;(with_reducible refine (bits_two w g _ ([] ++ [1]) 1 _ H1.out E1.out E4.out E5.out E6.out).mono ?_);rintro e w' ⟨v3,rfl,hw2,hf2⟩;have H2:=Aside0.mk hw2;clear hw2 hf2))
 obtain ⟨B0,hB0⟩:∃ B0,B0=([] ++ [1]) ++ nb 1 2:=⟨_,rfl⟩;have EB:Aside0 (Bits B0∧B0.length=3∧RB s=(B0 ++ rbits s s.size 0) ++ sc 256):=⟨by rw [hB0];exact ⟨E1.out.append (nb_bits _ _),rfl,rfl⟩⟩;have H3:Aside0 (RSt w s g w'.heap.size v3 B0 0 (w'.alloc (.map #[] 0))):=⟨by rw [hB0];exact RSt.start H2.out (E1.out.append (nb_bits _ _))⟩;clear hB0 H0 H1 H2 E0 E1 E2 E3 E4 E5 E6;generalize World.alloc _ (.map #[] 0)=w4 at H3 ⊢;generalize w'.heap.size=m at H3 ⊢;go_wp2
 go_loopw [6] (fun v6 w'=>∃ (x:Int) (i k:Nat) (v1:Value) (B:List Int),v6=.int .i64 x∧Aside0 (x=(i:Int))∧Aside0 (i≤s.size∧s.size≤i+k)∧Aside0 (RSt w s g m v1 B i w')∧Aside0 (B ++ rbits s k i=B0 ++ rbits s s.size 0)∧Aside0 (B.length≤3+11*i)) (fun v6 _=>s.size - (intOf v6).toNat)
 case atStart=>exact ⟨0,0,s.size,v3,B0,rfl,⟨rfl⟩,⟨⟨Nat.zero_le _,by omega⟩⟩,H3,⟨rfl⟩,⟨by rw [EB.out.2.1];omega⟩⟩
 clear H3;obtain ⟨x,i,k,v1,B,rfl,hxi,hik,HR,HE,HL⟩:=hrel;by_cases hlt:i < s.size
 ·have hx0:0≤x:=by rw [hxi.out];exact Int.natCast_nonneg _
  have hx1:x < (s.size:Int):=by rw [hxi.out];exact Int.ofNat_lt.mpr hlt
  have hdec:decide (x < (s.size:Int))=true:=decide_eq_true hx1;by_cases h3:i+3≤s.size
  focus
   obtain ⟨t1,ht1⟩:∃ t1,t1=bt s (i:Int):=⟨_,rfl⟩;obtain ⟨t2,ht2⟩:∃ t2,t2=bt s ((i+1:Nat):Int):=⟨_,rfl⟩;obtain ⟨t3,ht3⟩:∃ t3,t3=bt s ((i+2:Nat):Int):=⟨_,rfl⟩;have Hat:Aside0 (deflate_at.f s x=some (t1,t2,t3,true)):=⟨by rw [hxi.out,ht1,ht2,ht3];exact at_ok s (by omega) i h3⟩;have HT:=Aside0.mk (And.intro ht1 (And.intro ht2 ht3));clear ht1 ht2 ht3
   go_upto_region 10 with (first
    |(go_at_call 61;(with_reducible refine (deflate_at.calls s x t1 t2 t3 true _ Hat.out).mono ?_);rintro e w' ⟨rfl,hb⟩;have HB1:=Aside0.mk hb;clear hb)
    |((with_reducible refine gate_dst (N:=7) rfl ?_);refine box_event ?hg (N:=7) ?hd (cs:=#[.int .u8 0,.int .u8 0,.int .u8 0]) (t:=97) ?hr ?_;(case hd=>rfl);(case hg=>rfl);(case hr=>first | (go_simp;done) | (go_simp;rfl));intro gb hg w7 hbox hb;have HB2:=Aside0.mk (below_step HB1.out hb);have BK:=Aside0.mk hbox;have GE:=Aside0.mk (by rw [hg];exact HB1.out.size:wr.heap.size≤gb);clear hb hbox hg HB1;have Qa:w7.cell? ⟨gb,0,none⟩=some (.int .u8 0):=(blk_cell BK.out 0).trans rfl;have Qb:w7.cell? ⟨gb,1,none⟩=some (.int .u8 0):=(blk_cell BK.out 1).trans rfl;have Qc:w7.cell? ⟨gb,2,none⟩=some (.int .u8 0):=(blk_cell BK.out 2).trans rfl;have Qd:=blk_frozen BK.out 0;have Qe:=blk_frozen BK.out 1;have Qf:=blk_frozen BK.out 2))
   obtain ⟨w8,hw8⟩:∃ w8,w8=(((w7.setCell ⟨gb,0,none⟩ (.int .u8 t1)).setCell ⟨gb,1,none⟩ (.int .u8 t2)).setCell ⟨gb,2,none⟩ (.int .u8 t3)):=⟨_,rfl⟩;have BK8:Aside0 (w8.heap[gb]?=some (.cells #[.int .u8 t1,.int .u8 t2,.int .u8 t3] 97 (0,0))):=⟨by rw [hw8];exact blk_put (cs:=#[.int .u8 t1,.int .u8 t2,.int .u8 0]) (blk_put (cs:=#[.int .u8 t1,.int .u8 0,.int .u8 0]) (blk_put (cs:=#[.int .u8 0,.int .u8 0,.int .u8 0]) BK.out 0 _ rfl) 1 _ rfl) 2 _ rfl⟩;have HB8:Aside0 (Below wr.heap.size wr w8):=⟨by rw [hw8];exact below_set (below_set (below_set HB2.out GE.out) GE.out) GE.out⟩;rw [← hw8];clear hw8 Qa Qb Qc Qd Qe Qf BK HB2 GE;have HR8:Aside0 (RSt w s g m v1 B i w8):=⟨HR.out.below HB8.out⟩;(have r1:0≤t1∧t1≤255:=by rw [HT.out.1];exact bt_range _ _);(have r2:0≤t2∧t2≤255:=by rw [HT.out.2.1];exact bt_range _ _);(have r3:0≤t3∧t3≤255:=by rw [HT.out.2.2];exact bt_range _ _);obtain ⟨A,cap,hlook,hcap,hC⟩:=HR8.out.look (by omega) r1 r2 r3;obtain ⟨L,hL⟩:∃ L,L=pos s t1 t2 t3 i:=⟨_,rfl⟩;rw [← hL] at hlook hcap hC;have HLK:=Aside0.mk hlook;have HCP:=Aside0.mk hcap;have HCC:=Aside0.mk hC;obtain ⟨N,F,hNF⟩:∃ N F,run s i=(N,F):=⟨_,_,rfl⟩
   have Hbest:Aside0 (deflate_best.f (2*i+262) s x L=some ((N:Int),(F:Int))):=⟨by
    rw [hL,HT.out.1,HT.out.2.1,HT.out.2.2,pos_pl s i h3 i (Nat.le_refl _),hxi.out,best_f s (by omega) i h3 (by omega) _ (Nat.le_refl _),hNF];rfl⟩
   clear hL hlook hcap hC r1 r2 r3 HB8 HR Hat HT;have hc0:w8.cell? ⟨gb,0,none⟩=some (.int .u8 t1):=(blk_cell BK8.out 0).trans rfl;have hc1:w8.cell? ⟨gb,1,none⟩=some (.int .u8 t2):=(blk_cell BK8.out 1).trans rfl;have hc2:w8.cell? ⟨gb,2,none⟩=some (.int .u8 t3):=(blk_cell BK8.out 2).trans rfl;have HNF:=Aside0.mk hNF;clear hNF
   go_upto_region 13 with (first
    |((with_reducible refine gate_dst (N:=39) rfl ?_);refine wpList_lookup_run rfl (.tmp 37) (.tmp 38) 105 rfl _ _ _ rfl rfl HLK.out ?_)
    |(go_at_call 62;(with_reducible refine (deflate_best.calls (2*i+262) s x A cap L (N:Int) (F:Int) _ HCC.out HCP.out Hbest.out).mono ?_);rintro e w' ⟨rfl,hd⟩;have HR9:Aside0 (RSt w s g m v1 B i w'):=⟨HR8.out.below hd.below⟩;clear hd))
   by_cases c:N=0
   focus
    subst c;have hc:(((0:Nat):Int) == 0)=true:=rfl

    have hxb:=bt_at s x;have p0:=eq_true hx0;have q0:=eq_true hx1;obtain ⟨z,hz⟩:∃ z,z=bt s x:=⟨_,rfl⟩;rw [← hz] at hxb;(have hz0:0≤z∧z≤255:=by rw [hz];exact bt_range s x);have HZ:Aside0 (z=bt s (i:Int)):=⟨by rw [hz,hxi.out]⟩;clear hz;obtain ⟨hz0,hz1⟩:=hz0;have N0:Aside0 (0≤z):=⟨hz0⟩;have N1:Aside0 (z≤300):=⟨by omega⟩;have N2:Aside0 (B.length≤1000000000 - 16):=⟨by have:=HL.out;omega⟩;(go_wp2_with (go_at_call 64;(with_reducible refine (symbol_calls w g v1 B z _ HR9.out.wr HR9.out.bits N0.out N1.out N2.out).mono ?_);rintro e w10 ⟨v2,rfl,hw2,hf2⟩;have Qg:Aside0 (RSt w s g m v2 (B ++ sc z) i w10):=⟨HR9.out.wrote (sc_bits z) hw2 hf2⟩;clear hw2 hf2));obtain ⟨k1,hk1⟩:∃ k1,k=k1+1:=⟨k - 1,by have:=hik.out;omega⟩
    have HE2:Aside0 ((B ++ sc z) ++ rbits s k1 (i+1)=B0 ++ rbits s s.size 0):=⟨by
     rw [← HE.out,hk1,List.append_assoc]
     congr 1
     rw [rbits,if_pos hlt,HNF.out,if_pos rfl,HZ.out]⟩
    have HL2:Aside0 ((B ++ sc z).length≤3+11*(i+1)):=⟨by have h1:=HL.out;have h2:=sc_len z;rw [List.length_append];omega⟩;obtain ⟨e,he⟩:∃ e,e=i+1:=⟨_,rfl⟩;have Hie:Aside0 (i+1≤e∧e≤s.size∧s.size≤e+k1∧(1:Int)=(e:Int) - (i:Int)):=⟨by have:=hik.out;omega⟩;rw [← he] at HE2 HL2;obtain ⟨B2,hB2⟩:∃ B2,B2=B ++ sc z:=⟨_,rfl⟩;rw [← hB2] at Qg HE2 HL2;clear hB2 he hk1 N0 N1 N2 HZ hz0 hz1 hxb p0 q0 HNF HR9 HE HL;(try clear HR)
   rotate_left
   focus
    have hc:(((N:Nat):Int) == 0)=false:=beq_eq_false_iff_ne.2 (by omega)
    have hrr:3≤N∧N≤258∧1≤F∧F≤32768∧i+N≤s.size:=by
     have:=run_rng s i (by omega);rw [HNF.out] at this;simp only at this;omega
    have N0:Aside0 ((3:Int)≤(N:Int)):=⟨by omega⟩;have N1:Aside0 ((N:Int)≤258):=⟨by omega⟩;have N2:Aside0 (B.length≤1000000000 - 100):=⟨by have:=HL.out;omega⟩;have N3:Aside0 ((1:Int)≤(F:Int)):=⟨by omega⟩;have N4:Aside0 ((F:Int)≤32768):=⟨by omega⟩;(go_wp2_with (go_at_call 65;(with_reducible refine (run_calls w g v1 B (N:Int) (F:Int) _ HR9.out.wr HR9.out.bits N0.out N1.out N3.out N4.out N2.out).mono ?_);rintro e w10 ⟨v2,rfl,hw2,hf2⟩;have Qg:Aside0 (RSt w s g m v2 (B ++ rc (N:Int) (F:Int)) i w10):=⟨HR9.out.wrote (rc_bits _ _) hw2 hf2⟩;clear hw2 hf2));obtain ⟨k1,hk1⟩:∃ k1,k=k1+1:=⟨k - 1,by have:=hik.out;omega⟩
    have HE2:Aside0 ((B ++ rc (N:Int) (F:Int)) ++ rbits s k1 (i+N)=B0 ++ rbits s s.size 0):=⟨by
     rw [← HE.out,hk1,List.append_assoc]
     congr 1
     rw [rbits,if_pos hlt,HNF.out,if_neg c]⟩
    have HL2:Aside0 ((B ++ rc (N:Int) (F:Int)).length≤3+11*(i+N)):=⟨by have h1:=HL.out;have h2:=rc_len (N:Int) (F:Int) (by omega) (by omega);rw [List.length_append];omega⟩;obtain ⟨e,he⟩:∃ e,e=i+N:=⟨_,rfl⟩;have Hie:Aside0 (i+1≤e∧e≤s.size∧s.size≤e+k1∧(N:Int)=(e:Int) - (i:Int)):=⟨by have:=hik.out;omega⟩;rw [← he] at HE2 HL2;obtain ⟨B2,hB2⟩:∃ B2,B2=B ++ rc (N:Int) (F:Int):=⟨_,rfl⟩;rw [← hB2] at Qg HE2 HL2;clear hB2 he hk1 N0 N1 N2 N3 N4 hrr hc c HNF HR9 HE HL;(try clear HR)
  rotate_right
  focus
   have Hat:Aside0 (deflate_at.f s x=some (0,0,0,false)):=⟨at_no s (by omega) x (.inr (by rw [hxi.out];omega))⟩
   have HNF:Aside0 (run s i=(0,0)):=⟨Rn.run_none (fun d _ _=>by
    have:=(Rn.mlen_spec (s:=s) (i:=i) (j:=i - d) (by omega)).2.1;omega)⟩
   go_upto_region 10 with (first
    |(go_at_call 61;(with_reducible refine (deflate_at.calls s x 0 0 0 false _ Hat.out).mono ?_);rintro e w' ⟨rfl,hb⟩;have HB1:=Aside0.mk hb;clear hb)
    |((with_reducible refine gate_dst (N:=7) rfl ?_);refine box_event ?hg (N:=7) ?hd (cs:=#[.int .u8 0,.int .u8 0,.int .u8 0]) (t:=97) ?hr ?_;(case hd=>rfl);(case hg=>rfl);(case hr=>first | (go_simp;done) | (go_simp;rfl));intro gb hg w7 hbox hb;have HB2:=Aside0.mk (below_step HB1.out hb);have BK:=Aside0.mk hbox;have GE:=Aside0.mk (by rw [hg];exact HB1.out.size:wr.heap.size≤gb);clear hb hbox hg HB1;have Qa:w7.cell? ⟨gb,0,none⟩=some (.int .u8 0):=(blk_cell BK.out 0).trans rfl;have Qb:w7.cell? ⟨gb,1,none⟩=some (.int .u8 0):=(blk_cell BK.out 1).trans rfl;have Qc:w7.cell? ⟨gb,2,none⟩=some (.int .u8 0):=(blk_cell BK.out 2).trans rfl;have Qd:=blk_frozen BK.out 0;have Qe:=blk_frozen BK.out 1;have Qf:=blk_frozen BK.out 2))
   obtain ⟨w8,hw8⟩:∃ w8,w8=(((w7.setCell ⟨gb,0,none⟩ (.int .u8 0)).setCell ⟨gb,1,none⟩ (.int .u8 0)).setCell ⟨gb,2,none⟩ (.int .u8 0)):=⟨_,rfl⟩;have HB8:Aside0 (Below wr.heap.size wr w8):=⟨by rw [hw8];exact below_set (below_set (below_set HB2.out GE.out) GE.out) GE.out⟩;rw [← hw8];clear hw8 Qa Qb Qc Qd Qe Qf BK HB2 GE;have HR9:Aside0 (RSt w s g m v1 B i w8):=⟨HR.out.below HB8.out⟩;clear HB8 Hat;have hxb:=bt_at s x;have p0:=eq_true hx0;have q0:=eq_true hx1;obtain ⟨z,hz⟩:∃ z,z=bt s x:=⟨_,rfl⟩;rw [← hz] at hxb;(have hz0:0≤z∧z≤255:=by rw [hz];exact bt_range s x);have HZ:Aside0 (z=bt s (i:Int)):=⟨by rw [hz,hxi.out]⟩;clear hz;obtain ⟨hz0,hz1⟩:=hz0;have N0:Aside0 (0≤z):=⟨hz0⟩;have N1:Aside0 (z≤300):=⟨by omega⟩;have N2:Aside0 (B.length≤1000000000 - 16):=⟨by have:=HL.out;omega⟩;(go_wp2_with (go_at_call 64;(with_reducible refine (symbol_calls w g v1 B z _ HR9.out.wr HR9.out.bits N0.out N1.out N2.out).mono ?_);rintro e w10 ⟨v2,rfl,hw2,hf2⟩;have Qg:Aside0 (RSt w s g m v2 (B ++ sc z) i w10):=⟨HR9.out.wrote (sc_bits z) hw2 hf2⟩;clear hw2 hf2));obtain ⟨k1,hk1⟩:∃ k1,k=k1+1:=⟨k - 1,by have:=hik.out;omega⟩
   have HE2:Aside0 ((B ++ sc z) ++ rbits s k1 (i+1)=B0 ++ rbits s s.size 0):=⟨by
    rw [← HE.out,hk1,List.append_assoc]
    congr 1
    rw [rbits,if_pos hlt,HNF.out,if_pos rfl,HZ.out]⟩
   have HL2:Aside0 ((B ++ sc z).length≤3+11*(i+1)):=⟨by have h1:=HL.out;have h2:=sc_len z;rw [List.length_append];omega⟩;obtain ⟨e,he⟩:∃ e,e=i+1:=⟨_,rfl⟩;have Hie:Aside0 (i+1≤e∧e≤s.size∧s.size≤e+k1∧(1:Int)=(e:Int) - (i:Int)):=⟨by have:=hik.out;omega⟩;rw [← he] at HE2 HL2;obtain ⟨B2,hB2⟩:∃ B2,B2=B ++ sc z:=⟨_,rfl⟩;rw [← hB2] at Qg HE2 HL2;clear hB2 he hk1 N0 N1 N2 HZ hz0 hz1 hxb p0 q0 HNF HR9 HE HL;(try clear HR)
  all_goals
   (try clear HR8 HLK HCP HCC Hbest BK8 hc0 hc1 hc2 hlook)
   go_loopw [6,9] (fun v6 v9 w'=>∃ (y r:Int) (j:Nat),v6=.int .i64 y∧v9=.int .i64 r∧Aside0 (y=(j:Int)∧r=(e:Int) - (j:Int)∧i≤j∧j≤e)∧Aside0 (RSt w s g m v2 B2 j w')) (fun v6 _ _=>e - (intOf v6).toNat)
   case atStart=>exact ⟨x,_,i,rfl,rfl,⟨⟨hxi.out,Hie.out.2.2.2,Nat.le_refl _,by have:=Hie.out.1;omega⟩⟩,Qg⟩
   clear Qg;obtain ⟨y,r,j,rfl,rfl,hy,HRj⟩:=hrel;(have hyb:0≤y∧y≤262144∧0≤r∧r≤262144:=by have h1:=hy.out;have h2:=Hie.out;omega);obtain ⟨hy0,hy1,hr0,hr1⟩:=hyb;by_cases hjr:j < e;rotate_left
   ·have hje:j=e:=by have:=hy.out;omega
    have hdr:decide (r > 0)=false:=decide_eq_false (by have:=hy.out;omega);go_wp2
    go_roundw
    case rel=>exact ⟨y,e,k1,v2,B2,rfl,⟨by rw [hy.out.1,hje]⟩,⟨⟨Hie.out.2.1,Hie.out.2.2.1⟩⟩,⟨hje ▸ HRj.out⟩,HE2,HL2⟩
    case measure=>have h1:=hy.out;have h2:=Hie.out;have h3:=hxi.out;simp [intOf];omega
   have hdr:decide (r > 0)=true:=decide_eq_true (by have:=hy.out;omega);by_cases h3j:j+3≤s.size
   ·obtain ⟨t1,ht1⟩:∃ t1,t1=bt s (j:Int):=⟨_,rfl⟩;obtain ⟨t2,ht2⟩:∃ t2,t2=bt s ((j+1:Nat):Int):=⟨_,rfl⟩;obtain ⟨t3,ht3⟩:∃ t3,t3=bt s ((j+2:Nat):Int):=⟨_,rfl⟩;have Hat:Aside0 (deflate_at.f s y=some (t1,t2,t3,true)):=⟨by rw [hy.out.1,ht1,ht2,ht3];exact at_ok s (by omega) j h3j⟩;have HT:=Aside0.mk (And.intro ht1 (And.intro ht2 ht3));clear ht1 ht2 ht3
    go_upto_region 20 with (first
     |(go_at_call 61;(with_reducible refine (deflate_at.calls s y t1 t2 t3 true _ Hat.out).mono ?_);rintro e w' ⟨rfl,hb⟩;have HB1:=Aside0.mk hb;clear hb)
     |((with_reducible refine gate_dst (N:=11) rfl ?_);refine box_event ?hg (N:=11) ?hd (cs:=#[.int .u8 0,.int .u8 0,.int .u8 0]) (t:=97) ?hr ?_;(case hd=>rfl);(case hg=>rfl);(case hr=>first | (go_simp;done) | (go_simp;rfl));intro gb hg w7 hbox hb;have HB2:=Aside0.mk (below_step HB1.out hb);have BK:=Aside0.mk hbox;have GE:=Aside0.mk (by rw [hg];exact HB1.out.size:wr.heap.size≤gb);clear hb hbox hg HB1;have Qa:w7.cell? ⟨gb,0,none⟩=some (.int .u8 0):=(blk_cell BK.out 0).trans rfl;have Qb:w7.cell? ⟨gb,1,none⟩=some (.int .u8 0):=(blk_cell BK.out 1).trans rfl;have Qc:w7.cell? ⟨gb,2,none⟩=some (.int .u8 0):=(blk_cell BK.out 2).trans rfl;have Qd:=blk_frozen BK.out 0;have Qe:=blk_frozen BK.out 1;have Qf:=blk_frozen BK.out 2))
    obtain ⟨w8,hw8⟩:∃ w8,w8=(((w7.setCell ⟨gb,0,none⟩ (.int .u8 t1)).setCell ⟨gb,1,none⟩ (.int .u8 t2)).setCell ⟨gb,2,none⟩ (.int .u8 t3)):=⟨_,rfl⟩;have BK8:Aside0 (w8.heap[gb]?=some (.cells #[.int .u8 t1,.int .u8 t2,.int .u8 t3] 97 (0,0))):=⟨by rw [hw8];exact blk_put (cs:=#[.int .u8 t1,.int .u8 t2,.int .u8 0]) (blk_put (cs:=#[.int .u8 t1,.int .u8 0,.int .u8 0]) (blk_put (cs:=#[.int .u8 0,.int .u8 0,.int .u8 0]) BK.out 0 _ rfl) 1 _ rfl) 2 _ rfl⟩;have HB8:Aside0 (Below wr.heap.size wr w8):=⟨by rw [hw8];exact below_set (below_set (below_set HB2.out GE.out) GE.out) GE.out⟩;rw [← hw8];clear hw8 Qa Qb Qc Qd Qe Qf BK HB2 GE;have hc0:w8.cell? ⟨gb,0,none⟩=some (.int .u8 t1):=(blk_cell BK8.out 0).trans rfl;have hc1:w8.cell? ⟨gb,1,none⟩=some (.int .u8 t2):=(blk_cell BK8.out 1).trans rfl;have hc2:w8.cell? ⟨gb,2,none⟩=some (.int .u8 t3):=(blk_cell BK8.out 2).trans rfl;have HR8:Aside0 (RSt w s g m v2 B2 j w8):=⟨HRj.out.below HB8.out⟩;have HRb:Aside0 (RSt w s g m v2 B2 j (w8.alloc (.cells #[.int .i64 y] 3))):=⟨HR8.out.below (below_alloc (Below.refl _ _) _)⟩;obtain ⟨u,st,zs,wm,hme,hgm,hown,hzl,hms,hback⟩:=HRb.out.entry (by omega) h3j;rw [← HT.out.1,← HT.out.2.1,← HT.out.2.2] at hme;rw [← hy.out.1] at hback;have hmw:=HR8.out.mw;have hcell:=Aside0.mk (cell_keep hgm hmw);have HME:=Aside0.mk hme;have HOW:=Aside0.mk hown;have HBK:=Aside0.mk hback;have HZL:Aside0 (zs.length≤262144∧m+1≤wm.heap.size):=⟨⟨by have:=hy.out;have:=Hie.out;omega,hms⟩⟩;clear hme hown hback hgm hzl hms hmw HR8 HRb HRj HB8 HT Hat
    go_wp2_with (first
     |(refine wpList_mapEntry_run rfl (.tmp 66) (.tmp 67) 105 rfl _ _ _ rfl rfl HME.out ?_)
     |((with_reducible refine gate_builtin (b:=.append) (xs:=#[.tmp 68,.tmp 70]) rfl ?_);at_builtin;refine wpList_append_own_at _ rfl _ _ 22 rfl (m+1) 3 i0 (.int .i64 0) 1 8 Try.underlying22 hi hz0 hz1 hz2 rfl (by decide) _ _ _ rfl HOW.out ⟨w8.heap.size,0,none⟩ 1 1 [.int .i64 y] rfl rfl hcell.out (ints_oneCell .i64 [y]) (by have:=HZL.out;unfold maxLen;omega) (by have:=HZL.out;omega) HZL.out.2 ?_;intro v' w5 hown' hgrow hnil hloc;obtain ⟨w6,hst,hr6⟩:=HBK.out w5 v' hgrow hown' hloc;have HST:=Aside0.mk hst;have HR6:=Aside0.mk hr6;clear hst hr6 hown' hgrow hnil hloc)
     |(refine wpList_entryStore_run rfl (.tmp 66) (.tmp 73) (.tmp 72) 105 rfl _ _ _ rfl rfl rfl HST.out ?_))
    go_roundw
    case rel=>exact ⟨_,_,j+1,rfl,rfl,⟨by have:=hy.out;omega⟩,HR6⟩
    case measure=>have:=hy.out;simp [intOf];omega
   ·have Hat:Aside0 (deflate_at.f s y=some (0,0,0,false)):=⟨at_no s (by omega) y (.inr (by rw [hy.out.1];omega))⟩
    go_upto_region 20 with (first
     |(go_at_call 61;(with_reducible refine (deflate_at.calls s y 0 0 0 false _ Hat.out).mono ?_);rintro e w' ⟨rfl,hb⟩;have HB1:=Aside0.mk hb;clear hb)
     |((with_reducible refine gate_dst (N:=11) rfl ?_);refine box_event ?hg (N:=11) ?hd (cs:=#[.int .u8 0,.int .u8 0,.int .u8 0]) (t:=97) ?hr ?_;(case hd=>rfl);(case hg=>rfl);(case hr=>first | (go_simp;done) | (go_simp;rfl));intro gb hg w7 hbox hb;have HB2:=Aside0.mk (below_step HB1.out hb);have BK:=Aside0.mk hbox;have GE:=Aside0.mk (by rw [hg];exact HB1.out.size:wr.heap.size≤gb);clear hb hbox hg HB1;have Qa:w7.cell? ⟨gb,0,none⟩=some (.int .u8 0):=(blk_cell BK.out 0).trans rfl;have Qb:w7.cell? ⟨gb,1,none⟩=some (.int .u8 0):=(blk_cell BK.out 1).trans rfl;have Qc:w7.cell? ⟨gb,2,none⟩=some (.int .u8 0):=(blk_cell BK.out 2).trans rfl;have Qd:=blk_frozen BK.out 0;have Qe:=blk_frozen BK.out 1;have Qf:=blk_frozen BK.out 2))
    obtain ⟨w8,hw8⟩:∃ w8,w8=(((w7.setCell ⟨gb,0,none⟩ (.int .u8 0)).setCell ⟨gb,1,none⟩ (.int .u8 0)).setCell ⟨gb,2,none⟩ (.int .u8 0)):=⟨_,rfl⟩;have HB8:Aside0 (Below wr.heap.size wr w8):=⟨by rw [hw8];exact below_set (below_set (below_set HB2.out GE.out) GE.out) GE.out⟩;rw [← hw8];clear hw8 Qa Qb Qc Qd Qe Qf BK HB2 GE;have HR6:Aside0 (RSt w s g m v2 B2 (j+1) w8):=⟨(HRj.out.below HB8.out).skip (by omega)⟩;clear HB8 Hat HRj;go_wp2
    go_roundw
    case rel=>exact ⟨_,_,j+1,rfl,rfl,⟨by have:=hy.out;omega⟩,HR6⟩
    case measure=>have:=hy.out;simp [intOf];omega
 ·have hie:i=s.size:=by have:=hik.out;omega
  have hdec:decide (x < (s.size:Int))=false:=decide_eq_false (by have:=hxi.out;omega)
  have HF:Aside0 (RB s=B ++ sc 256):=⟨by
   rw [EB.out.2.2,← HE.out]
   have e0:rbits s k i=[]:=by
    cases k with
    |zero=>rfl
    |succ k=>rw [rbits,if_neg (by omega)]
   rw [e0,List.append_nil]⟩
  have N0:Aside0 ((0:Int)≤256):=⟨by decide⟩;have N1:Aside0 ((256:Int)≤300):=⟨by decide⟩;have N2:Aside0 (B.length≤1000000000 - 16):=⟨by have:=HL.out;omega⟩;go_wp2_with (go_at_call 64;(with_reducible refine (symbol_calls w g v1 B 256 _ HR.out.wr HR.out.bits N0.out N1.out N2.out).mono ?_);rintro e w' ⟨v5,rfl,hw2,hf2⟩;rw [← HF.out] at hw2;have H5:=Aside0.mk hw2;clear hw2 hf2;obtain ⟨A5,c5,e5⟩:=Kd.R_slice H5.out.row;subst e5;have hc5:w'.cell? ⟨g,0,none⟩=some (.slice A5 (pk (RB s)).length c5):=(blk_cell H5.out.blk 0).trans rfl;have hcv:=Kd.C_string (P:=Try.prog) (A:=A5) (n:=(pk (RB s)).length) (c:=c5) (xs:=pk (RB s)) Try.underlying40 Try.underlying5 Try.underlying9 (Kd.R_reads' H5.out.row).2.2)
  go_ret2;exact ⟨rfl,H5.out.bl⟩
end Go.Proofs.Ytpbhkdamkbopkaa.Wr
namespace Go.Proofs.Ytpbhkdamkbopkaa.Wr1
open Go.RowKit Go.Proofs.Ytpbhkdamkbopkaa.Wr Go.Proofs.YtpbhkdamkbopkaaW.PrintWords Go.Proofs.YtpbhkdamkbopkaaW.PrintLast Go.Proofs.YtpbhkdamkbopkaaW.PrintMore
set_option maxRecDepth 100000 in
theorem raw_long (s:ByteArray) (hs:262144 < s.size) (w:World):Calls Try.prog 39 #[.string s] w fun e w'=>e=.returned (.tuple #[.string ⟨#[]⟩,.int .i64 7])∧Below w.heap.size w w':=by
 have hbig:decide ((s.size:Int) > 262144)=true:=decide_eq_true (by omega);have HB:=Below.refl w.heap.size w;go_enter Try.func39,Try.ntmps39;go_wp2;go_ret2;exact ⟨rfl,HB⟩
def deflate_Raw.f (a0:ByteArray):Option (ByteArray × Int):=if a0.size≤262144 then some (strOfNums (pk (RB a0)),0) else some (⟨#[]⟩,7)
theorem deflate_Raw.calls (a0 : ByteArray) (r1 : ByteArray) (r2 : Int) (w : World) (h : deflate_Raw.f a0 = some (r1, r2)) :
  Calls Try.prog 39 #[.string a0] w fun e w'=>e=.returned (.tuple #[.string r1,.int .i64 r2])∧Below w.heap.size w w':=by
 unfold deflate_Raw.f at h;by_cases h0:a0.size≤262144
 ·rw [if_pos h0] at h;simp only [Option.some.injEq,Prod.mk.injEq] at h;obtain ⟨rfl,rfl⟩:=h;exact raw_calls a0 h0 w
 ·rw [if_neg h0] at h;simp only [Option.some.injEq,Prod.mk.injEq] at h;obtain ⟨rfl,rfl⟩:=h;exact raw_long a0 (by omega) w
end Go.Proofs.Ytpbhkdamkbopkaa.Wr1
namespace Go.Proofs.Ytpbhkdamkbopkaa.GBack2
open Go.RowKit Go.Proofs.YtpbhkdamkbopkaaW.PrintWords Go.Proofs.YtpbhkdamkbopkaaW.PrintLast Go.Proofs.YtpbhkdamkbopkaaW.PrintMore Go.Proofs.Ytpbhkdamkbopkaa.Wr2 Go.Proofs.Ytpbhkdamkbopkaa.Wr1 Go.Proofs.Ytpbhkdamkbopkaa.GRuns
attribute [local go_sem] max2_int min2_int max_two min_two max_three min_three max_four min_four
set_option linter.unusedVariables false
set_option linter.unusedSimpArgs false
def errW:Option Int → Value
 |none=>.nilIface
 |some c=>.iface 0 (.int .i64 c)
theorem errW_none:errW none=.nilIface:=rfl
theorem errW_some (c:Int):errW (some c)=.iface 0 (.int .i64 c):=rfl
theorem info5:(Try.prog.info? 5).map (fun i=>(i.zero,i.size,i.bytes))=some (some (.int .u8 0),1,1):=by kernel_rfl
end Go.Proofs.Ytpbhkdamkbopkaa.GBack2
