/- Parts of the proof, glued by a program of this session (wip/tools/claimfit.py). -/
import Derived.Below
import Derived.Deep.Draws
import Derived.Deep.AppendLies
import Derived.Maps.AppendAt
import Derived.OwnWalk
import Derived.Laws.BytesArg
import Derived.Laws.MakeOwn
import Derived.Laws.OwnMore
import Derived.Deep.OwnRows
import Derived.Tactics
import Derived.Lib.ConvBytes
import Derived.Laws.Slices
import Derived.WalkKit
import Derived.KernelRfl
import Derived.RowKit3
import Derived.Deep.LoopGhost
import Derived.Deep.QuietTactic
import Derived.BigQuiet
import Derived.WideLaws
import Derived.Deep.DeepCutAuto
import Derived.Deep.CutBlock
import Derived.Deep.RegionHeld3
import Derived.Laws.Rows
import Derived.Lib.AppendStr
import Derived.ArgAppend
import Derived.Laws.IdiomCopy
import Derived.RowKit
import Derived.Deep.Slices
import Derived.ChangeSame
import Derived.ChangeMaps5
import Derived.WideShapes
import Derived.OrdersHeld
import Derived.Laws.BitsLemmas
import Derived.Laws.StructEq
import Derived.Test.YtpbhkdamkbopkaaProg
import Derived.Laws.Tables
import Derived.Deep.MidRow
import Derived.Outline
import Derived.Deep.WholeRow
import Derived.Carry
import Derived.Laws.CopyRow
import Derived.Laws.CopyOwn
import Derived.Deep.RegionLaw
import Derived.StillTailTactics
import Derived.ChangeKeysEq
import Derived.DeepKeys4
import Derived.Maps.GroupsBeside
import Derived.WideKeyEntry
import Derived.Laws.DeepNot64
import Derived.Test.YtpbhkdamkbopkaaChecked
import Derived.JoinedOf
import Derived.Test.YtpbhkdamkbopkaaMPPA
namespace Go.Proofs.Ytpbhkdamkbopkaa.Opens
open Go.ChangeShapes Go.WideShapes Go.Deep Go.Proofs.YtpbhkdamkbopkaaW.PrintWords
/-- Whatever reads as data of type t reads as a value of kind d that is right. -/
structure Opens {α:Type} (P:Program) (d:Kd α) (t:TypeId) (G:α → Prop):Prop where
 out:∀ (H:Type) (enc:TypeId × Value → H) (w:World) (base:Nat) (spare:Nat → Bool) (held:Bool) (fuel:Nat) (cs:List Value) (x:DataW H × List MemPlace),
  DataW.trod enc P w base spare held fuel t cs=some x → ∃ y:α,d.K w y cs∧G y
/-- The same of fields,from a place on. -/
structure OpensF {α:Type} (P:Program) (d:Kd α) (fs:List Field) (off:Nat) (G:α → Prop):Prop where
 out:∀ (H:Type) (enc:TypeId × Value → H) (w:World) (base:Nat) (spare:Nat → Bool) (held:Bool) (n:Nat) (cs:List Value),cs.length=off+d.sz →
  (∀ f ∈ fs,∃ x,DataW.trod enc P w base spare held n f.type ((cs.drop f.offset).take (P.cellsOf f.type))=some x) → ∃ y:α,d.K w y (cs.drop off)∧G y
theorem Opens.int {P:Program} {t:TypeId} {k:IntKind} (ht:P.underlying t=some (.int k)):Opens P (Kd.int k) t (fun n=>(Lit.int k n).wf=true):=by
 refine ⟨?_⟩;intro H enc w base spare held fuel cs x h;obtain ⟨n,rfl,_,hw⟩:=DataW.trod_int ht h;exact ⟨n,rfl,hw⟩
theorem Opens.string {P:Program} {t:TypeId} (ht:P.underlying t=some .string):Opens P Kd.string t (fun s=>s.size≤maxLen):=by
 refine ⟨?_⟩;intro H enc w base spare held fuel cs x h;obtain ⟨s,rfl,_,hw⟩:=DataW.trod_string ht h;exact ⟨s,rfl,hw⟩
theorem exists_list {α:Type} {Q:Nat → α → Prop} (n:Nat) (h:∀ i,i < n → ∃ y,Q i y):∃ l:List α,l.length=n∧∀ i y,l[i]?=some y → Q i y:=by
 induction n with
 |zero=>exact ⟨[],rfl,fun i y h=>by simp at h⟩
 |succ n ih =>
  obtain ⟨l,hl,hq⟩:=ih (fun i hi=>h i (by omega));obtain ⟨y,hy⟩:=h n (by omega);refine ⟨l ++ [y],by simp [hl],fun i z hz=>?_⟩;by_cases hi:i < l.length
  ·rw [List.getElem?_append_left hi] at hz;exact hq i z hz
  rw [List.getElem?_append_right (by omega)] at hz
  have h0:i - l.length=0:=by
   have:=(List.getElem?_eq_some_iff.1 hz).1;simp at this;omega
  rw [h0] at hz;have e:i=n:=by omega
  subst e;simp at hz;exact hz ▸ hy
theorem Opens.slice {α : Type} {P : Program} {d : Kd α} {t e : TypeId} {G : α → Prop} (ht : P.underlying t = some (.slice e)) (hC : P.cellsOf e = d.sz) (h : Opens P d e G) :
  Opens P (Kd.slice e d) t (fun l=>l.length≤maxLen∧∀ x ∈ l,G x):=by
 refine ⟨?_⟩;intro H enc w base spare held fuel cs x hx
 rcases open_slice ht hx with ⟨rfl,_⟩ | ⟨a,len,cap,m,n,D,Pl,rfl,hb,hl,hm,hmm,_,hi⟩
 ·exact ⟨[],⟨none,0,rfl,Nat.le_refl _,rfl,Nat.zero_le _,fun h=>absurd h (Nat.lt_irrefl 0)⟩,Nat.zero_le _,fun x hx=>absurd hx (by simp)⟩
 ·have hlm:len≤m:=by rw [hmm];split <;> omega
  obtain ⟨l,hlen,hq⟩:=exists_list (Q:=fun i (y:α)=>∃ cs',w.cells? base (a.add (i*P.cellsOf e)) (P.cellsOf e)=some cs'∧d.K w y cs'∧G y) len (fun i hi'=>by
   obtain ⟨cs',hc,ht'⟩:=hi i (by omega);obtain ⟨y,hk,hg⟩:=h.out H enc w base spare held n cs' _ ht';exact ⟨y,cs',hc,hk,hg⟩)
  refine ⟨l,⟨some a,cap,by rw [hlen],by omega,rfl,?_,fun _=>⟨a,rfl,fun j p hj=>?_⟩⟩,by omega,fun y hy=>?_⟩
  ·simp only [maxLen] at hm;omega
  ·obtain ⟨cs',hc,hk,_⟩:=hq j p hj;obtain ⟨_,hcl,hat⟩:=World.cells?_some hc;refine ⟨cs',by rw [hcl,hC],hk,fun i u hu=>?_⟩;have hil:=(List.getElem?_eq_some_iff.1 hu).1;have hcell:=hat i (by omega);rw [← hC,← Go.Deep.add_add,hcell,hu]
  ·obtain ⟨j,hj,rfl⟩:=List.getElem_of_mem hy;obtain ⟨_,_,_,hg⟩:=hq j _ (List.getElem?_eq_getElem hj);exact hg
theorem OpensF.one {α:Type} {P:Program} {d:Kd α} {f:Field} {off:Nat} {G:α → Prop} (hO:f.offset=off) (hC:P.cellsOf f.type=d.sz) (h:Opens P d f.type G):OpensF P d [f] off G:=by
 refine ⟨?_⟩;intro H enc w base spare held n cs hl hf;obtain ⟨x,hx⟩:=hf f (by simp);rw [hO,hC,List.take_of_length_le (by rw [List.length_drop];omega)] at hx;exact h.out H enc w base spare held n _ x hx
theorem OpensF.cons {α β : Type} {P : Program} {d : Kd α} {d' : Kd β} {f : Field} {fs : List Field} {off : Nat} {G : α → Prop} {G' : β → Prop} (hO : f.offset = off) (hC : P.cellsOf f.type = d.sz) (h : Opens P d f.type G)
  (h':OpensF P d' fs (off+d.sz) G'):OpensF P (Kd.pair d d') (f :: fs) off (fun p=>G p.1∧G' p.2):=by
 refine ⟨?_⟩;intro H enc w base spare held n cs hl hf;have hl':cs.length=off+(d.sz+d'.sz):=hl;obtain ⟨x,hx⟩:=hf f (by simp);rw [hO,hC] at hx;obtain ⟨y,hy,hg⟩:=h.out H enc w base spare held n _ x hx;obtain ⟨y',hy',hg'⟩:=h'.out H enc w base spare held n cs (by omega) (fun g hg=>hf g (by simp [hg]));refine ⟨(y,y'),⟨(cs.drop off).take d.sz,cs.drop (off+d.sz),?_,hy,hy'⟩,hg,hg'⟩;rw [← List.drop_drop,List.take_append_drop]
theorem Opens.fields {α:Type} {P:Program} {d:Kd α} {t:TypeId} {fs:Array Field} {G:α → Prop} (ht:P.underlying t=some (.struct fs)) (hC:P.cellsOf t=d.sz) (h:OpensF P d fs.toList 0 G):Opens P d t G:=by
 refine ⟨?_⟩;intro H enc w base spare held fuel cs x hx;obtain ⟨xs,n,_,_,hl,hlen,hf⟩:=DataW.trod_struct ht hx
 have:=h.out H enc w base spare held n cs (by omega) (fun f hm=>by
  obtain ⟨i,hi,rfl⟩:=List.getElem_of_mem hm;have hi':i < fs.size:=by simpa using hi
  have e:=hf i (fs[i]'hi') (Array.getElem?_eq_getElem hi');rw [List.getElem?_eq_getElem (by omega)] at e;exact ⟨_,by simpa using e⟩)
 simpa using this
theorem Opens.iso {α β:Type} {P:Program} {d:Kd α} {t:TypeId} {G:α → Prop} (h:Opens P d t G) (f:β → α) (g:α → β) (hg:∀ p,f (g p)=p):Opens P (Kd.iso d f) t (fun y=>G (f y)):=by
 refine ⟨?_⟩;intro H enc w base spare held fuel cs x hx;obtain ⟨y,hy,hG⟩:=h.out H enc w base spare held fuel cs x hx;refine ⟨g y,?_,?_⟩
 ·show d.K w (f (g y)) cs;rw [hg];exact hy
 ·show G (f (g y));rw [hg];exact hG
theorem Opens.good {α:Type} {P:Program} {d:Kd α} {t:TypeId} {G G':α → Prop} (h:Opens P d t G) (hg:∀ y,G y → G' y):Opens P d t G':=⟨fun H enc w base spare held fuel cs x hx=>by
 obtain ⟨y,hy,hG⟩:=h.out H enc w base spare held fuel cs x hx;exact ⟨y,hy,hg y hG⟩⟩
theorem Opens.arg {α : Type} {H : Type} {enc : TypeId × Value → H} {P : Program} {w : World} {base : Nat} {spare : Nat → Bool} {held : Bool} {d : Kd α} {t : TypeId} {G : α → Prop} {v : Value} {D : DataW H} {p : List MemPlace} (h : Opens P d t G) (hd : DataW.Trod enc P w base spare held t v D p) :
  ∃ y:α,d.K w y v.cells.toList∧G y:=by
 obtain ⟨fuel,hf⟩:=hd;exact h.out H enc w base spare held fuel _ _ hf
end Go.Proofs.Ytpbhkdamkbopkaa.Opens
namespace Go.Proofs.Ytpbhkdamkbopkaa.PHuffBits
open Go.RowKit Go.Proofs.YtpbhkdamkbopkaaW.PrintWords Go.Proofs.YtpbhkdamkbopkaaW.PrintLast Go.Proofs.YtpbhkdamkbopkaaW.PrintMore
attribute [local go_sem] max2_int min2_int max_two min_two max_three min_three max_four min_four
set_option linter.unusedVariables false
set_option linter.unusedSimpArgs false
def errW:Option Int → Value
 |none=>.nilIface
 |some c=>.iface 0 (.int .i64 c)
theorem errW_none:errW none=.nilIface:=rfl
theorem errW_some (c:Int):errW (some c)=.iface 0 (.int .i64 c):=rfl
end Go.Proofs.Ytpbhkdamkbopkaa.PHuffBits
namespace Go.Proofs.Ytpbhkdamkbopkaa.PHuffBits
open Go.RowKit Go.Proofs.YtpbhkdamkbopkaaW.PrintWords Go.Proofs.YtpbhkdamkbopkaaW.PrintLast Go.Proofs.YtpbhkdamkbopkaaW.PrintMore
attribute [local go_sem] max2_int min2_int max_two min_two max_three min_three max_four min_four
set_option linter.unusedVariables false
set_option linter.unusedSimpArgs false
def huff_Bit.f (a0:ByteArray) (a1:Int):Option (Int × Bool):=if a1 < 0 then (some (0,false)) else (if a1 ≥ (wrap64 (8*(a0.size:Int))) then (some (0,false)) else (if 0≤(wrap64 (Int.tdiv a1 8)) then (if (wrap64 (Int.tdiv a1 8)) < (a0.size:Int) then (if 0≤(Int.tmod a1 8) then (some (Go.bits .and .i64 (wrap64 (shr .u8 (bt a0 (wrap64 (Int.tdiv a1 8))) (Int.tmod a1 8))) 1,true)) else (none)) else (none)) else (none)))
set_option maxHeartbeats 8000000 in
set_option maxRecDepth 100000 in
theorem huff_Bit.calls (a0 : ByteArray) (a1 : Int) (r1 : Int) (r2 : Bool) (w : World) (h : huff_Bit.f a0 a1 = some (r1, r2)) :
  Calls Try.prog 34 #[.string a0,.int .i64 a1] w fun e w'=>e=.returned (.tuple #[.int .i64 r1,.bool r2])∧Drawn0 w w':=by
 have H:(if a1 < 0 then (some (0,false)) else (if a1 ≥ (wrap64 (8*(a0.size:Int))) then (some (0,false)) else (if 0≤(wrap64 (Int.tdiv a1 8)) then (if (wrap64 (Int.tdiv a1 8)) < (a0.size:Int) then (if 0≤(Int.tmod a1 8) then (some (Go.bits .and .i64 (wrap64 (shr .u8 (bt a0 (wrap64 (Int.tdiv a1 8))) (Int.tmod a1 8))) 1,true)) else (none)) else (none)) else (none))))=some (r1,r2):=h;clear h;by_cases c3:a1 < 0
 ·rw [if_pos c3] at H;have Qe:decide (a1 < 0)=true:=decide_eq_true c3;clear c3;simp only [Option.some.injEq,Prod.mk.injEq] at H;obtain ⟨rfl,rfl⟩:=H;go_enter Try.func34,Try.ntmps34;go_wp2;go_ret2;exact ⟨by first | rfl | (simp;done) | (simp [*];done),by repeat (first | exact Drawn0.refl _ | apply Drawn0.step)⟩
 rw [if_neg c3] at H;have Qe:decide (a1 < 0)=false:=decide_eq_false c3;clear c3;by_cases c4:a1 ≥ (wrap64 (8*(a0.size:Int)))
 ·rw [if_pos c4] at H;have Qf:decide ((wrap64 (8*(a0.size:Int)))≤a1)=true:=decide_eq_true c4;clear c4;simp only [Option.some.injEq,Prod.mk.injEq] at H;obtain ⟨rfl,rfl⟩:=H;go_enter Try.func34,Try.ntmps34;go_wp2;go_ret2;exact ⟨by first | rfl | (simp;done) | (simp [*];done),by repeat (first | exact Drawn0.refl _ | apply Drawn0.step)⟩
 rw [if_neg c4] at H;have Qf:decide ((wrap64 (8*(a0.size:Int)))≤a1)=false:=decide_eq_false c4;clear c4;obtain ⟨ji5,Qb⟩:∃ j_:Int,(wrap64 (Int.tdiv a1 8))=j_:=⟨_,rfl⟩;replace H:(if 0≤(ji5) then (if (ji5) < (a0.size:Int) then (if 0≤(Int.tmod a1 8) then (some (Go.bits .and .i64 (wrap64 (shr .u8 (bt a0 (ji5)) (Int.tmod a1 8))) 1,true)) else (none)) else (none)) else (none))=some (r1,r2):=by first | (rw [Qb] at H;exact H) | (simp only [Qb] at H ⊢;exact H)
 have hji5w:(IntKind.i64.wrap (Int.tdiv a1 8))=ji5:=(i64_w _).trans Qb;by_cases c6:0≤(ji5);rotate_left
 ·rw [if_neg c6] at H;exact absurd H (by simp)
 rw [if_pos c6] at H;have c6b0:decide (0≤(ji5))=true:=decide_eq_true c6;clear c6;by_cases c7:(ji5) < (a0.size:Int);rotate_left
 ·rw [if_neg c7] at H;exact absurd H (by simp)
 rw [if_pos c7] at H;have c7b0:decide ((ji5) < (a0.size:Int))=true:=decide_eq_true c7;clear c7;obtain ⟨ji9,Qc⟩:∃ j_:Int,(Int.tmod a1 8)=j_:=⟨_,rfl⟩;replace H:(if 0≤(ji9) then (some (Go.bits .and .i64 (wrap64 (shr .u8 (bt a0 (ji5)) (ji9))) 1,true)) else (none))=some (r1,r2):=by first | (rw [Qc] at H;exact H) | (simp only [Qc] at H ⊢;exact H)
 by_cases c10:0≤(ji9);rotate_left
 ·rw [if_neg c10] at H;exact absurd H (by simp)
 rw [if_pos c10] at H;have c10b0:=eq_true c10;have c10b1:decide (0≤(ji9))=true:=decide_eq_true c10;clear c10;obtain ⟨Qd,Qa⟩:∃ j_:Int,(shr .u8 (bt a0 (ji5)) (ji9))=j_:=⟨_,rfl⟩;replace H:(some (Go.bits .and .i64 (wrap64 (Qd)) 1,true))=some (r1,r2):=by first | (rw [Qa] at H;exact H) | (simp only [Qa] at H ⊢;exact H)
 have hji11_:((bt a0 (ji5)) / 2 ^ min (ji9).toNat 8)=Qd:=Qa;have hji11z:(ji9)≤8 → ((bt a0 (ji5)) / 2 ^ (ji9).toNat)=Qd:=shr_small Qa;simp only [Option.some.injEq,Prod.mk.injEq] at H;obtain ⟨rfl,rfl⟩:=H;have p8:0≤((ji5):Int):=of_decide_eq_true (by first | (with_reducible assumption) | assumption);have q8:(ji5) < (a0.size:Int):=of_decide_eq_true (by first | (with_reducible assumption) | assumption);have hx8:=bt_at a0 (ji5);replace p8:=eq_true p8;replace q8:=eq_true q8;go_enter Try.func34,Try.ntmps34;go_wp2;go_ret2;exact ⟨by first | rfl | (simp;done) | (simp only [← Qb,← Qc,← Qa] <;> (first | rfl | simp)) | (simp [*];done),by repeat (first | exact Drawn0.refl _ | apply Drawn0.step)⟩
mutual
def huff_Bits.j0:Nat → ByteArray → Int → Int → Bool → Option (Int × Int × Int)
 |0,_,_,_,_=>none
 |k+1,x0,x1,x2,x13=>if x13=true then (some (0,0,1)) else (if x1 > (wrap64 ((wrap64 (8*(x0.size:Int))) - x2)) then (some (0,0,2)) else (huff_Bits.l0 k x0 x1 x2 0 x2 0))
def huff_Bits.l0:Nat → ByteArray → Int → Int → Int → Int → Int → Option (Int × Int × Int)
 |0,_,_,_,_,_,_=>none
 |k+1,x0,x1,x2,x9,x32,x33=>if x33 < x32 then ((huff_Bit.f x0 (wrap64 (x1+x33))).bind fun bt104=>(if 0≤x33 then (huff_Bits.l0 k x0 x1 x2 (Go.bits .or .i64 x9 (shl .i64 bt104.1 x33)) x32 (wrap64 (x33+1))) else (none))) else (some (x9,wrap64 (x1+x2),0))
end
def huff_Bits.f (k:Nat) (a0:ByteArray) (a1:Int) (a2:Int):Option (Int × Int × Int):=if a1 < 0 then (huff_Bits.j0 k a0 a1 a2 true) else (if a2 < 0 then (huff_Bits.j0 k a0 a1 a2 true) else (huff_Bits.j0 k a0 a1 a2 (decide (a2 > 16))))
set_option maxHeartbeats 8000000 in
set_option maxRecDepth 100000 in
theorem huff_Bits.calls (k : Nat) (a0 : ByteArray) (a1 : Int) (a2 : Int) (r1 : Int) (r2 : Int) (r3 : Int) (w : World) (h : huff_Bits.f k a0 a1 a2 = some (r1, r2, r3)) :
  Calls Try.prog 32 #[.string a0,.int .i64 a1,.int .i64 a2] w fun e w'=>e=.returned (.tuple #[.int .i64 r1,.int .i64 r2,.int .i64 r3])∧Drawn0 w w':=by
 have H:(if a1 < 0 then (huff_Bits.j0 k a0 a1 a2 true) else (if a2 < 0 then (huff_Bits.j0 k a0 a1 a2 true) else (huff_Bits.j0 k a0 a1 a2 (decide (a2 > 16)))))=some (r1,r2,r3):=h;clear h;have HC4:=Aside0.mk H;clear H;go_enter Try.func32,Try.ntmps32;go_upto_region 1 with (fail)
 go_cut [13] (fun v13 wc=>∃ (kq:Nat) (Qe:Bool),v13=.bool Qe∧Aside0 (huff_Bits.j0 kq a0 a1 a2 Qe=some (r1,r2,r3))∧Aside0 (kq≤k)∧Drawn0 w wc)
 case first =>
  have H:=HC4.out;clear HC4;by_cases c5:a1 < 0
  ·rw [if_pos c5] at H;have Qc:decide (a1 < 0)=true:=decide_eq_true c5;clear c5
   (first | rw [Qc] | (simp only [i64_w,i32_w];rw [Qc]) | skip)
   have H':=Aside0.mk H;clear H;go_wp2;go_meet
   case rel=>exact ⟨_,(true),(by first | rfl | (simp;done) | (simp [*];done)),H',⟨by first | omega | exact Nat.le_refl _⟩,by repeat (first | exact Drawn0.refl _ | apply Drawn0.step)⟩
  rw [if_neg c5] at H;have Qc:decide (a1 < 0)=false:=decide_eq_false c5;clear c5
  (first | rw [Qc] | (simp only [i64_w,i32_w];rw [Qc]) | skip)
  by_cases c6:a2 < 0
  ·rw [if_pos c6] at H;have Qh:decide (a2 < 0)=true:=decide_eq_true c6;clear c6;have H':=Aside0.mk H;clear H;go_wp2;go_meet
   case rel=>exact ⟨_,(true),(by first | rfl | (simp;done) | (simp [*];done)),H',⟨by first | omega | exact Nat.le_refl _⟩,by repeat (first | exact Drawn0.refl _ | apply Drawn0.step)⟩
  rw [if_neg c6] at H;have Qh:decide (a2 < 0)=false:=decide_eq_false c6;clear c6;have H':=Aside0.mk H;clear H;go_wp2;go_meet
  case rel=>exact ⟨_,(decide (a2 > 16)),(by first | rfl | (simp;done) | (simp [*];done)),H',⟨by first | omega | exact Nat.le_refl _⟩,by repeat (first | exact Drawn0.refl _ | apply Drawn0.step)⟩
 clear HC4;try clear p2
 try clear c3
 try clear c5
 try clear Qc
 try clear c6
 try clear Qh
 obtain ⟨kq,Qe,rfl,HA,HJ3,⟨mc3,rfl⟩⟩:=hcut
 rcases kq with _ | kj3
 ·exact absurd HA.out (by simp [huff_Bits.j0])
 have H:=HA.out;clear HA;simp only [huff_Bits.j0] at H;by_cases c7:Qe=true
 ·subst c7;have H1:(some (0,0,1))=some (r1,r2,r3):=by rw [if_pos rfl] at H;exact H
  clear H;have H:=H1;clear H1;simp only [Option.some.injEq,Prod.mk.injEq] at H;obtain ⟨rfl,rfl,rfl⟩:=H;go_wp2;go_ret3;exact ⟨by first | rfl | (simp;done) | (simp [*];done),by repeat (first | exact Drawn0.refl _ | apply Drawn0.step)⟩
 replace c7:=Bool.eq_false_iff.mpr c7;subst c7;have H1:(if a1 > (wrap64 ((wrap64 (8*(a0.size:Int))) - a2)) then (some (0,0,2)) else (huff_Bits.l0 kj3 a0 a1 a2 0 a2 0))=some (r1,r2,r3):=by rw [if_neg (show ¬ (false=true) by decide)] at H;exact H
 clear H;have H:=H1;clear H1;by_cases c8:a1 > (wrap64 ((wrap64 (8*(a0.size:Int))) - a2))
 ·rw [if_pos c8] at H;have Qj:decide ((wrap64 ((wrap64 (8*(a0.size:Int))) - a2)) < a1)=true:=decide_eq_true c8;clear c8;simp only [Option.some.injEq,Prod.mk.injEq] at H;obtain ⟨rfl,rfl,rfl⟩:=H;go_wp2;go_ret3;exact ⟨by first | rfl | (simp;done) | (simp [*];done),by repeat (first | exact Drawn0.refl _ | apply Drawn0.step)⟩
 rw [if_neg c8] at H;have Qj:decide ((wrap64 ((wrap64 (8*(a0.size:Int))) - a2)) < a1)=false:=decide_eq_false c8;clear c8;have H':=Aside0.mk H;clear H;go_wp2
 go_loopg [9,33] kj3 (fun kq v9 v33 w'=>∃ (Qf:Int) (Qa:Int),v9=.int .i64 Qf∧v33=.int .i64 Qa∧Aside0 (huff_Bits.l0 kq a0 a1 a2 Qf a2 Qa=some (r1,r2,r3))∧Aside0 (kq≤kj3)∧Drawn0 w w')
 case atStart=>exact ⟨(0),(0),(by first | rfl | (simp;done) | (simp [*];done)),(by first | rfl | (simp;done) | (simp [*];done)),H',⟨Nat.le_refl _⟩,by repeat (first | exact Drawn0.refl _ | apply Drawn0.step)⟩
 clear H';try clear p2
 try clear c3
 try clear c5
 try clear Qc
 try clear c6
 try clear Qh
 try clear p6
 try clear c7
 try clear c8
 try clear Qj
 try clear p2
 obtain ⟨Qf,Qa,rfl,rfl,HA,HK2,⟨m2,rfl⟩⟩:=hrel
 rcases gk with _ | k2
 ·exact absurd HA.out (by simp [huff_Bits.l0])
 have H:=HA.out;clear HA;simp only [huff_Bits.l0] at H;by_cases c9:Qa < a2;rotate_left
 ·rw [if_neg c9] at H;have Ql:decide (Qa < a2)=false:=decide_eq_false c9;clear c9;simp only [Option.some.injEq,Prod.mk.injEq] at H;obtain ⟨rfl,rfl,rfl⟩:=H;go_wp2;go_ret3;exact ⟨by first | rfl | (simp;done) | (simp [*];done),by repeat (first | exact Drawn0.refl _ | apply Drawn0.step)⟩
 rw [if_pos c9] at H;have Ql:decide (Qa < a2)=true:=decide_eq_true c9;clear c9;replace H:=Option.bind_eq_some_iff.mp H;obtain ⟨⟨Qd,Qm⟩,Qk,H⟩:=H;replace H:(if 0≤Qa then (huff_Bits.l0 k2 a0 a1 a2 (Go.bits .or .i64 Qf (shl .i64 Qd Qa)) a2 (wrap64 (Qa+1))) else (none))=some (r1,r2,r3):=H;have A10:=Aside0.mk Qk;clear Qk;by_cases c11:0≤Qa;rotate_left
 ·rw [if_neg c11] at H;exact absurd H (by simp)
 rw [if_pos c11] at H;have c11b0:=eq_true c11;have c11b1:decide (0≤Qa)=true:=decide_eq_true c11;clear c11;obtain ⟨Qg,Qb⟩:∃ j_:Int,(shl .i64 Qd Qa)=j_:=⟨_,rfl⟩;replace H:(huff_Bits.l0 k2 a0 a1 a2 (Go.bits .or .i64 Qf (Qg)) a2 (wrap64 (Qa+1)))=some (r1,r2,r3):=by first | (rw [Qb] at H;exact H) | (simp only [Qb] at H ⊢;exact H)
 (try rw [Qb] at A10)
 have Qi:(IntKind.i64.wrap (Qd*2 ^ min Qa.toNat 64))=Qg:=Qb;have hji12z:Qa≤64 → (IntKind.i64.wrap (Qd*2 ^ Qa.toNat))=Qg:=shl_small Qb;have hji12y:(wrap64 (Qd*2 ^ min Qa.toNat 64))=Qg:=(i64_w _).symm.trans Qi;have hji12x:Qa≤64 → (wrap64 (Qd*2 ^ Qa.toNat))=Qg:=fun h_=>(i64_w _).symm.trans (hji12z h_);have H':=Aside0.mk H;clear H;go_wp2_with (first | ((with_reducible refine gate_callee (f:=34) rfl ?_);refine goesL_ (some 41) rfl rfl Try.func34 (by kernel_rfl) rfl #[.string a0,.int .i64 (wrap64 (a1+Qa))] rfl (by (try simp only [List.map_toArray,List.map_cons,List.map_nil]);first | done | rfl | (simp only [List.length_drop,List.length_take];rfl)) ?_;(with_reducible refine (huff_Bit.calls a0 (wrap64 (a1+Qa)) Qd Qm _ A10.out).mono ?_);rintro e w' ⟨rfl,⟨nd,rfl⟩⟩;refine ⟨_,rfl,?_⟩))
 go_roundg k2
 case measure=>have:=HJ3.out;have:=HK2.out;omega
 case rel=>exact ⟨(Go.bits .or .i64 Qf (Qg)),(wrap64 (Qa+1)),(by first | rfl | (simp;done) | (simp only [← Qb] <;> (first | rfl | simp)) | (simp [*];done)),(by first | rfl | (simp;done) | (simp [*];done)),H',⟨by have:=HJ3.out;have:=HK2.out;omega⟩,by repeat (first | exact Drawn0.refl _ | apply Drawn0.step)⟩
end Go.Proofs.Ytpbhkdamkbopkaa.PHuffBits
namespace Go.Proofs.Ytpbhkdamkbopkaa.Ext
set_option linter.unusedSimpArgs false
set_option linter.unusedVariables false
open Go.RowKit Go.Proofs.YtpbhkdamkbopkaaW.PrintWords Go.Proofs.YtpbhkdamkbopkaaW.PrintLast Go.Proofs.YtpbhkdamkbopkaaW.PrintMore
/-- A length that may not be. -/
def badLen (n:Int):Bool:=decide (n < 0) || decide (15 < n)
theorem bad60 (n:Int) (w:World) (h:badLen n=true):Calls Try.prog 60 #[.int .i64 n] w fun e w'=>e=.returned (.bool true)∧w=w':=by
 by_cases h0:n < 0
 ·have h2:decide (n < 0)=true:=decide_eq_true h0;clear h h0;go_enter Try.func60,Try.ntmps60;go_wp2;go_ret;exact ⟨by simp [h2],rfl⟩
 have h1:decide (15 < n)=true:=by simp [badLen] at h;apply decide_eq_true;omega
 have h2:decide (n < 0)=false:=decide_eq_false h0;clear h h0;go_enter Try.func60,Try.ntmps60;go_wp2;go_ret;exact ⟨by simp [h1,h2],rfl⟩
theorem good60 (n:Int) (w:World) (h:badLen n=false):Calls Try.prog 60 #[.int .i64 n] w fun e w'=>e=.returned (.bool false)∧w=w':=by
 have h1:decide (15 < n)=false:=by simp [badLen] at h;apply decide_eq_false;omega
 have h2:decide (n < 0)=false:=by simp [badLen] at h;apply decide_eq_false;omega
 clear h;go_enter Try.func60,Try.ntmps60;go_wp2;go_ret;exact ⟨by simp [h1,h2],rfl⟩
theorem index_none (A : Option Addr) (c : Nat) (l : List Int) (w : World) (hr : Kd.C (Kd.int .i64) w A l.length l) (h : ∀ i : Nat, i < l.length → badLen (rd l i) = false) :
  Calls Try.prog 88 #[.slice A l.length c,.func (.func 60) #[] #[]] w fun e w'=>e=.returned (.int .i64 (-1))∧w=w':=by
 have HR:=Aside0.mk hr;have HH:=Aside0.mk h;have hm:=Kd.C_max hr;clear hr h;go_enter Try.func88,Try.ntmps88;go_wp2
 go_loop [4,8] (fun v4 v8=>∃ k:Nat,k≤l.length∧v4=.int .i64 0∧v8=.int .i64 k) (fun _ v8=>l.length - (intOf v8).toNat)
 case atStart=>exact ⟨0,Nat.zero_le _,rfl,rfl⟩
 obtain ⟨k,hk,rfl,rfl⟩:=hrel;by_cases hlt:k < l.length;rotate_left
 ·go_wp2;go_ret;exact ⟨rfl,rfl⟩
 obtain ⟨ad,ead,hx⟩:=Kd.at_int HR.out k (by omega) (by omega);cases ead;rw [Int.toNat_natCast] at hx;have H1:=Aside0.mk (HH.out k hlt);go_wp2_with (go_at_call 60;refine (good60 _ _ H1.out).mono ?_;rintro e w' ⟨rfl,rfl⟩)
 go_round
 case rel=>exact ⟨k+1,by omega,rfl,by go_num⟩
 case measure=>simp [intOf];omega
theorem index_some (A : Option Addr) (c : Nat) (l : List Int) (w : World) (hr : Kd.C (Kd.int .i64) w A l.length l) (m : Nat) (hm0 : m < l.length) (hm1 : badLen (rd l m) = true) (h : ∀ i : Nat, i < m → badLen (rd l i) = false) :
  Calls Try.prog 88 #[.slice A l.length c,.func (.func 60) #[] #[]] w fun e w'=>e=.returned (.int .i64 m)∧w=w':=by
 have HR:=Aside0.mk hr;have HH:=Aside0.mk h;have HM:=Aside0.mk hm1;have hm:=Kd.C_max hr;clear hr h hm1;go_enter Try.func88,Try.ntmps88;go_wp2
 go_loop [4,8] (fun v4 v8=>∃ k:Nat,k≤m∧v4=.int .i64 0∧v8=.int .i64 k) (fun _ v8=>l.length - (intOf v8).toNat)
 case atStart=>exact ⟨0,Nat.zero_le _,rfl,rfl⟩
 obtain ⟨k,hk,rfl,rfl⟩:=hrel;obtain ⟨ad,ead,hx⟩:=Kd.at_int HR.out k (by omega) (by omega);cases ead;rw [Int.toNat_natCast] at hx;have hkl:k < l.length:=by omega
 by_cases hlt:k < m
 ·have H1:=Aside0.mk (HH.out k hlt);go_wp2_with (go_at_call 60;refine (good60 _ _ H1.out).mono ?_;rintro e w' ⟨rfl,rfl⟩)
  go_round
  case rel=>exact ⟨k+1,by omega,rfl,by go_num⟩
  case measure=>simp [intOf];omega
 ·obtain rfl:k=m:=by omega
  go_wp2_with (go_at_call 60;refine (bad60 _ _ HM.out).mono ?_;rintro e w' ⟨rfl,rfl⟩)
  go_ret;exact ⟨rfl,rfl⟩
theorem contains_no (A : Option Addr) (c : Nat) (l : List Int) (w : World) (hr : Kd.C (Kd.int .i64) w A l.length l) (h : ∀ i : Nat, i < l.length → badLen (rd l i) = false) :
  Calls Try.prog 59 #[.slice A l.length c,.func (.func 60) #[] #[]] w fun e w'=>e=.returned (.bool false)∧w=w':=by
 have HR:=Aside0.mk hr;have HH:=Aside0.mk h;clear hr h;go_enter Try.func59,Try.ntmps59;go_wp2_with (go_at_call 88;refine (index_none A c l _ HR.out HH.out).mono ?_;rintro e w' ⟨rfl,rfl⟩)
 go_ret;exact ⟨rfl,rfl⟩
theorem first_bad (l:List Int) (n:Nat):(∀ i:Nat,i < n → badLen (rd l i)=false) ∨ ∃ m,m < n∧badLen (rd l m)=true∧∀ i:Nat,i < m → badLen (rd l i)=false:=by
 induction n with
 |zero=>exact .inl fun i hi=>absurd hi (Nat.not_lt_zero i)
 |succ n ih =>
  rcases ih with h | ⟨m,h0,h1,h2⟩
  ·cases hb:badLen (rd l n) with
   |false =>
    refine .inl fun i hi=>?_
    rcases Nat.lt_or_ge i n with h' | h'
    ·exact h i h'
    ·obtain rfl:i=n:=by omega
     exact hb
   |true=>exact .inr ⟨n,by omega,hb,h⟩
  ·exact .inr ⟨m,by omega,h1,h2⟩
theorem contains_yes (A : Option Addr) (c : Nat) (l : List Int) (w : World) (hr : Kd.C (Kd.int .i64) w A l.length l) (h : ¬ ∀ i : Nat, i < l.length → badLen (rd l i) = false) :
  Calls Try.prog 59 #[.slice A l.length c,.func (.func 60) #[] #[]] w fun e w'=>e=.returned (.bool true)∧w=w':=by
 rcases first_bad l l.length with h' | ⟨m,h0,h1,h2⟩
 ·exact absurd h' h
 have HR:=Aside0.mk hr;have H1:=Aside0.mk h1;have H2:=Aside0.mk h2;have hm:=Kd.C_max hr;clear hr h h1 h2;go_enter Try.func59,Try.ntmps59;go_wp2_with (go_at_call 88;refine (index_some A c l _ HR.out m h0 H1.out H2.out).mono ?_;rintro e w' ⟨rfl,rfl⟩)
 go_ret;exact ⟨rfl,rfl⟩
end Go.Proofs.Ytpbhkdamkbopkaa.Ext
set_option linter.unusedSimpArgs false
set_option linter.unusedVariables false
namespace Go.Proofs.Ytpbhkdamkbopkaa.Ext
/-- How many of l are n. -/
def cnt (l:List Int) (n:Nat):Int:=((l.filter fun x=>decide (x=(n:Int))).length:Int)
/-- How many there are of each,0 to 15;with and without the noughts. -/
def cntsAll (l:List Int):List Int:=(List.range 16).map (cnt l)
def cnts (l:List Int):List Int:=(cntsAll l).set 0 0
/-- What is left of 2^15 ahead of length n,and how many codes there are. -/
def roomN (cs:List Int):Nat → Int
 |0=>32768
 |n+1=>roomN cs n - cs.getD n 0*2 ^ (15 - n)
def manyN (cs:List Int):Nat → Int
 |0=>0
 |n+1=>manyN cs n+cs.getD n 0
/-- The places among the first k of l that hold n. -/
def idxN (l:List Int) (n:Nat) (k:Nat):List Int:=((List.range k).filter fun i=>decide (l.getD i 0=(n:Int))).map Int.ofNat
/-- The symbols of the lengths 1 to n - 1,in order. -/
def symsN (l:List Int):Nat → List Int
 |0=>[]
 |n+1=>symsN l n ++ idxN l (n+1) l.length
def syms (l:List Int):List Int:=symsN l 15
def okL (l:List Int):Bool:=l.all fun n=>decide (0≤n) && decide (n≤15)
def badSum (l:List Int):Bool :=
 let r:=roomN (cnts l) 16
 let m:=manyN (cnts l) 16
 decide (r < 0) || (decide (0 < r) && decide (0 < m) && (decide (m ≠ 1) || decide (cnt l 1 ≠ 1)))
/-- The error of lengths. -/
def errOf (l:List Int):Int:=if 320 < l.length then 1 else if okL l=false then 1 else if badSum l=true then 4 else 0
theorem cnt_nonneg (l:List Int) (n:Nat):0≤cnt l n:=Int.natCast_nonneg _
theorem cnt_le (l:List Int) (n:Nat):cnt l n≤l.length:=by
 unfold cnt;have:=List.length_filter_le (fun x=>decide (x=(n:Int))) l;omega
theorem cnt_snoc (l:List Int) (x:Int) (n:Nat):cnt (l ++ [x]) n=cnt l n+if x=(n:Int) then 1 else 0:=by
 unfold cnt;rw [List.filter_append,List.length_append];by_cases h:x=(n:Int) <;> simp [List.filter_cons,h]
theorem cntsAll_length (l:List Int):(cntsAll l).length=16:=by simp [cntsAll]
theorem cntsAll_get (l:List Int) (n:Nat) (h:n < 16):(cntsAll l)[n]?=some (cnt l n):=by simp [cntsAll,h]
theorem cnts_length (l:List Int):(cnts l).length=16:=by simp [cnts,cntsAll]
theorem cntsAll_snoc (l:List Int) (x:Nat) (hx:x < 16):cntsAll (l ++ [(x:Int)])=(cntsAll l).set x (cnt l x+1):=by
 apply List.ext_getElem?;intro i;by_cases hi:i < 16
 ·rw [cntsAll_get _ _ hi,List.getElem?_set,cnt_snoc];by_cases e:x=i
  ·subst e;simp [cntsAll_length,hi]
  ·have e':¬ ((x:Int)=(i:Int)):=by omega
   rw [if_neg e,cntsAll_get _ _ hi];simp [e']
 ·rw [List.getElem?_eq_none (by rw [cntsAll_length];omega),List.getElem?_eq_none (by rw [List.length_set,cntsAll_length];omega)]
theorem cnts_get (l:List Int) (n:Nat) (h:n < 16):(cnts l)[n]?=some (if n=0 then 0 else cnt l n):=by
 unfold cnts;rw [List.getElem?_set];by_cases e:0=n
 ·subst e;simp [cntsAll_length]
 ·rw [if_neg e,cntsAll_get _ _ h,if_neg (by omega)]
theorem cnts_rng (l:List Int) (n:Nat):0≤(cnts l).getD n 0∧(cnts l).getD n 0≤l.length:=by
 rw [List.getD_eq_getElem?_getD];by_cases h:n < 16
 ·rw [cnts_get l n h];have:=cnt_nonneg l n;have:=cnt_le l n;simp only [Option.getD_some]
  split <;> omega
 ·rw [List.getElem?_eq_none (by rw [cnts_length];omega)];simp
theorem take_snoc' (l:List Int) (k:Nat) (h:k < l.length):l.take (k+1)=l.take k ++ [l.getD k 0]:=by
 rw [List.take_succ_eq_append_getElem h];simp [List.getD_eq_getElem?_getD,h]
theorem idxN_succ (l:List Int) (n k:Nat):idxN l n (k+1)=idxN l n k ++ if l.getD k 0=(n:Int) then [(k:Int)] else []:=by
 unfold idxN;rw [List.range_succ,List.filter_append,List.map_append]
 congr 1
 by_cases h:l.getD k 0=(n:Int)
 ·rw [if_pos h,List.filter_cons_of_pos (by simpa using h)];rfl
 ·rw [if_neg h,List.filter_cons_of_neg (by simpa using h)];rfl
theorem idxN_length (l:List Int) (n k:Nat):(idxN l n k).length≤k:=by
 unfold idxN;rw [List.length_map];have:=List.length_filter_le (fun i=>decide (l.getD i 0=(n:Int))) (List.range k);rw [List.length_range] at this;exact this
theorem symsN_length (l:List Int) (n:Nat):(symsN l n).length≤n*l.length:=by
 induction n with
 |zero=>simp [symsN]
 |succ n ih =>
  have:=idxN_length l (n+1) l.length;simp only [symsN,List.length_append];rw [Nat.succ_mul];omega
theorem pow_rng (n:Nat):(1:Int)≤2 ^ (15 - n)∧(2:Int) ^ (15 - n)≤32768:=by
 have h1:2 ^ (15 - n)≤2 ^ 15:=Nat.pow_le_pow_right (by decide) (by omega);have h2:1≤2 ^ (15 - n):=Nat.one_le_two_pow;have e:((2 ^ (15 - n):Nat):Int)=(2:Int) ^ (15 - n):=by rw [Int.natCast_pow];rfl
 rw [← e];omega
theorem roomN_rng (cs:List Int) (m:Int) (h:∀ n,0≤cs.getD n 0∧cs.getD n 0≤m) (hm:m≤320) (n:Nat):roomN cs n≤32768∧32768 - (n:Int)*10485760≤roomN cs n:=by
 induction n with
 |zero=>show (32768:Int)≤32768∧32768 - ((0:Nat):Int)*10485760≤(32768:Int);omega
 |succ n ih =>
  have hc:=h n;have hp:=pow_rng n;have h1:0≤cs.getD n 0*2 ^ (15 - n):=Int.mul_nonneg hc.1 (by omega);have h2:cs.getD n 0*2 ^ (15 - n)≤320*32768:=Int.mul_le_mul (by omega) hp.2 (by omega) (by omega);simp only [roomN];omega
theorem manyN_rng (cs:List Int) (m:Int) (h:∀ n,0≤cs.getD n 0∧cs.getD n 0≤m) (hm:m≤320) (n:Nat):0≤manyN cs n∧manyN cs n≤n*320:=by
 induction n with
 |zero=>show 0≤(0:Int)∧(0:Int)≤((0:Nat):Int)*320;omega
 |succ n ih =>
  have hc:=h n;simp only [manyN];omega
end Go.Proofs.Ytpbhkdamkbopkaa.Ext
namespace Go.Proofs.Ytpbhkdamkbopkaa.Ext
set_option linter.unusedSimpArgs false
set_option linter.unusedVariables false
open Go.RowKit Go.Proofs.YtpbhkdamkbopkaaW.PrintWords Go.Proofs.YtpbhkdamkbopkaaW.PrintLast Go.Proofs.YtpbhkdamkbopkaaW.PrintMore
/-- A table's cells. -/
def tab (cs:List Int) (v:Value):Array Value:=(cs.map (Value.int .i64) ++ [v]).toArray
def zero16:List Int:=List.replicate 16 0
theorem tab0 (v:Value):tab zero16 v=#[.int .i64 0,.int .i64 0,.int .i64 0,.int .i64 0,.int .i64 0,.int .i64 0,.int .i64 0,.int .i64 0,.int .i64 0,.int .i64 0,.int .i64 0,.int .i64 0,.int .i64 0,.int .i64 0,.int .i64 0,.int .i64 0,v]:=rfl
theorem tab_size (cs:List Int) (v:Value):(tab cs v).size=cs.length+1:=by simp [tab]
theorem tab_one (cs:List Int) (a:Option Addr) (n c:Nat):(tab cs (.slice a n c)).all (·.oneCell')=true:=by
 rw [Array.all_eq_true_iff_forall_mem];intro x hx;simp [tab] at hx
 rcases hx with ⟨y,_,rfl⟩ | rfl <;> rfl
theorem tab_get (cs:List Int) (v:Value) (i:Nat) (h:i < cs.length):(tab cs v)[i]?=some (.int .i64 (cs.getD i 0)):=by
 simp [tab,List.getElem?_append,h,List.getD_eq_getElem?_getD]
theorem tab_last (cs:List Int) (v:Value):(tab cs v)[cs.length]?=some v:=by
 simp [tab,List.getElem?_append]
theorem tab_set (cs:List Int) (v:Value) (i:Nat) (h:i < cs.length) (x:Int):(tab cs v).setIfInBounds i (.int .i64 x)=tab (cs.set i x) v:=by
 simp [tab,List.set_append,h,List.map_set]
theorem tab_setLast (cs:List Int) (v u:Value):(tab cs v).setIfInBounds cs.length u=tab cs u:=by
 simp [tab,List.set_append]
theorem inf3:∃ i,Try.prog.info? 3=some i∧i.size=1:=by
 have h:(Try.prog.info? 3).map (·.size)=some 1:=by kernel_rfl
 cases hq:Try.prog.info? 3 with
 |none=>rw [hq] at h;cases h
 |some i=>rw [hq] at h;exact ⟨i,rfl,by simpa using h⟩
theorem run_isAgg3 (W:World):(isAgg 3).run Try.prog W=.ok false W:=by
 unfold isAgg;rw [Sem.run_bind,run_underlying Try.underlying3];rfl
theorem info26:(Try.prog.info? 26).map (·.size)=some 17:=by kernel_rfl
theorem below_setRow {B:Nat} {w W:World} (h:Below B w W) {g:Nat} (hg:B≤g) (cs:Array Value):Below B w (W.setRow g cs) :=
 ⟨h.os,h.tape,h.output,by have:=h.size;simpa [World.setRow] using this,fun i hi=>by
  rw [← h.block i hi];simp only [World.setRow];rw [Array.getElem?_modify,if_neg (by omega)]⟩
theorem results_cell_tmp {P : Program} {fn : Func} {p q : Tmp} {ty : TypeId} (h : fn.results = #[.cell p ty, .tmp q]) (tmps : Array Value) (w : World) (g : Nat) (t : TypeId) (cs : Array Value) (fr : Nat × Nat) (d : TypeDesc)
  (hp:tmps.getD p undef=.pointer (some ⟨g,0,none⟩)) (hg:w.heap[g]?=some (.cells cs t fr))
  (hu:P.underlying ty=some d) (hd:(match d with | .struct _ | .array _ _=>true | _=>false)=true) (hi:(P.info? ty).map (·.size)=some cs.size) :
  (results fn tmps).run P w=.ok (.tuple #[.agg cs,tmps.getD q undef]) w:=by
 have hp':tmps[p]?.getD undef=.pointer (some ⟨g,0,none⟩):=by simpa using hp
 simp [results,h,hp',asAddr,run_loadVar_row w g t ty cs fr d hg hu hd hi]
/-- What New answers: the counts,the symbols,the error. -/
def NewIs (w:World) (cs:List Int) (ss:List Int) (er:Int) (e:Ending) (w':World):Prop :=
 ∃ v:Value,e=.returned (.tuple #[.agg (tab cs v),.int .i64 er])∧Kd.R (Kd.int .i64) 3 w' w.heap.size (fun _=>True) v ss∧Below w.heap.size w w'
set_option maxHeartbeats 1000000 in
theorem new_long (A:Option Addr) (c:Nat) (l:List Int) (w:World) (h:320 < l.length):Calls Try.prog 26 #[.slice A l.length c] w (NewIs w zero16 [] 1):=by
 have c1:decide (320 < (l.length:Int))=true:=decide_eq_true (by omega);have c2:decide (320 < l.length)=true:=decide_eq_true (by omega);clear h;have hb0:(w.alloc (.cells (tab zero16 (.slice none 0 0)) 26)).heap[w.heap.size]?=some (.cells (tab zero16 (.slice none 0 0)) 26 (0,0)):=heap_alloc_new _ _;have HB0:=Aside0.mk hb0;clear hb0;go_enter Try.func26,Try.ntmps26;go_wp2_with (refine wpList_store_row rfl 26 _ _ rfl w.heap.size (tab zero16 (.slice none 0 0)) rfl (by rw [tab0];rfl) 26 (tab zero16 (.slice none 0 0)) HB0.out info26 rfl (tab_one _ _ _ _) ?_)
 exact bodyPost_ret (v:=.tuple #[.agg (tab zero16 (.slice none 0 0)),.int .i64 1]) (results_cell_tmp (p:=2) (q:=3) rfl _ _ w.heap.size 26 _ (0,0) _ rfl (setRow_heap _ _ _ _ _ _ HB0.out) Try.underlying26 rfl info26) rfl ⟨_,rfl,Kd.R_nil _ _ _ _ _,below_setRow ((Below.refl _ _).alloc (Nat.le_refl _) _) (Nat.le_refl _) _⟩
set_option maxHeartbeats 1000000 in
theorem new_bad (A : Option Addr) (c : Nat) (l : List Int) (w : World) (hr : Kd.C (Kd.int .i64) w A l.length l) (h : l.length ≤ 320) (hb : ¬ ∀ i : Nat, i < l.length → badLen (rd l i) = false) :
  Calls Try.prog 26 #[.slice A l.length c] w (NewIs w zero16 [] 1):=by
 have c1:decide (320 < (l.length:Int))=false:=decide_eq_false (by omega);have c2:decide (320 < l.length)=false:=decide_eq_false (by omega);have HR:=Aside0.mk hr;have HB:=Aside0.mk hb;have hb0:(w.alloc (.cells (tab zero16 (.slice none 0 0)) 26)).heap[w.heap.size]?=some (.cells (tab zero16 (.slice none 0 0)) 26 (0,0)):=heap_alloc_new _ _;have HB0:=Aside0.mk hb0;clear h hr hb hb0;go_enter Try.func26,Try.ntmps26
 go_wp2_with (first
  |(go_at_call 59;refine (contains_yes A c l _ (Kd.C_alloc HR.out _) HB.out).mono ?_;rintro e w' ⟨rfl,rfl⟩)
  |(refine wpList_store_row rfl 26 _ _ rfl w.heap.size (tab zero16 (.slice none 0 0)) rfl (by rw [tab0];rfl) 26 (tab zero16 (.slice none 0 0)) HB0.out info26 rfl (tab_one _ _ _ _) ?_))
 exact bodyPost_ret (v:=.tuple #[.agg (tab zero16 (.slice none 0 0)),.int .i64 1]) (results_cell_tmp (p:=2) (q:=3) rfl _ _ w.heap.size 26 _ (0,0) _ rfl (setRow_heap _ _ _ _ _ _ HB0.out) Try.underlying26 rfl info26) rfl ⟨_,rfl,Kd.R_nil _ _ _ _ _,below_setRow ((Below.refl _ _).alloc (Nat.le_refl _) _) (Nat.le_refl _) _⟩
/-- What New answers for lengths that may be. -/
def NewPost (l:List Int) (w:World) (e:Ending) (w':World):Prop:=NewIs w (if badSum l=true then zero16 else cnts l) (if badSum l=true then [] else syms l) (if badSum l=true then 4 else 0) e w'
/-- A block that is a table. -/
def Tb (cs:List Int) (v:Value) (g:Nat) (w:World):Prop:=w.heap[g]?=some (.cells (tab cs v) 26 (0,0))
theorem Tb.cell {cs:List Int} {v:Value} {g:Nat} {w:World} (h:Tb cs v g w) (i:Nat) (hi:i < cs.length):w.cell? ⟨g,i,none⟩=some (.int .i64 (cs.getD i 0))∧w.frozen? ⟨g,i,none⟩=false :=
 ⟨by rw [blk_cell h,tab_get _ _ _ hi],blk_frozen h i⟩
theorem Tb.set {cs:List Int} {v:Value} {g:Nat} {w:World} (h:Tb cs v g w) (i:Nat) (hi:i < cs.length) (x:Int):Tb (cs.set i x) v g (w.setCell ⟨g,i,none⟩ (.int .i64 x)):=by
 have:=blk_set h i (.int .i64 x);rw [tab_set _ _ _ hi] at this;exact this
theorem Tb.far {cs:List Int} {v:Value} {g:Nat} {w:World} (h:Tb cs v g w) {p:Addr} (hp:g ≠ p.block) (u:Value):Tb cs v g (w.setCell p u):=blk_far h hp u
theorem Tb.range {cs:List Int} {v:Value} {g:Nat} {w:World} (h:Tb cs v g w):w.rangeAt g 0 (cs.map (Value.int .i64)):=fun j u hj=>by
 rw [List.getElem?_map] at hj;cases hc:cs[j]? with
 |none=>rw [hc] at hj;cases hj
 |some x =>
  rw [hc] at hj;have hl:j < cs.length:=(List.getElem?_eq_some_iff.1 hc).1;rw [Nat.zero_add,(h.cell j hl).1,List.getD_eq_getElem?_getD,hc];exact hj
/-- What holds while the symbols are gathered. -/
structure Gather (l:List Int) (w:World) (v:Value) (ss:List Int) (w':World):Prop where
 t1:Tb (cnts l) v (w.heap.size+1) w'
 t0:Tb zero16 (.slice none 0 0) w.heap.size w'
 r:Kd.R (Kd.int .i64) 3 w' w.heap.size (fun _=>True) v ss
 b:Below w.heap.size w w'
theorem Gather.cell {l:List Int} {w:World} {v:Value} {ss:List Int} {w':World} (h:Gather l w v ss w'):w'.cell? ⟨w.heap.size+1,16,none⟩=some v:=by
 have:=tab_last (cnts l) v;rw [cnts_length] at this;rw [blk_cell h.t1,this]
theorem Tb.cell16 {l:List Int} {v:Value} {g:Nat} {w':World} (h:Tb (cnts l) v g w'):w'.cell? ⟨g,16,none⟩=some v:=by
 have:=tab_last (cnts l) v;rw [cnts_length] at this;rw [blk_cell h,this]
theorem own_ne {w':World} {base g:Nat} {v:Value} {ss cs:List Int} {u:Value} (hr:Kd.R (Kd.int .i64) 3 w' base (fun _=>True) v ss) (ht:Tb cs u g w'):some g ≠ v.ownBlock:=by
 intro he;obtain ⟨cells,hc⟩:=Kd.R_typed hr g he.symm;have ht':w'.heap[g]?=some (.cells (tab cs u) 26 (0,0)):=ht;rw [hc] at ht';injection ht' with h'
 injection h' with _ h2
 exact absurd h2 (by decide)
theorem R_setRow {w':World} {base g:Nat} {v:Value} {ss cs:List Int} {u:Value} (hr:Kd.R (Kd.int .i64) 3 w' base (fun _=>True) v ss) (ht:Tb cs u g w') (xs:Array Value):Kd.R (Kd.int .i64) 3 (w'.setRow g xs) base (fun _=>True) v ss:=by
 refine Kd.R_mono (Kd.R_move (Kd.R_bound hr) (fun k hk=>?_)) (fun _ _=>trivial);obtain ⟨_,_,_,q,hq,cells,hc⟩:=hk
 have hne:g ≠ k:=by
  rintro rfl;have ht':w'.heap[g]?=some (.cells (tab cs u) 26 (0,0)):=ht;rw [hc] at ht';injection ht' with h'
  injection h' with _ h2
  subst h2
  revert hq
  decide
 simp only [World.setRow];rw [Array.getElem?_modify,if_neg hne]
theorem R_form {w':World} {base:Nat} {ok:Nat → Prop} {v:Value} {ss:List Int} (hr:Kd.R (Kd.int .i64) 3 w' base ok v ss):∃ A n c,v=.slice A n c:=by
 obtain ⟨a,c',e⟩:=Kd.R_slice hr;exact ⟨a,_,c',e⟩
/-- Behind an append,ahead of its store. -/
theorem Gather.grown {l : List Int} {w : World} {v v1 : Value} {ss ss1 : List Int} {w' w1 : World} (h : Gather l w v ss w') (hg : w'.grownBy w1 v.ownBlock) :
  Tb (cnts l) v (w.heap.size+1) w1∧Tb zero16 (.slice none 0 0) w.heap.size w1 :=
 ⟨blk_grown h.t1 hg (own_ne h.r h.t1),blk_grown h.t0 hg (own_ne h.r h.t0)⟩
theorem Gather.stored {l : List Int} {w : World} {v v1 : Value} {ss1 : List Int} {w1 : World} (h1 : Tb (cnts l) v (w.heap.size + 1) w1) (h0 : Tb zero16 (.slice none 0 0) w.heap.size w1)
  (hr:Kd.R (Kd.int .i64) 3 w1 w.heap.size (fun _=>True) v1 ss1) (hb:Below w.heap.size w w1):Gather l w v1 ss1 (w1.setCell ⟨w.heap.size+1,16,none⟩ v1) where
 t1:=by
  have:=blk_set h1 16 v1;have e:(tab (cnts l) v).setIfInBounds 16 v1=tab (cnts l) v1:=by have:=tab_setLast (cnts l) v v1;rwa [cnts_length] at this
  rw [e] at this;exact this
 t0:=h0.far (Nat.ne_of_lt (Nat.lt_succ_self _)) _
 r:=Kd.R_set hr h1 (by decide) 16 v1
 b:=below_set hb (Nat.le_succ _)
theorem info3:(Try.prog.info? 3).map (fun i=>(i.zero,i.size,i.bytes))=some (some (.int .i64 0),1,8):=by kernel_rfl
theorem good_is (l:List Int) (k:Nat) (h:badLen (rd l k)=false):∃ n:Nat,rd l k=n∧n < 16:=by
 simp [badLen] at h;exact ⟨(rd l k).toNat,by omega,by omega⟩
theorem rd_nat (l:List Int) (k:Nat):rd l k=l.getD k 0:=by unfold rd;rw [Int.toNat_natCast]
set_option maxRecDepth 100000 in
set_option maxHeartbeats 4000000 in
theorem new_main (A : Option Addr) (c : Nat) (l : List Int) (w : World) (hr : Kd.C (Kd.int .i64) w A l.length l) (h : l.length ≤ 320) (hb : ∀ i : Nat, i < l.length → badLen (rd l i) = false) :
  Calls Try.prog 26 #[.slice A l.length c] w (NewPost l w):=by
 have c1:decide (320 < (l.length:Int))=false:=decide_eq_false (by omega);have c2:decide (320 < l.length)=false:=decide_eq_false (by omega);have HR:=Aside0.mk hr;have HG:=Aside0.mk hb;clear hr hb;have HB:=Aside0.mk (Below.refl w.heap.size w);go_enter Try.func26,Try.ntmps26;go_wp2_with (go_at_call 59;refine (contains_no A c l _ (Kd.C_alloc HR.out _) HG.out).mono ?_;rintro e w' ⟨rfl,rfl⟩)
 go_loopw [24] (fun v24 w'=>∃ k:Nat,k≤l.length∧v24=.int .i64 k∧Aside0 (Tb (cntsAll (l.take k)) (.slice none 0 0) (w.heap.size+1) w')∧Aside0 (Tb zero16 (.slice none 0 0) w.heap.size w')∧Aside0 (Below w.heap.size w w')) (fun v24 _=>l.length - (intOf v24).toNat)
 case atStart=>exact ⟨0,Nat.zero_le _,rfl,⟨heap_alloc2_new _ _ _⟩,⟨heap_alloc2_old _ _ _⟩,⟨below_alloc (below_alloc (Below.refl _ _) _) _⟩⟩
 obtain ⟨k,hk,rfl,HT1,HT0,HBr⟩:=hrel;by_cases hlt:k < l.length
 ·obtain ⟨ad,ead,hx⟩:=Kd.at_int (Kd.C_below HR.out HBr.out) k (by omega) (by omega);cases ead;obtain ⟨n,en,hn⟩:=good_is l k (HG.out k hlt);rw [Int.toNat_natCast,en] at hx;obtain ⟨hc,hf⟩:=HT1.out.cell n (by rw [cntsAll_length];exact hn);rw [List.getD_eq_getElem?_getD,cntsAll_get _ _ hn] at hc;have hb0:=cnt_nonneg (l.take k) n;have hb1:cnt (l.take k) n≤320:=Int.le_trans (cnt_le _ _) (by rw [List.length_take];omega);have HS:=Aside0.mk (HT1.out.set n (by rw [cntsAll_length];exact hn) (cnt (l.take k) n+1));have en':=Aside0.mk en;clear en;simp only [Option.getD_some] at hc;generalize em':cnt (l.take k) n=m at hc hb0 hb1 HS;have em:=Aside0.mk em';clear em';go_wp2
  go_roundw
  case rel =>
   refine ⟨k+1,by omega,by go_num,?_,⟨HT0.out.far (Nat.ne_of_lt (Nat.lt_succ_self _)) _⟩,⟨below_set HBr.out (Nat.le_succ _)⟩⟩
   have hs:cntsAll (l.take (k+1))=(cntsAll (l.take k)).set n (m+1):=by
    rw [take_snoc' l k hlt,← rd_nat,en'.out,cntsAll_snoc _ _ hn,em.out]
   exact ⟨by rw [hs];exact HS.out⟩
  case measure=>simp [intOf];omega
 ·obtain rfl:k=l.length:=by omega
  rw [List.take_length] at HT1;have HS0:=Aside0.mk (HT1.out.set 0 (by rw [cntsAll_length];decide) 0);obtain ⟨hc0,hf0⟩:=HT1.out.cell 0 (by rw [cntsAll_length];decide);clear c1 c2;go_wp2_with (refine wpList_load_mid rfl 24 _ rfl (w.heap.size+1) 0 rfl ((cnts l).map (Value.int .i64)) _ (HS0.out.range) Try.underlying24 rfl (by rw [List.length_map,cnts_length];kernel_rfl) ?_)
  have HT:=Aside0.mk (show Tb (cnts l) (.slice none 0 0) (w.heap.size+1) _ from HS0.out);have HT0':=Aside0.mk (HT0.out.far (p:=⟨w.heap.size+1,0,none⟩) (Nat.ne_of_lt (Nat.lt_succ_self _)) (.int .i64 0));have HB':=Aside0.mk (below_set (g:=w.heap.size+1) (j:=0) (v:=.int .i64 0) HBr.out (Nat.le_succ _));clear HS0 HT0 HBr hc0 hf0 HT1;generalize wr.setCell ⟨w.heap.size+1,0,none⟩ (.int .i64 0)=w1 at HT HT0' HB' ⊢
  go_loop [7,8,40] (fun v7 v8 v40=>∃ n:Nat,n≤16∧v7=.int .i64 (roomN (cnts l) n)∧v8=.int .i64 (manyN (cnts l) n)∧v40=.int .i64 n) (fun _ _ v40=>16 - (intOf v40).toNat)
  case atStart=>exact ⟨0,by decide,rfl,rfl,rfl⟩
  obtain ⟨n,hn,rfl,rfl,rfl⟩:=hrel;by_cases hlt:n < 16
  ·have hidx : ∀ W, (Instr.index 24 (.agg (List.map (Value.int .i64) (cnts l)).toArray) (.int .i64 n)).run Try.prog W = .ok (.int .i64 ((cnts l).getD n 0)) W := fun W => by
    have h1:0≤(n:Int)∧(n:Int) < (16:Nat):=⟨by omega,by omega⟩
    have h2:(List.map (Value.int .i64) (cnts l)).toArray[n]?=some (.int .i64 ((cnts l).getD n 0)):=by
     simp [List.getD_eq_getElem?_getD,cnts_length,hlt]
    simp only [Instr.index,Sem.run_bind,run_underlying Try.underlying24];obtain ⟨i3,e3,s3⟩:=inf3;simp [asIntOf,sizeOf,typeInfo,part,hlt,e3,s3,run_isAgg3,cnts_length];intro hx;omega
   have hcn:=cnts_rng l n;have hpw:=pow_rng n;have hrr:=roomN_rng (cnts l) l.length (cnts_rng l) (by omega) n;have hmm:=manyN_rng (cnts l) l.length (cnts_rng l) (by omega) n
   have HX:Aside0 (wrap64 (roomN (cnts l) n - wrap64 ((cnts l).getD n 0*2 ^ (15 - n)))=roomN (cnts l) (n+1)∧wrap64 (manyN (cnts l) n+(cnts l).getD n 0)=manyN (cnts l) (n+1)):=by
    have h1:0≤(cnts l).getD n 0*2 ^ (15 - n):=Int.mul_nonneg hcn.1 (by omega);have h2:(cnts l).getD n 0*2 ^ (15 - n)≤320*32768:=Int.mul_le_mul (by omega) hpw.2 (by omega) (by omega);refine ⟨⟨?_,?_⟩⟩
    ·simp only [roomN];generalize (cnts l).getD n 0*2 ^ (15 - n)=y at h1 h2 ⊢;unfold wrap64;omega
    ·simp only [manyN];unfold wrap64;omega
   clear hcn hpw hrr hmm;go_wp2
   go_round
   case rel =>
    have:=HX.out;simp only [List.getD_eq_getElem?_getD] at this;exact ⟨n+1,by omega,by rw [← this.1],by rw [← this.2],by go_num⟩
   case measure=>simp [intOf];omega
  ·obtain rfl:n=16:=by omega
   clear hlt hn;obtain ⟨hc1,hf1⟩:=HT.out.cell 1 (by rw [cnts_length];decide);rw [List.getD_eq_getElem?_getD,cnts_get _ _ (by decide),if_neg (by decide),Option.getD_some] at hc1;generalize hR:roomN (cnts l) 16=r;generalize hM:manyN (cnts l) 16=m;generalize hC:cnt l 1=c1 at hc1;have HE:Aside0 (badSum l=(decide (r < 0) || (decide (0 < r) && decide (0 < m) && (decide (m ≠ 1) || decide (c1 ≠ 1))))):=⟨by unfold badSum;rw [hR,hM,hC]⟩;clear hR hM hC;(go_upto_region 17 with (fail))
   go_cut [73] (fun v73 wx=>v73=.bool (badSum l)∧wx=w1)
   case first =>
    by_cases h1:r < 0
    ·go_wp2_with fail
     go_meet;exact ⟨by rw [HE.out];simp [h1],rfl⟩
    have h1':0≤r:=by omega
    by_cases h2:0 < r;rotate_left
    ·have h2':r≤0:=by omega
     (go_wp2_with fail);go_meet;exact ⟨by rw [HE.out];simp [h1,h2];omega,rfl⟩
    by_cases h3:0 < m;rotate_left
    ·have h3':m≤0:=by omega
     (go_wp2_with fail);go_meet;exact ⟨by rw [HE.out];simp [h1,h2,h3];omega,rfl⟩
    by_cases h4:m=1;rotate_left
    ·have h4':(m != 1)=true:=by simpa using h4
     (go_wp2_with fail);go_meet;exact ⟨by rw [HE.out];simp [h1,h2,h3,h4],rfl⟩
    by_cases h5:c1=1
    ·subst h5;subst h4;(go_wp2_with fail);go_meet;exact ⟨by rw [HE.out];simp [h1,h2,h3],rfl⟩
    ·have h5':(c1 != 1)=true:=by simpa using h5
     subst h4;(go_wp2_with fail);go_meet;exact ⟨by rw [HE.out];simp [h1,h2,h3,h5],rfl⟩
   obtain ⟨rfl,rfl⟩:=hcut;clear HE hc1 hf1;by_cases hbs:badSum l=true
   ·have HBS:=Aside0.mk hbs;rw [hbs];clear hbs;(go_wp2_with (refine wpList_store_row rfl 26 _ _ rfl w.heap.size (tab zero16 (.slice none 0 0)) rfl (by rw [tab0];rfl) 26 (tab zero16 (.slice none 0 0)) HT0'.out info26 rfl (tab_one _ _ _ _) ?_));refine bodyPost_ret (v:=.tuple #[.agg (tab zero16 (.slice none 0 0)),.int .i64 4]) (results_cell_tmp (p:=2) (q:=3) rfl _ _ w.heap.size 26 _ (0,0) _ rfl (setRow_heap _ _ _ _ _ _ HT0'.out) Try.underlying26 rfl info26) rfl ?_;unfold NewPost;rw [if_pos HBS.out,if_pos HBS.out,if_pos HBS.out];exact ⟨_,rfl,Kd.R_nil _ _ _ _ _,below_setRow HB'.out (Nat.le_refl _) _⟩
   (have hbs':badSum l=false:=by simpa using hbs);have HBS:=Aside0.mk hbs;rw [hbs'];clear hbs hbs';have HGa:Aside0 (∃ v,Gather l w v (symsN l 0) wc):=⟨_,HT.out,HT0'.out,Kd.R_nil _ _ _ _ _,HB'.out⟩;clear HT HT0' HB';go_wp2
   go_loopw [11] (fun v11 w'=>∃ n:Nat,n≤15∧v11=.int .i64 ((n:Int)+1)∧Aside0 (∃ v,Gather l w v (symsN l n) w')) (fun v11 _=>16 - (intOf v11).toNat)
   case atStart=>exact ⟨0,by decide,rfl,HGa⟩
   clear HGa;obtain ⟨n,hn,rfl,HGn⟩:=hrel;by_cases hlt:n < 15
   ·have hdec:decide ((n:Int)+1≤15)=true:=decide_eq_true (by omega);go_wp2;obtain ⟨wo,rfl⟩:∃ wo:World,wo=wr:=⟨_,rfl⟩
    go_loopw [81] (fun v81 w'=>∃ k:Nat,k≤l.length∧v81=.int .i64 k∧Aside0 (∃ v,Gather l w v (symsN l n ++ idxN l (n+1) k) w')) (fun v81 _=>l.length - (intOf v81).toNat)
    case atStart=>exact ⟨0,Nat.zero_le _,rfl,by rw [show symsN l n ++ idxN l (n+1) 0=symsN l n from List.append_nil _];exact HGn⟩
    clear HGn;obtain ⟨k,hk,rfl,HGk⟩:=hrel;by_cases hlk:k < l.length;rotate_left
    ·obtain rfl:k=l.length:=by omega
     go_wp2
     go_roundw
     case rel =>
      refine ⟨n+1,by omega,by go_num,?_⟩;exact HGk
     case measure=>simp [intOf];omega
    obtain ⟨v,hv⟩:=HGk.out;have HV:=Aside0.mk hv;clear hv HGk;obtain ⟨ad,ead,hx⟩:=Kd.at_int (Kd.C_below HR.out HV.out.b) k (by omega) (by omega);cases ead;obtain ⟨m,en,hm⟩:=good_is l k (HG.out k hlk);rw [Int.toNat_natCast,en] at hx;have EN:=Aside0.mk en;clear en;by_cases hmn:m=n+1;rotate_left
    ·have hne:((m:Int) == (n:Int)+1)=false:=by simp;omega
     have HN:=Aside0.mk hmn;clear hmn;go_wp2
     go_roundw
     case rel =>
      refine ⟨k+1,by omega,by go_num,?_⟩
      have hs:symsN l n ++ idxN l (n+1) (k+1)=symsN l n ++ idxN l (n+1) k:=by
       rw [idxN_succ,← rd_nat,EN.out,if_neg (by have:=HN.out;omega),List.append_nil]
      rw [hs];exact ⟨_,HV.out⟩
     case measure=>simp [intOf];omega
    subst hmn;have hcell:=HV.out.cell;have hfro:=blk_frozen HV.out.t1 16
    have hlen:(symsN l n ++ idxN l (n+1) k).length≤6000:=by
     have h1:=symsN_length l n;have h2:=idxN_length l (n+1) k;have h3:n*l.length≤15*320:=Nat.mul_le_mul (by omega) h;rw [List.length_append];omega
    have HL:=Aside0.mk hlen;clear hlen;(go_wp2_with ((with_reducible refine gate_builtin (b:=.append) (xs:=#[.tmp 90,.tmp 92]) rfl ?_);at_builtin;refine Kd.R_append (Kd.int .i64) (w0:=w) w.heap.size rfl (.tmp 90) (.tmp 92) 22 3 (.int .i64 0) 8 rfl Try.underlying22 info3 rfl (by decide) (by omega) v (symsN l n ++ idxN l (n+1) k) k [.int .i64 k] (fun _=>True) (fun _=>False) rfl rfl ?aP (fun _ hk=>hk.elim) ?aF ?aO ?aB ?aS ?aL ?_;(case aP=>exact rfl);(case aF=>exact (fun _ _=>trivial));(case aO=>exact HV.out.r);(case aB=>exact HV.out.b);(case aS=>exact below_size HV.out.b);(case aL=>have:=HL.out;omega);intro v1 w2 ho hb hg hat;obtain ⟨A1,n1,ca1,rfl⟩:∃ A n c,v1=.slice A n c:=R_form ho;have hgr:=HV.out.grown (v1:=.nilFunc) (ss1:=[]) hg;have hcell:=hgr.1.cell16;have hfro:=blk_frozen hgr.1 16;have HS:=Aside0.mk (Gather.stored hgr.1 hgr.2 ho hb);clear ho hb hg hat hgr))
    go_roundw
    case rel =>
     refine ⟨k+1,by omega,by go_num,?_⟩
     have hs:symsN l n ++ idxN l (n+1) (k+1)=(symsN l n ++ idxN l (n+1) k) ++ [(k:Int)]:=by
      rw [idxN_succ,← rd_nat,EN.out,if_pos rfl,List.append_assoc]
     rw [hs];exact ⟨_,HS.out⟩
    case measure=>simp [intOf];omega
   ·obtain rfl:n=15:=by omega
    obtain ⟨v,hv⟩:=HGn.out;have HV:=Aside0.mk hv;clear hv HGn;(obtain ⟨va,vn,vc,rfl⟩:∃ a n c,v=.slice a n c:=by obtain ⟨a,c',e⟩:=Kd.R_slice HV.out.r;exact ⟨a,_,c',e⟩)
    go_wp2_with (first
     |(refine wpList_load_row rfl 26 _ rfl (w.heap.size+1) rfl 26 (tab (cnts l) (.slice va vn vc)) (0,0) _ HV.out.t1 Try.underlying26 rfl (by rw [tab_size,cnts_length];exact info26) ?_)
     |(refine wpList_store_row rfl 26 _ _ rfl w.heap.size (tab (cnts l) (.slice va vn vc)) rfl rfl 26 (tab zero16 (.slice none 0 0)) HV.out.t0 (by rw [tab_size,cnts_length];exact info26) (by rw [tab_size,tab_size,cnts_length];rfl) (tab_one _ _ _ _) ?_))
    refine bodyPost_ret (v:=.tuple #[.agg (tab (cnts l) (.slice va vn vc)),.int .i64 0]) (results_cell_tmp (p:=2) (q:=3) rfl _ _ w.heap.size 26 _ (0,0) _ rfl (setRow_heap _ _ _ _ _ _ HV.out.t0) Try.underlying26 rfl (by rw [tab_size,cnts_length];exact info26)) rfl ?_;unfold NewPost;rw [if_neg HBS.out,if_neg HBS.out,if_neg HBS.out];refine ⟨_,rfl,?_,below_setRow HV.out.b (Nat.le_refl _) _⟩;exact R_setRow HV.out.r HV.out.t0 _
def newCs (l:List Int):List Int:=if errOf l=0 then cnts l else zero16
def newSs (l:List Int):List Int:=if errOf l=0 then syms l else []
theorem bad_is (n:Int):badLen n=false ↔ (decide (0≤n) && decide (n≤15))=true:=by
 simp [badLen]
theorem ok_is (l:List Int):(∀ i:Nat,i < l.length → badLen (rd l i)=false) ↔ okL l=true:=by
 unfold okL;rw [List.all_eq_true];constructor
 ·intro h x hx;obtain ⟨i,hi,rfl⟩:=List.getElem_of_mem hx;have:=h i hi;rw [rd_nat,List.getD_eq_getElem?_getD,List.getElem?_eq_getElem hi,Option.getD_some,bad_is] at this;exact this
 ·intro h i hi;rw [rd_nat,List.getD_eq_getElem?_getD,List.getElem?_eq_getElem hi,Option.getD_some,bad_is];exact h _ (List.getElem_mem hi)
theorem new_calls (A : Option Addr) (c : Nat) (l : List Int) (w : World) (hr : Kd.C (Kd.int .i64) w A l.length l) :
  Calls Try.prog 26 #[.slice A l.length c] w (NewIs w (newCs l) (newSs l) (errOf l)):=by
 unfold newCs newSs;by_cases h:320 < l.length
 ·have e:errOf l=1:=by unfold errOf;rw [if_pos h]
  rw [e];exact new_long A c l w h
 by_cases hb:∀ i:Nat,i < l.length → badLen (rd l i)=false;rotate_left
 ·have hok : okL l = false := by
   cases h':okL l with
   |true=>exact absurd ((ok_is l).2 h') hb
   |false=>rfl
  have e:errOf l=1:=by unfold errOf;rw [if_neg h,hok,if_pos rfl]
  rw [e];exact new_bad A c l w hr (by omega) hb
 have hok:=(ok_is l).1 hb;refine (new_main A c l w hr (by omega) hb).mono fun e w' hn=>?_;unfold NewPost at hn;by_cases hs:badSum l=true
 ·have e:errOf l=4:=by unfold errOf;rw [if_neg h,hok,if_neg (by decide),if_pos hs]
  rw [if_pos hs,if_pos hs,if_pos hs] at hn;rw [e];exact hn
 ·have e:errOf l=0:=by unfold errOf;rw [if_neg h,hok,if_neg (by decide),if_neg hs]
  rw [if_neg hs,if_neg hs,if_neg hs] at hn;rw [e];exact hn
theorem newCs_length (l:List Int):(newCs l).length=16:=by
 unfold newCs
 split
 ·exact cnts_length l
 ·rfl
end Go.Proofs.Ytpbhkdamkbopkaa.Ext
namespace Go.Proofs.Ytpbhkdamkbopkaa.Ext
set_option linter.unusedSimpArgs false
set_option linter.unusedVariables false
open Go.RowKit Go.Proofs.Ytpbhkdamkbopkaa.PHuffBits Go.Proofs.YtpbhkdamkbopkaaW.PrintWords Go.Proofs.YtpbhkdamkbopkaaW.PrintLast Go.Proofs.YtpbhkdamkbopkaaW.PrintMore
/-- The symbol: d lengths are still to be tried. -/
def nxt (cs ss:List Int) (s:ByteArray):Nat → Int → Int → Int → Int → Option (Int × Int × Int)
 |0,_,_,_,_=>some (0,0,4)
 |d+1,pos,code,first,index =>
  (huff_Bit.f s pos).bind fun p =>
   if p.2=false then some (0,0,2)
   else if 2*code+p.1 < 2*first+cs.getD (15 - d) 0 then
    (if 0≤index+(2*code+p.1) - 2*first∧index+(2*code+p.1) - 2*first < ss.length then some (ss.getD (index+(2*code+p.1) - 2*first).toNat 0,wrap64 (pos+1),0) else none)
   else if index+cs.getD (15 - d) 0=ss.length then some (0,0,4)
   else nxt cs ss s d (wrap64 (pos+1)) (2*code+p.1) (2*first+cs.getD (15 - d) 0) (index+cs.getD (15 - d) 0)
theorem or_01 {x b:Int} (h0:0≤x) (h1:x < 1048576) (hb0:0≤b) (hb1:b≤1):bits .or .i64 (x*2) b=x*2+b :=
 bits_join .i64 40 (by decide) (fun n h₀ h₁=>by rw [IntKind.wrap_i64];omega) 1 _ _ (by omega) (by omega) (by omega) hb0 (by omega) (by omega)
theorem and_1 {x:Int} (h0:0≤x) (h1:x < 1048576):bits .and .i64 x 1=x % 2 :=
 bits_mask .i64 40 (by decide) (fun n h₀ h₁=>by rw [IntKind.wrap_i64];omega) 1 (by decide) x h0 (by omega)
theorem bit_rng {s:ByteArray} {pos:Int} {p:Int × Bool} (h:huff_Bit.f s pos=some p):0≤p.1∧p.1≤1:=by
 unfold huff_Bit.f at h
 split at h
 ·cases h;simp
 split at h
 ·cases h;simp
 split at h
 ·split at h
  ·split at h
   ·injection h with h
    subst h;have hb:=bt_range s (wrap64 (Int.tdiv pos 8))
    have h8:0≤shr .u8 (bt s (wrap64 (Int.tdiv pos 8))) (Int.tmod pos 8)∧shr .u8 (bt s (wrap64 (Int.tdiv pos 8))) (Int.tmod pos 8)≤255:=by
     unfold shr;exact ⟨Int.ediv_nonneg hb.1 (Int.le_of_lt (Int.pow_pos (by decide))),Int.le_trans (Int.ediv_le_self _ hb.1) hb.2⟩
    generalize shr .u8 (bt s (wrap64 (Int.tdiv pos 8))) (Int.tmod pos 8)=z at h8;(have e:wrap64 z=z:=by unfold wrap64;omega);show 0≤bits .and .i64 (wrap64 z) 1∧bits .and .i64 (wrap64 z) 1≤1;rw [e,and_1 h8.1 (by omega)];omega
   ·cases h
  ·cases h
 ·cases h
theorem pstep {P:Int} {d:Nat} (h:P*2 ^ (d+1)=32768) (h1:1≤P):2*P*2 ^ d=32768∧P≤16384:=by
 have e:2*P*2 ^ d=32768:=by rw [← h,Int.pow_succ,Int.mul_comm 2 P,Int.mul_assoc,Int.mul_comm 2]
 have h2:(1:Int)≤2 ^ d:=Int.pow_pos (by decide);have h3:2*P*1≤2*P*2 ^ d:=Int.mul_le_mul_of_nonneg_left h2 (by omega);exact ⟨e,by omega⟩
theorem next_arg (A : Option Addr) (c : Nat) (cs ss : List Int) (s : ByteArray) (pos : Int) (w : World) (h : pos < 0) :
  Calls Try.prog 30 #[.agg (tab cs (.slice A ss.length c)),.string s,.int .i64 pos] w fun e w'=>e=.returned (.tuple #[.int .i64 0,.int .i64 0,.int .i64 1])∧Below w.heap.size w w':=by
 go_enter Try.func30,Try.ntmps30;go_wp2;refine bodyPost_ret (v:=.tuple #[.int .i64 0,.int .i64 0,.int .i64 1]) (by simp [results,Try.results30,go_sem]) rfl ⟨rfl,below_alloc (Below.refl _ _) _⟩
theorem next_none (A : Option Addr) (c : Nat) (cs : List Int) (s : ByteArray) (pos : Int) (w : World) (hl : cs.length = 16) (h : 0 ≤ pos) :
  Calls Try.prog 30 #[.agg (tab cs (.slice A 0 c)),.string s,.int .i64 pos] w fun e w'=>e=.returned (.tuple #[.int .i64 0,.int .i64 0,.int .i64 4])∧Below w.heap.size w w':=by
 have hcell:(w.alloc (.cells (tab cs (.slice A 0 c)) 26)).cell? ⟨w.heap.size,16,none⟩=some (.slice A 0 c):=by
  rw [blk_cell (blk_new _ _),← hl,tab_last]
 go_enter Try.func30,Try.ntmps30;go_wp2;refine bodyPost_ret (v:=.tuple #[.int .i64 0,.int .i64 0,.int .i64 4]) (by simp [results,Try.results30,go_sem]) rfl ⟨rfl,below_alloc (Below.refl _ _) _⟩
set_option maxRecDepth 100000 in
set_option maxHeartbeats 4000000 in
theorem next_main (A : Option Addr) (c : Nat) (cs ss : List Int) (s : ByteArray) (pos : Int) (w : World) (hr : Kd.C (Kd.int .i64) w A ss.length ss) (hl : cs.length = 16) (hc : ∀ i : Nat, i < 16 → 0 ≤ cs.getD i 0 ∧ cs.getD i 0 ≤ 320) (hn : 0 < ss.length) (hm : ss.length ≤ 6000)
  (h0:0≤pos) (r1 r2 r3:Int) (h:nxt cs ss s 15 pos 0 0 0=some (r1,r2,r3)) :
  Calls Try.prog 30 #[.agg (tab cs (.slice A ss.length c)),.string s,.int .i64 pos] w fun e w'=>e=.returned (.tuple #[.int .i64 r1,.int .i64 r2,.int .i64 r3])∧Below w.heap.size w w':=by
 have HR:=Aside0.mk hr;have HC:=Aside0.mk hc;have HN:=Aside0.mk h
 have hcell:(w.alloc (.cells (tab cs (.slice A ss.length c)) 26)).cell? ⟨w.heap.size,16,none⟩=some (.slice A ss.length c):=by
  rw [blk_cell (blk_new _ _),← hl,tab_last]
 clear hr hc h;have hnz:((ss.length:Int) == 0)=false:=beq_eq_false_iff_ne.2 (by omega);have hnz':decide (pos < 0)=false:=by simp;omega
 have HBl:=Aside0.mk (blk_new w (.cells (tab cs (.slice A ss.length c)) 26));have HRa:=Aside0.mk (Kd.C_alloc HR.out (.cells (tab cs (.slice A ss.length c)) 26));have HBw:=Aside0.mk (below_alloc (Below.refl w.heap.size w) (.cells (tab cs (.slice A ss.length c)) 26));go_enter Try.func30,Try.ntmps30;go_wp2;generalize w.alloc (.cells (tab cs (.slice A ss.length c)) 26)=w1 at hcell HBl HRa HBw ⊢
 go_loopw [2, 9, 10, 11, 12] (fun v2 v9 v10 v11 v12 w' => ∃ (d n : Nat) (pos code first index P : Int), n + d = 16 ∧ 1 ≤ n ∧ v2 = .int .i64 pos ∧ v9 = .int .i64 code ∧ v10 = .int .i64 first ∧ v11 = .int .i64 index ∧ v12 = .int .i64 n ∧
   Aside0 (0≤code∧code < P∧0≤first∧first+640≤640*P∧P*2 ^ d=32768∧1≤P∧0≤index∧index≤320*(15 - d))∧Aside0 (nxt cs ss s d pos code first index=some (r1,r2,r3))∧∃ m,w'=w1.drewN m) (fun _ _ _ _ v12 _=>16 - (intOf v12).toNat)
 case atStart=>exact ⟨15,1,pos,0,0,0,1,rfl,by decide,rfl,rfl,rfl,rfl,rfl,⟨by decide⟩,HN,0,rfl⟩
 clear HN hnz hnz' h0;obtain ⟨d,n,pos,code,first,index,P,hd,hn1,rfl,rfl,rfl,rfl,rfl,HP,HN,m,rfl⟩:=hrel;cases d with
 |zero =>
  obtain rfl:n=16:=by omega
  have hN:=HN.out;simp only [nxt,Option.some.injEq,Prod.mk.injEq] at hN;obtain ⟨rfl,rfl,rfl⟩:=hN;clear HN;go_wp2;refine bodyPost_ret (v:=.tuple #[.int .i64 0,.int .i64 0,.int .i64 4]) (by simp [results,Try.results30,go_sem]) rfl ⟨rfl,pw_below_drewN HBw.out _⟩
 |succ d =>
  have hN0:=HN.out;clear HN;simp only [nxt] at hN0;obtain ⟨⟨b,ok⟩,hb,hN⟩:=Option.bind_eq_some_iff.mp hN0;clear hN0;have hbr:=bit_rng hb;have HBit:=Aside0.mk hb;clear hb;cases ok with
  |false =>
   rw [if_pos rfl] at hN;simp only [Option.some.injEq,Prod.mk.injEq] at hN;obtain ⟨rfl,rfl,rfl⟩:=hN;(go_wp2_with (go_at_call 34;refine (huff_Bit.calls s pos b false _ HBit.out).mono ?_;rintro e w' ⟨rfl,⟨nd,rfl⟩⟩));refine bodyPost_ret (v:=.tuple #[.int .i64 0,.int .i64 0,.int .i64 2]) (by simp [results,Try.results30,go_sem]) rfl ⟨rfl,pw_below_drewN HBw.out _⟩
  |true =>
   rw [if_neg (by simp),show 15 - d=n by omega] at hN;simp only at hN hbr;have hcn:=HC.out n (by omega)
   have hcell2:w1.cell? ⟨w.heap.size,n,none⟩=some (.int .i64 (cs.getD n 0)):=by
    rw [blk_cell HBl.out,tab_get _ _ _ (by omega)]
   generalize cs.getD n 0=cn at hN hcn hcell2;obtain ⟨p0,p1,p2,p3,p4,p5,p6,p7⟩:=HP.out;obtain ⟨q0,q1⟩:=pstep p4 p5;have hor:bits .or .i64 (code*2) b=code*2+b:=or_01 p0 (by omega) hbr.1 hbr.2;have hn15:decide ((n:Int)≤15)=true:=decide_eq_true (by omega);have HQ:=Aside0.mk q0;clear q0 p4;rw [show 2*code+b=code*2+b by omega,show 2*first=first*2 by omega] at hN;by_cases hlt:code*2+b < first*2+cn
   ·rw [if_pos hlt] at hN;have hltd:decide (code*2+b < first*2+cn)=true:=decide_eq_true hlt;by_cases hin:0≤index+(code*2+b) - first*2∧index+(code*2+b) - first*2 < ss.length;rotate_left
    ·rw [if_neg hin] at hN;cases hN
    rw [if_pos hin] at hN;simp only [Option.some.injEq,Prod.mk.injEq] at hN;obtain ⟨rfl,rfl,rfl⟩:=hN;obtain ⟨ad,ead,hx⟩:=Kd.at_int HRa.out _ hin.1 hin.2;cases ead;obtain ⟨hi0,hi1⟩:=hin;clear HP;(go_wp2_with (go_at_call 34;refine (huff_Bit.calls s pos b true _ HBit.out).mono ?_;rintro e w' ⟨rfl,⟨nd,rfl⟩⟩));refine bodyPost_ret (v:=.tuple #[.int .i64 _,.int .i64 _,.int .i64 0]) (by simp [results,Try.results30,go_sem];exact rfl) rfl ⟨rfl,pw_below_drewN HBw.out _⟩
   ·rw [if_neg hlt] at hN;have hltd:decide (code*2+b < first*2+cn)=false:=decide_eq_false hlt;by_cases heq:index+cn=ss.length;rotate_left
    ·rw [if_neg heq] at hN;have heqd:((index+cn:Int) == (ss.length:Int))=false:=beq_eq_false_iff_ne.2 heq;have HN:=Aside0.mk hN;clear heq HP hN;(go_wp2_with (go_at_call 34;refine (huff_Bit.calls s pos b true _ HBit.out).mono ?_;rintro e w' ⟨rfl,⟨nd,rfl⟩⟩))
     go_roundw
     case rel=>exact ⟨d,n+1,_,_,_,_,2*P,by omega,by omega,rfl,rfl,rfl,rfl,by go_num,⟨by have:=HQ.out;omega⟩,HN,_,rfl⟩
     case measure=>simp [intOf];omega
    rw [if_pos heq] at hN;simp only [Option.some.injEq,Prod.mk.injEq] at hN;obtain ⟨rfl,rfl,rfl⟩:=hN;have heqd:((index+cn:Int) == (ss.length:Int))=true:=beq_iff_eq.2 heq;clear heq HP;(go_wp2_with (go_at_call 34;refine (huff_Bit.calls s pos b true _ HBit.out).mono ?_;rintro e w' ⟨rfl,⟨nd,rfl⟩⟩));refine bodyPost_ret (v:=.tuple #[.int .i64 0,.int .i64 0,.int .i64 4]) (by simp [results,Try.results30,go_sem]) rfl ⟨rfl,pw_below_drewN HBw.out _⟩
/-- What Next answers by a table: an error,or a symbol. Nothing is told of tables that no lengths have. -/
def nextOf (cs ss:List Int) (s:ByteArray) (pos:Int):Option (Int × Int × Int) :=
 if pos < 0 then some (0,0,1) else if ss.length=0 then some (0,0,4)
 else if cs.length=16∧ss.length≤6000∧∀ x ∈ cs,0≤x∧x≤320 then nxt cs ss s 15 pos 0 0 0 else none
theorem next_calls (A : Option Addr) (c : Nat) (cs ss : List Int) (s : ByteArray) (pos : Int) (w : World) (hr : Kd.C (Kd.int .i64) w A ss.length ss) (hl : cs.length = 16) (r1 r2 r3 : Int) (h : nextOf cs ss s pos = some (r1, r2, r3)) :
  Calls Try.prog 30 #[.agg (tab cs (.slice A ss.length c)),.string s,.int .i64 pos] w fun e w'=>e=.returned (.tuple #[.int .i64 r1,.int .i64 r2,.int .i64 r3])∧Below w.heap.size w w':=by
 unfold nextOf at h;by_cases h0:pos < 0
 ·rw [if_pos h0] at h;simp only [Option.some.injEq,Prod.mk.injEq] at h;obtain ⟨rfl,rfl,rfl⟩:=h;exact next_arg A c cs ss s pos w h0
 rw [if_neg h0] at h;by_cases h1:ss.length=0
 ·rw [if_pos h1] at h;simp only [Option.some.injEq,Prod.mk.injEq] at h;obtain ⟨rfl,rfl,rfl⟩:=h;rw [h1];exact next_none A c cs s pos w hl (by omega)
 rw [if_neg h1] at h;by_cases h2:cs.length=16∧ss.length≤6000∧∀ x ∈ cs,0≤x∧x≤320
 ·rw [if_pos h2] at h;refine next_main A c cs ss s pos w hr hl (fun i hi=>?_) (by omega) h2.2.1 (by omega) r1 r2 r3 h;have hi':i < cs.length:=by omega
  rw [List.getD_eq_getElem?_getD,List.getElem?_eq_getElem hi',Option.getD_some];exact h2.2.2 _ (List.getElem_mem hi')
 ·rw [if_neg h2] at h;cases h
end Go.Proofs.Ytpbhkdamkbopkaa.Ext
set_option linter.unusedSimpArgs false
set_option linter.unusedVariables false
namespace Go.Proofs.Ytpbhkdamkbopkaa.Ext
def cz (l:List Int) (n:Nat):Int:=(cnts l).getD n 0
/-- The first code of length n. -/
def firstC (l:List Int):Nat → Int
 |0=>0
 |n+1=>2*(firstC l n+cz l n)
def rank (l:List Int) (i:Nat):Nat:=(idxN l (l.getD i 0).toNat i).length
def codeAt (l:List Int) (i:Nat):Int:=firstC l (l.getD i 0).toNat+rank l i
def codesOf (l:List Int):List Int:=(List.range l.length).map fun i=>if l.getD i 0≤0 then 0 else codeAt l i
/-- What has been told when the lengths below n are done,and j symbols of n. -/
def codesN (l:List Int) (n j:Nat):List Int:=(List.range l.length).map fun i =>
 if l.getD i 0≤0 then 0 else if l.getD i 0 < n then codeAt l i else if l.getD i 0=n∧rank l i < j then codeAt l i else 0
theorem cz_rng (l:List Int) (n:Nat):0≤cz l n∧cz l n≤l.length:=cnts_rng l n
theorem cz_is (l:List Int) (n:Nat) (h0:1≤n) (h:n < 16):cz l n=cnt l n:=by
 unfold cz;rw [List.getD_eq_getElem?_getD,cnts_get l n h,if_neg (by omega)];rfl
theorem firstC_rng (l:List Int) (h:l.length≤320) (n:Nat):0≤firstC l n∧firstC l n+640≤640*2 ^ n:=by
 induction n with
 |zero=>exact ⟨Int.le_refl _,by simp [firstC]⟩
 |succ n ih =>
  have:=cz_rng l n;have e:(2:Int) ^ (n+1)=2*2 ^ n:=by rw [Int.pow_succ,Int.mul_comm]
  simp only [firstC];rw [e];generalize (2:Int) ^ n=p at ih;omega
theorem firstC_le (l:List Int) (h:l.length≤320) (n:Nat) (hn:n≤16):0≤firstC l n∧firstC l n≤41943040:=by
 have h1:=firstC_rng l h n;have h2:2 ^ n≤2 ^ 16:=Nat.pow_le_pow_right (by decide) hn;have e:((2 ^ n:Nat):Int)=(2:Int) ^ n:=by rw [Int.natCast_pow];rfl
 rw [← e] at h1;omega
theorem idxN_cnt (l:List Int) (n:Nat):∀ k,k≤l.length → ((idxN l n k).length:Int)=cnt (l.take k) n:=by
 intro k
 induction k with
 |zero=>intro _;simp [idxN,cnt]
 |succ k ih =>
  intro hk;rw [idxN_succ,take_snoc' l k (by omega),cnt_snoc,List.length_append,Int.natCast_add,ih (by omega)];by_cases h:l.getD k 0=(n:Int)
  ·rw [if_pos h,if_pos h];rfl
  ·rw [if_neg h,if_neg h];rfl
theorem idxN_cz (l:List Int) (n:Nat) (h0:1≤n) (h:n < 16):((idxN l n l.length).length:Int)=cz l n:=by
 rw [idxN_cnt l n _ (Nat.le_refl _),List.take_length,cz_is l n h0 h]
/-- The j-th place of n. -/
theorem idxN_at (l:List Int) (n:Nat):∀ (k j:Nat) (x:Int),(idxN l n k)[j]?=some x → ∃ i:Nat,x=i∧i < k∧l.getD i 0=n∧(idxN l n i).length=j:=by
 intro k
 induction k with
 |zero=>intro j x h;simp [idxN] at h
 |succ k ih =>
  intro j x h;rw [idxN_succ] at h;by_cases hj:j < (idxN l n k).length
  ·rw [List.getElem?_append_left hj] at h;obtain ⟨i,h1,h2,h3⟩:=ih j x h;exact ⟨i,h1,by omega,h3⟩
  rw [List.getElem?_append_right (by omega)] at h;by_cases he:l.getD k 0=(n:Int);rotate_left
  ·rw [if_neg he] at h;simp at h
  rw [if_pos he] at h
  have h1:j - (idxN l n k).length < 1:=by
   have:=(List.getElem?_eq_some_iff.1 h).1
   simpa using this
  rw [show j - (idxN l n k).length=0 by omega] at h;simp at h;exact ⟨k,h.symm,by omega,he,by omega⟩
theorem idxN_of (l:List Int) (n:Nat):∀ (k i:Nat),i < k → l.getD i 0=n → (idxN l n k)[(idxN l n i).length]?=some (i:Int):=by
 intro k
 induction k with
 |zero=>intro i h;omega
 |succ k ih =>
  intro i hi he;rw [idxN_succ];by_cases h:i < k
  ·have:=ih i h he;rw [List.getElem?_append_left (List.getElem?_eq_some_iff.1 this).1];exact this
  ·obtain rfl:i=k:=by omega
   rw [List.getElem?_append_right (Nat.le_refl _),if_pos he,Nat.sub_self];rfl
theorem rank_n (l:List Int) (i n:Nat) (h:l.getD i 0=(n:Int)):rank l i=(idxN l n i).length:=by
 unfold rank;rw [h,Int.toNat_natCast]
/-- The symbol that stands at a place of all. -/
theorem syms_at (l : List Int) (n j : Nat) (m : Nat) (hm : n + 1 ≤ m) (hj : j < (idxN l (n + 1) l.length).length) :
  (symsN l m)[(symsN l n).length+j]?=(idxN l (n+1) l.length)[j]?:=by
 induction m with
 |zero=>omega
 |succ m ih =>
  simp only [symsN];by_cases h:m=n
  ·subst h;rw [List.getElem?_append_right (by omega),Nat.add_sub_cancel_left]
  ·have h1:=ih (by omega);have h2:(idxN l (n+1) l.length)[j]?=some ((idxN l (n+1) l.length)[j]):=List.getElem?_eq_getElem hj;rw [h2] at h1;rw [List.getElem?_append_left (List.getElem?_eq_some_iff.1 h1).1,h1,h2]
/-- One symbol more. -/
theorem codesN_step (l:List Int) (n j i:Nat) (hn:1≤n) (h:(idxN l n l.length)[j]?=some (i:Int)):(codesN l n j).set i (firstC l n+j)=codesN l n (j+1)∧i < l.length:=by
 obtain ⟨i',e,hi,he,hr⟩:=idxN_at l n _ _ _ h;obtain rfl:i=i':=by omega
 refine ⟨?_,hi⟩;apply List.ext_getElem?;intro q;rw [List.getElem?_set];unfold codesN;rw [List.length_map,List.length_range];by_cases hq:q < l.length;rotate_left
 ·rw [if_neg (by omega),List.getElem?_eq_none (by simp;omega),List.getElem?_eq_none (by simp;omega)]
 rw [List.getElem?_map,List.getElem?_map,List.getElem?_range hq];simp only [Option.map_some];by_cases hqi:i=q
 ·subst hqi;rw [if_pos rfl,if_pos hq,if_neg (by omega),if_neg (by omega),if_pos ⟨he,by rw [rank_n l i n he];omega⟩];unfold codeAt;rw [rank_n l i n he,hr,he,Int.toNat_natCast]
 rw [if_neg hqi];by_cases h0:l.getD q 0≤0
 ·rw [if_pos h0,if_pos h0]
 rw [if_neg h0,if_neg h0];by_cases h1:l.getD q 0 < (n:Int)
 ·rw [if_pos h1,if_pos h1]
 rw [if_neg h1,if_neg h1];by_cases h2:l.getD q 0=(n:Int);rotate_left
 ·rw [if_neg (fun h=>h2 h.1),if_neg (fun h=>h2 h.1)]
 have hne:rank l q ≠ j:=by
  intro hc;have:=idxN_of l n l.length q hq h2;rw [← rank_n l q n h2,hc,h] at this;injection this with this
  omega
 by_cases h3:rank l q < j
 ·rw [if_pos ⟨h2,h3⟩,if_pos ⟨h2,by omega⟩]
 ·rw [if_neg (by rintro ⟨_,h⟩;omega),if_neg (by rintro ⟨_,h⟩;omega)]
theorem codesN_end (l:List Int) (n:Nat) (hn:1≤n):codesN l n (idxN l n l.length).length=codesN l (n+1) 0:=by
 unfold codesN;apply List.map_congr_left;intro q hq;rw [List.mem_range] at hq;by_cases h0:l.getD q 0≤0
 ·rw [if_pos h0,if_pos h0]
 rw [if_neg h0,if_neg h0];by_cases h1:l.getD q 0 < (n:Int)
 ·rw [if_pos h1,if_pos (by omega)]
 rw [if_neg h1];by_cases h2:l.getD q 0=(n:Int)
 ·have:=idxN_of l n l.length q hq h2;rw [if_pos ⟨h2,by rw [rank_n l q n h2];exact (List.getElem?_eq_some_iff.1 this).1⟩,if_pos (by omega)]
 ·rw [if_neg (fun h=>h2 h.1),if_neg (by omega),if_neg (by rintro ⟨_,h⟩;omega)]
theorem codesN_start (l:List Int):codesN l 1 0=List.replicate l.length 0:=by
 unfold codesN;apply List.ext_getElem?;intro q;by_cases hq:q < l.length
 ·rw [List.getElem?_map,List.getElem?_range hq,List.getElem?_replicate,if_pos hq];simp only [Option.map_some];by_cases h0:l.getD q 0≤0
  ·rw [if_pos h0]
  ·rw [if_neg h0,if_neg (by omega),if_neg (by rintro ⟨_,h⟩;omega)]
 ·rw [List.getElem?_eq_none (by simp;omega),List.getElem?_eq_none (by simp;omega)]
theorem codesN_all (l:List Int) (h:okL l=true):codesN l 16 0=codesOf l:=by
 unfold codesN codesOf;apply List.map_congr_left;intro q hq;rw [List.mem_range] at hq
 have hx:l.getD q 0≤15:=by
  unfold okL at h;rw [List.all_eq_true] at h;have:=h (l[q]) (List.getElem_mem hq);rw [List.getD_eq_getElem?_getD,List.getElem?_eq_getElem hq,Option.getD_some];simp at this;exact this.2
 by_cases h0:l.getD q 0≤0
 ·rw [if_pos h0,if_pos h0]
 ·rw [if_neg h0,if_neg h0,if_pos (by omega)]
theorem codesN_length (l:List Int) (n j:Nat):(codesN l n j).length=l.length:=by simp [codesN]
theorem errOf_ok (l:List Int) (h:errOf l=0):l.length≤320∧okL l=true∧badSum l=false:=by
 unfold errOf at h
 split at h
 ·cases h
 split at h
 ·cases h
 split at h
 ·cases h
 ·rename_i h1 h2 h3;exact ⟨by omega,by simpa using h2,by simpa using h3⟩
end Go.Proofs.Ytpbhkdamkbopkaa.Ext
set_option linter.unusedSimpArgs false
set_option linter.unusedVariables false
namespace Go.Proofs.Ytpbhkdamkbopkaa.Ext
open Go.RowKit Go.Proofs.Ytpbhkdamkbopkaa.PHuffBits Go.Proofs.YtpbhkdamkbopkaaW.PrintWords Go.Proofs.YtpbhkdamkbopkaaW.PrintLast Go.Proofs.YtpbhkdamkbopkaaW.PrintMore
theorem wrap_in {n:Int} (h0:-9223372036854775808≤n) (h1:n≤9223372036854775807):wrap64 n=n:=by unfold wrap64;omega
/-- The bit at a place of bytes. -/
def bitN (s:ByteArray) (p:Int):Int:=bt s (p / 8) / 2 ^ (p % 8).toNat % 2
theorem bitN_rng (s:ByteArray) (p:Int):0≤bitN s p∧bitN s p≤1:=by unfold bitN;omega
theorem bit_is (s : ByteArray) (hs : s.size ≤ 140737488351232) (p : Int) (h0 : 0 ≤ p) (hp : p ≤ 9223372036854775807) :
  huff_Bit.f s p=if p < 8*s.size then some (bitN s p,true) else some (0,false):=by
 unfold huff_Bit.f;rw [if_neg (by omega),wrap_in (n:=8*(s.size:Int)) (by omega) (by omega)];by_cases h:p < 8*s.size;rotate_left
 ·rw [if_pos (by omega),if_neg h]
 rw [if_neg (by omega),if_pos h,Int.tdiv_eq_ediv_of_nonneg h0,Int.tmod_eq_emod_of_nonneg h0,wrap_in (n:=p / 8) (by omega) (by omega),
  if_pos (by omega),if_pos (by omega),if_pos (by omega)]
 have e:shr .u8 (bt s (p / 8)) (p % 8)=bt s (p / 8) / 2 ^ (p % 8).toNat:=by
  unfold shr;rw [Nat.min_eq_left (by show (p % 8).toNat≤8;omega)]
 rw [e];have hb:=bt_range s (p / 8);have h1:0≤bt s (p / 8) / 2 ^ (p % 8).toNat:=Int.ediv_nonneg hb.1 (Int.le_of_lt (Int.pow_pos (by decide)));have h2:bt s (p / 8) / 2 ^ (p % 8).toNat≤255:=Int.le_trans (Int.ediv_le_self _ hb.1) hb.2;unfold bitN;generalize bt s (p / 8) / 2 ^ (p % 8).toNat=z at h1 h2;rw [wrap_in (n:=z) (by omega) (by omega),and_1 h1 (by omega)]
/-- The first n bits from pos on,the first one highest. -/
def Vn (s:ByteArray) (pos:Int):Nat → Int
 |0=>0
 |n+1=>2*Vn s pos n+bitN s (pos+n)
def Gn (l:List Int) (n:Nat):Int:=firstC l n+cz l n
def Sn (l:List Int) (n:Nat):Int:=((symsN l n).length:Int)
theorem firstC_succ (l:List Int) (n:Nat):firstC l (n+1)=2*Gn l n:=rfl
theorem Gn_zero (l:List Int):Gn l 0=0:=by
 unfold Gn cz;rw [List.getD_eq_getElem?_getD,cnts_get l 0 (by decide)];rfl
theorem Sn_succ (l:List Int) (n:Nat) (h:n+1 < 16):Sn l (n+1)=Sn l n+cz l (n+1):=by
 unfold Sn;rw [← idxN_cz l (n+1) (by omega) h];simp only [symsN,List.length_append];omega
/-- One length is tried. -/
theorem nxt_step (l : List Int) (hl : l.length ≤ 320) (s : ByteArray) (hs : s.size ≤ 140737488351232) (pos : Int) (h0 : 0 ≤ pos) (hp : pos ≤ 4611686018427387904) (n d : Nat) (hn : n + d = 14) (hV : Gn l n ≤ Vn s pos n) :
    nxt (cnts l) (syms l) s (d+1) (pos+n) (Vn s pos n) (Gn l n) (Sn l n) =
      if pos+n < 8*s.size then
        (if Vn s pos (n+1) < Gn l (n+1) then some ((idxN l (n+1) l.length).getD (Vn s pos (n+1) - firstC l (n+1)).toNat 0,pos+(n+1:Nat),0)
         else if Sn l (n+1)=(syms l).length then some (0,0,4)
         else nxt (cnts l) (syms l) s d (pos+(n+1:Nat)) (Vn s pos (n+1)) (Gn l (n+1)) (Sn l (n+1)))
      else some (0,0,2):=by
  have hc:(cnts l).getD (15 - d) 0=cz l (n+1):=by rw [show 15 - d=n+1 by omega];rfl
  have hS:=Sn_succ l n (by omega);have hF:firstC l (n+1)=2*Gn l n:=rfl;have hG:Gn l (n+1)=2*Gn l n+cz l (n+1):=rfl;have hV1:Vn s pos (n+1)=2*Vn s pos n+bitN s (pos+n):=rfl;have hbr:=bitN_rng s (pos+n);have hq0:0≤pos+n:=by omega
  have hq1:pos+n≤9223372036854775807:=by omega
  simp only [nxt];rw [bit_is s hs (pos+n) hq0 hq1];by_cases hb:pos+n < 8*s.size;rotate_left
  · rw [if_neg hb,if_neg hb];rfl
  rw [if_pos hb,if_pos hb];simp only [Option.bind_some];have hw:wrap64 (pos+n+1)=pos+(n+1:Nat):=by rw [wrap_in (by omega) (by omega)];omega
  rw [if_neg (by simp),hc,hw,← hV1,← hG];clear hw;by_cases hlt:Vn s pos (n+1) < Gn l (n+1);rotate_left
  · rw [if_neg hlt,if_neg hlt,hS]
  rw [if_pos hlt,if_pos hlt,← hF]
  have hj:∃ j:Nat,Vn s pos (n+1) - firstC l (n+1)=j∧(j:Int) < cz l (n+1):=by
    rw [hV1,hF];rw [hV1,hG] at hlt;generalize Vn s pos n=v at hV hlt;generalize Gn l n=g at hV hlt;generalize bitN s (pos+n)=b at hbr hlt;exact ⟨(2*v+b - 2*g).toNat,by omega,by omega⟩
  obtain ⟨j,ej,hjc⟩:=hj;have hji:j < (idxN l (n+1) l.length).length:=by have:=idxN_cz l (n+1) (by omega) (by omega);omega
  have hsy:=syms_at l n j 15 (by omega) hji
  have hlen:(symsN l n).length+j < (syms l).length:=by
    rw [List.getElem?_eq_getElem hji] at hsy;exact (List.getElem?_eq_some_iff.1 hsy).1
  have e1:Sn l n+Vn s pos (n+1) - firstC l (n+1)=((symsN l n).length+j:Nat):=by
    unfold Sn;generalize Vn s pos (n+1)=v at ej;generalize firstC l (n+1)=f at ej;omega
  have e2:(syms l).getD ((symsN l n).length+j) 0=(idxN l (n+1) l.length).getD j 0:=by
    rw [List.getD_eq_getElem?_getD,List.getD_eq_getElem?_getD];unfold syms;rw [hsy]
  rw [e1,if_pos ⟨Int.natCast_nonneg _,Int.ofNat_lt.2 hlen⟩,ej,Int.toNat_natCast,Int.toNat_natCast,e2]
theorem pow_split (n:Nat) (h:n+1≤15):(2:Int) ^ (15 - n)=2*2 ^ (15 - (n+1)):=by
 rw [show 15 - n=(15 - (n+1))+1 by omega,Int.pow_succ,Int.mul_comm]
theorem Gn_succ (l:List Int) (n:Nat):Gn l (n+1)=2*Gn l n+cz l (n+1):=rfl
theorem Gn_room (l:List Int):∀ n,n≤15 → Gn l n*2 ^ (15 - n)=32768 - roomN (cnts l) (n+1):=by
 intro n
 induction n with
 |zero =>
  intro _;rw [Gn_zero];have h0:cz l 0=0:=by have:=Gn_zero l;unfold Gn firstC at this;omega
  show 0*2 ^ 15=32768 - (32768 - cz l 0*2 ^ (15 - 0));rw [h0];simp
 |succ n ih =>
  intro hn;have h1:=ih (by omega);rw [pow_split n hn] at h1;have h2:roomN (cnts l) (n+1+1)=roomN (cnts l) (n+1) - cz l (n+1)*2 ^ (15 - (n+1)):=rfl;rw [h2,Gn_succ,Int.add_mul]
  have h3:2*Gn l n*2 ^ (15 - (n+1))=Gn l n*(2*2 ^ (15 - (n+1))):=by
   rw [Int.mul_comm 2,Int.mul_assoc]
  rw [h3];omega
theorem syms_Sn (l:List Int):((syms l).length:Int)=Sn l 15:=rfl
theorem Gn_mono (l:List Int) (n m:Nat) (h:n≤m):Gn l n*2 ^ (m - n)≤Gn l m:=by
 induction m with
 |zero=>obtain rfl:n=0:=(by omega);simp
 |succ m ih =>
  by_cases e:n=m+1
  ·subst e;simp
  ·have h1:=ih (by omega);have:=cz_rng l (m+1);rw [Gn_succ,show m+1 - n=(m - n)+1 by omega,Int.pow_succ,← Int.mul_assoc];omega
theorem Sn_mono (l:List Int) (n m:Nat) (h:n≤m) (hm:m≤15):Sn l n≤Sn l m:=by
 induction m with
 |zero=>obtain rfl:n=0:=(by omega);exact Int.le_refl _
 |succ m ih =>
  by_cases e:n=m+1
  ·subst e;exact Int.le_refl _
  ·have h1:=ih (by omega) (by omega);have:=cz_rng l (m+1);rw [Sn_succ l m (by omega)];omega
/-- The symbol of a code of length n. -/
theorem symbol_is (l : List Int) (n : Nat) (h0 : 1 ≤ n) (h : n < 16) (v : Int) (h1 : firstC l n ≤ v) (h2 : v < Gn l n) :
  ∃ i:Nat,(idxN l n l.length).getD (v - firstC l n).toNat 0=i∧i < l.length∧l.getD i 0=n∧codeAt l i=v:=by
 obtain ⟨j,ej⟩:∃ j:Nat,v - firstC l n=j:=⟨(v - firstC l n).toNat,by omega⟩;have hc:=idxN_cz l n h0 h;have hj:j < (idxN l n l.length).length:=by unfold Gn at h2;omega
 obtain ⟨i,e,hi,he,hr⟩:=idxN_at l n _ j _ (List.getElem?_eq_getElem hj);refine ⟨i,?_,hi,he,?_⟩
 ·rw [ej,Int.toNat_natCast,List.getD_eq_getElem?_getD,List.getElem?_eq_getElem hj];exact e
 ·unfold codeAt;rw [rank_n l i n he,hr,he,Int.toNat_natCast];omega
theorem symbol_at (l : List Int) (i n : Nat) (h0 : 1 ≤ n) (h : n < 16) (hi : i < l.length) (he : l.getD i 0 = n) :
  firstC l n≤codeAt l i∧codeAt l i < Gn l n∧(idxN l n l.length).getD (codeAt l i - firstC l n).toNat 0=i:=by
 have h1:=idxN_of l n l.length i hi he;have h2:=(List.getElem?_eq_some_iff.1 h1).1;have h3:=idxN_cz l n h0 h;unfold codeAt Gn;rw [rank_n l i n he,he,Int.toNat_natCast];refine ⟨by omega,by omega,?_⟩;rw [show firstC l n+((idxN l n i).length:Int) - firstC l n=((idxN l n i).length:Int) by omega,Int.toNat_natCast,List.getD_eq_getElem?_getD,h1];rfl
end Go.Proofs.Ytpbhkdamkbopkaa.Ext
namespace Go.Proofs.Ytpbhkdamkbopkaa.Ext
set_option linter.unusedSimpArgs false
set_option linter.unusedVariables false
open Go.RowKit Go.Proofs.YtpbhkdamkbopkaaW.PrintWords Go.Proofs.YtpbhkdamkbopkaaW.PrintLast Go.Proofs.YtpbhkdamkbopkaaW.PrintMore
/-- What Codes answers: the codes,the error. -/
def CodesIs (w:World) (cs:List Int) (er:Int) (e:Ending) (w':World):Prop :=
 ∃ v:Value,e=.returned (.tuple #[v,.int .i64 er])∧Kd.R (Kd.int .i64) 3 w' w.heap.size (fun _=>True) v cs∧Below w.heap.size w w'
set_option maxRecDepth 100000 in
set_option maxHeartbeats 1000000 in
theorem codes_err (A:Option Addr) (c:Nat) (l:List Int) (w:World) (hr:Kd.C (Kd.int .i64) w A l.length l) (h:errOf l ≠ 0):Calls Try.prog 27 #[.slice A l.length c] w (CodesIs w [] (errOf l)):=by
 have HR:=Aside0.mk hr;have hne:(errOf l != 0)=true:=by simpa using h
 clear hr h;go_enter Try.func27,Try.ntmps27
 go_wp2_with (first
  |(go_at_call 26;refine (new_calls A c l _ HR.out).mono ?_;rintro e w1 ⟨v,rfl,hrv,hb⟩;have HV:=Aside0.mk hrv;have HB:=Aside0.mk hb;obtain ⟨va,vn,vc,rfl⟩:=R_form hrv;clear hrv hb)
  |(refine wpList_store_row rfl 26 _ _ rfl w1.heap.size (tab (newCs l) (.slice va vn vc)) rfl rfl 26 (tab zero16 (.slice none 0 0)) (heap_alloc_new _ _) (by rw [tab_size,newCs_length];exact info26) (by rw [tab_size,tab_size,newCs_length];rfl) (tab_one _ _ _ _) ?_;rw [World.setRow_alloc_new]))
 go_ret2;exact ⟨_,rfl,Kd.R_nil _ _ _ _ _,below_alloc HB.out _⟩
theorem cz0 (l:List Int):cz l 0=0:=by unfold cz;rw [List.getD_eq_getElem?_getD,cnts_get l 0 (by decide)];rfl
/-- The codes so far,in the call's own row. -/
structure Laying (w2:World) (v:Value) (xs:List Int) (w':World):Prop where
 r:Kd.R (Kd.int .i64) 3 w' w2.heap.size (fun _=>True) v xs
 b:Below w2.heap.size w2 w'
set_option maxRecDepth 100000 in
set_option maxHeartbeats 4000000 in
theorem codes_main (A:Option Addr) (c:Nat) (l:List Int) (w:World) (hr:Kd.C (Kd.int .i64) w A l.length l) (h:errOf l=0):Calls Try.prog 27 #[.slice A l.length c] w (CodesIs w (codesOf l) 0):=by
 obtain ⟨hlen,hokl,_⟩:=errOf_ok l h;have e1:newCs l=cnts l:=by unfold newCs;rw [if_pos h]
 have e2:newSs l=syms l:=by unfold newSs;rw [if_pos h]
 have hnew:=fun W (hc:Kd.C (Kd.int .i64) W A l.length l)=>new_calls A c l W hc;rw [e1,e2,h] at hnew;have HNEW:=Aside0.mk hnew;have HOK:=Aside0.mk hokl;have HR:=Aside0.mk hr;clear hr h e1 e2 hnew hokl;go_enter Try.func27,Try.ntmps27
 go_upto_region 4 with (first
  |(go_at_call 26;refine (HNEW.out _ HR.out).mono ?_;rintro e w1 ⟨v,rfl,hrv,hb⟩;have HV:=Aside0.mk hrv;have HB:=Aside0.mk hb;obtain ⟨va,vn,vc,rfl⟩:=R_form hrv;clear hrv hb)
  |(refine wpList_store_row rfl 26 _ _ rfl w1.heap.size (tab (cnts l) (.slice va vn vc)) rfl rfl 26 (tab zero16 (.slice none 0 0)) (heap_alloc_new _ _) (by rw [tab_size,cnts_length];exact info26) (by rw [tab_size,tab_size,cnts_length];rfl) (tab_one _ _ _ _) ?_;rw [World.setRow_alloc_new]))
 obtain ⟨rfl,hvn,hread⟩:=Kd.R_reads' HV.out;have HRD:=Aside0.mk (Kd.C_alloc hread (.cells (tab (cnts l) (.slice va (syms l).length vc)) 26));have HBK:=Aside0.mk (blk_new w1 (.cells (tab (cnts l) (.slice va (syms l).length vc)) 26));have HB2:=Aside0.mk (below_alloc HB.out (.cells (tab (cnts l) (.slice va (syms l).length vc)) 26));have g4e:∃ g4,g4=w1.heap.size:=⟨_,rfl⟩;obtain ⟨g4,hg4⟩:=g4e;rw [← hg4] at HBK ⊢;clear hg4 hread hvn HV HB;generalize w1.alloc (.cells (tab (cnts l) (.slice va (syms l).length vc)) 26)=w2 at HRD HBK HB2 ⊢;go_wp2_with (((with_reducible refine gate_dst (N:=20) rfl ?_);refine Kd.R_make (Kd.int .i64) (w0:=w2) w2.heap.size 3 rfl (N:=20) rfl 22 _ _ rfl (l.length:Int) rfl rfl Try.underlying22 (.int .i64 0) 8 info3 rfl (by decide) (by omega) 0 (ok:=fun _=>True) (okp:=fun _=>True) rfl (fun _ hk=>hk) trivial (Int.natCast_nonneg _) (by rw [Int.toNat_natCast];omega) (Below.refl _ _) (Nat.le_refl _) ?_;intro v3 w3 ho3 hb3 hg3 hn3;have HO:=Aside0.mk (Laying.mk ho3 hb3);clear ho3 hb3 hg3 hn3))
 go_loopw [7,8,9] (fun v7 v8 v9 w'=>∃ m:Nat,m≤15∧v7=.int .i64 (firstC l m+cz l m)∧v8=.int .i64 ((symsN l m).length:Nat)∧v9=.int .i64 ((m:Int)+1)∧Aside0 (Laying w2 v3 (codesN l (m+1) 0) w')) (fun _ _ v9 _=>17 - (intOf v9).toNat)
 case atStart =>
  refine ⟨0,by decide,by rw [cz0];rfl,rfl,rfl,?_⟩;rw [codesN_start];exact HO
 clear HO HNEW;obtain ⟨m,hm,rfl,rfl,rfl,HO⟩:=hrel;by_cases hlt:m < 15;rotate_left
 ·obtain rfl:m=15:=by omega
  have hdec:decide (((15:Nat):Int)+1≤15)=false:=by decide
  go_wp2;go_ret2;refine ⟨_,rfl,?_,?_⟩
  ·have:=HO.out.r;rw [codesN_all l HOK.out] at this;exact Kd.R_lower this (below_size HB2.out)
  ·exact below_then HB2.out (below_size HB2.out) HO.out.b
 have hdec:decide ((m:Int)+1≤15)=true:=decide_eq_true (by omega);have hF:=firstC_le l hlen (m+1) (by omega);have hF0:=firstC_le l hlen m (by omega);have hcm:=cz_rng l m;have hcn:=cz_rng l (m+1);have hFe:firstC l (m+1)=2*(firstC l m+cz l m):=rfl;have hx:∃ x,x=firstC l m+cz l m:=⟨_,rfl⟩;obtain ⟨x,ex⟩:=hx;rw [← ex] at hFe ⊢;have hx0:0≤x∧x≤20971520:=by omega
 clear ex hF0 hcm
 have hcell:wr.cell? ⟨g4,m+1,none⟩=some (.int .i64 (cz l (m+1))):=by
  rw [blk_cell (blk_below HBK.out HO.out.b),tab_get _ _ _ (by rw [cnts_length];omega)];rfl
 have HIC:=Aside0.mk (idxN_cz l (m+1) (by omega) (by omega));generalize eF:firstC l (m+1)=F at hFe hF;have EF:=Aside0.mk eF;have HFE:=Aside0.mk hFe;clear hFe eF;generalize eC:cz l (m+1)=C at hcell hcn HIC;have EC:=Aside0.mk eC;clear eC
 have hml:(symsN l m).length≤4800:=by
  have h1:=symsN_length l m;have h2:m*l.length≤15*320:=Nat.mul_le_mul (by omega) hlen;omega
 go_wp2;obtain ⟨wo,rfl⟩:∃ wo:World,wo=wr:=⟨_,rfl⟩
 go_loopw [7,8,31] (fun v7 v8 v31 w'=>∃ j:Nat,(j:Int)≤C∧v7=.int .i64 (F+j)∧v8=.int .i64 ((symsN l m).length+j:Nat)∧v31=.int .i64 j∧Aside0 (Laying w2 v3 (codesN l (m+1) j) w')) (fun _ _ v31 _=>C.toNat - (intOf v31).toNat)
 case atStart=>exact ⟨0,by simpa using hcn.1,by rw [HFE.out,Int.mul_comm];simp,rfl,rfl,HO⟩
 clear HO;obtain ⟨j,hj,rfl,rfl,rfl,HO⟩:=hrel;by_cases hjc:(j:Int) < C;rotate_left
 ·have hjC:(j:Int)=C:=by omega
  have HJC:=Aside0.mk hjC;clear hjc;have hjd:decide ((j:Int) < C)=false:=decide_eq_false (by omega);clear hjC;go_wp2
  go_roundw
  case rel =>
   (have hj1:j=(idxN l (m+1) l.length).length:=by have:=HIC.out;have:=HJC.out;omega);refine ⟨m+1,by omega,?_,?_,by go_num,?_⟩
   ·rw [EF.out,EC.out,HJC.out]
   ·simp only [symsN,List.length_append];rw [← hj1]
   ·have:=codesN_end l (m+1) (by omega);rw [← hj1] at this;rw [← this];exact HO
  case measure=>simp [intOf];omega
 have hji:j < (idxN l (m+1) l.length).length:=by have:=HIC.out;omega
 have hsy:=syms_at l m j 15 (by omega) hji;have hgx:(idxN l (m+1) l.length)[j]?=some ((idxN l (m+1) l.length)[j]):=List.getElem?_eq_getElem hji;obtain ⟨i,ei,hi,hi2,hi3⟩:=idxN_at l (m+1) _ _ _ hgx;rw [ei] at hgx;have hstep:=codesN_step l (m+1) j i (by omega) hgx;rw [EF.out] at hstep;rw [hgx] at hsy;have HST:=Aside0.mk hstep.1;have hlt2:=(List.getElem?_eq_some_iff.1 hsy).1
 have hrd:rd (syms l) (((symsN l m).length+j:Nat):Int)=i:=by
  rw [rd_nat,List.getD_eq_getElem?_getD];show ((symsN l 15)[(symsN l m).length+j]?).getD 0=i;rw [hsy];rfl
 obtain ⟨ad,ead,hx⟩:=Kd.at_int (Kd.C_below HRD.out HO.out.b) (((symsN l m).length+j:Nat):Int) (Int.natCast_nonneg _) (by unfold syms;omega);rw [hrd,Int.toNat_natCast] at hx;have hsl:(symsN l m).length+j < (syms l).length:=hlt2;obtain ⟨go,co,ev,gb,gl,cl,HG⟩:=Kd.R_form HO.out.r (by rw [codesN_length];omega);rw [codesN_length] at ev;subst ev;subst ead;have hbk:=blk_below HBK.out HO.out.b;have hc16:wr.cell? ⟨g4,16,none⟩=some (.slice (some ad) (syms l).length vc):=(show Tb (cnts l) (.slice (some ad) (syms l).length vc) g4 wr from hbk).cell16;obtain ⟨hxc,hxf⟩:=Kd.R_celln 0 HO.out.r (i:Int) (Int.natCast_nonneg _) (by omega);have hput:=Kd.R_putg HO.out.r (i:Int) (F+j);rw [Int.toNat_natCast] at hxc hxf hput;have HPUT:=Aside0.mk hput.1;clear hput hsy hgx hstep hrd ei hi2 hi3 cl HG gl hbk;go_wp2
 go_roundw
 case rel =>
  refine ⟨j+1,by omega,by congr 1;omega,by congr 1,by go_num,?_⟩;exact ⟨⟨by have:=HPUT.out;rw [HST.out] at this;exact this,below_set HO.out.b gb⟩⟩
 case measure=>simp [intOf];omega
theorem codes_calls (A : Option Addr) (c : Nat) (l : List Int) (w : World) (hr : Kd.C (Kd.int .i64) w A l.length l) :
  Calls Try.prog 27 #[.slice A l.length c] w (CodesIs w (if errOf l=0 then codesOf l else []) (errOf l)):=by
 by_cases h:errOf l=0
 ·rw [if_pos h,h];exact codes_main A c l w hr h
 ·rw [if_neg h];exact codes_err A c l w hr h
end Go.Proofs.Ytpbhkdamkbopkaa.Ext
namespace Go.Proofs.Ytpbhkdamkbopkaa.Ext
set_option linter.unusedSimpArgs false
set_option linter.unusedVariables false
open Go.RowKit Go.Proofs.YtpbhkdamkbopkaaW.PrintWords Go.Proofs.YtpbhkdamkbopkaaW.PrintLast Go.Proofs.YtpbhkdamkbopkaaW.PrintMore
section
variable {P:Program} {ops:Array Oper} {rest:List Oper} {o o2:Oper} {a:Act} {Q:Exit → Act → World → Prop}
theorem gate_load {W:World} {t:TypeId} {x:Operand} (_ho:o.op=.load t x) (h:wpList P ops Q (o :: rest) a W):wpList P ops Q (o :: rest) a W:=h
end
end Go.Proofs.Ytpbhkdamkbopkaa.Ext
set_option linter.unusedSimpArgs false
set_option linter.unusedVariables false
namespace Go.Proofs.Ytpbhkdamkbopkaa.Stage
open Go.RowKit Go.Proofs.Ytpbhkdamkbopkaa.Ext Go.Proofs.YtpbhkdamkbopkaaW.PrintWords Go.Proofs.YtpbhkdamkbopkaaW.PrintLast Go.Proofs.YtpbhkdamkbopkaaW.PrintMore
def stageOf (l:List Int) (s:ByteArray) (pos:Int) (n:Nat):Option (Int × Int × Int) :=
 if Vn s pos n < Gn l n then some ((idxN l n l.length).getD (Vn s pos n - firstC l n).toNat 0,pos+n,0)
 else if Sn l n=(syms l).length then some (0,0,4)
 else nxt (cnts l) (syms l) s (15 - n) (pos+n) (Vn s pos n) (Gn l n) (Sn l n)
theorem stage_step (l : List Int) (hl : l.length ≤ 320) (s : ByteArray) (hs : s.size ≤ 140737488351232) (pos : Int) (h0 : 0 ≤ pos) (hp : pos ≤ 4611686018427387904) (n : Nat) (hn : n ≤ 14) (hV : Gn l n ≤ Vn s pos n) (hS : Sn l n ≠ (syms l).length) :
  stageOf l s pos n=if pos+n < 8*s.size then stageOf l s pos (n+1) else some (0,0,2):=by
 unfold stageOf;rw [if_neg (Int.not_lt.2 hV),if_neg hS,show 15 - n=(15 - (n+1))+1 by omega,nxt_step l hl s hs pos h0 hp n (15 - (n+1)) (by omega) hV]
theorem nextOf_good (l:List Int) (he:errOf l=0) (s:ByteArray) (pos:Int) (h0:0≤pos):nextOf (newCs l) (newSs l) s pos=if (syms l).length=0 then some (0,0,4) else nxt (cnts l) (syms l) s 15 pos 0 0 0:=by
 obtain ⟨hl,_,_⟩:=errOf_ok l he;unfold nextOf newCs newSs;rw [if_pos he,if_pos he,if_neg (by omega)];by_cases ht:(syms l).length=0
 ·rw [if_pos ht,if_pos ht]
 rw [if_neg ht,if_neg ht,if_pos];refine ⟨cnts_length l,?_,fun x hx=>?_⟩
 ·have:=symsN_length l 15;have h2:15*l.length≤15*320:=Nat.mul_le_mul_left _ hl;unfold syms;omega
 ·obtain ⟨i,hi,rfl⟩:=List.getElem_of_mem hx;have:=cnts_rng l i;rw [List.getD_eq_getElem?_getD,List.getElem?_eq_getElem hi,Option.getD_some] at this;omega
theorem ok_at (l:List Int) (h:okL l=true) (i:Nat) (hi:i < l.length):∃ n:Nat,l.getD i 0=n∧n≤15:=by
 obtain ⟨n,e,hn⟩:=good_is l i ((ok_is l).2 h i hi);exact ⟨n,by rw [← rd_nat];exact e,by omega⟩
theorem codesOf_length (l:List Int):(codesOf l).length=l.length:=by simp [codesOf]
theorem codesOf_get (l:List Int) (i:Nat) (hi:i < l.length):(codesOf l)[i]?=some (if l.getD i 0≤0 then 0 else codeAt l i):=by simp [codesOf,hi]
end Go.Proofs.Ytpbhkdamkbopkaa.Stage
set_option linter.unusedSimpArgs false
set_option linter.unusedVariables false
namespace Go.Proofs.Ytpbhkdamkbopkaa.RefP
open Go.RowKit Go.Proofs.Ytpbhkdamkbopkaa.Ext Go.Proofs.Ytpbhkdamkbopkaa.PHuffBits Go.Proofs.YtpbhkdamkbopkaaW.PrintWords Go.Proofs.YtpbhkdamkbopkaaW.PrintLast Go.Proofs.YtpbhkdamkbopkaaW.PrintMore
theorem bit_is' (s : ByteArray) (hs : s.size ≤ 140737488351232) (p : Int) (h0 : 0 ≤ p) (hp : p ≤ 9223372036854775807) :
  huff_Bit.f s p=if p < 8*s.size then some (bitN s p,true) else some (0,false):=bit_is s hs p h0 hp
def Bn (s:ByteArray) (pos:Int):Nat → Int
 |0=>0
 |i+1=>Bn s pos i+2 ^ i*bitN s (pos+i)
theorem Bn_rng (s:ByteArray) (pos:Int) (n:Nat):0≤Bn s pos n∧Bn s pos n < 2 ^ n:=by
 induction n with
 |zero=>simp [Bn]
 |succ n ih =>
  have hb:=bitN_rng s (pos+n);have hp:(0:Int) < 2 ^ n:=Int.pow_pos (by decide);simp only [Bn];rw [Int.pow_succ]
  rcases (by omega:bitN s (pos+n)=0 ∨ bitN s (pos+n)=1) with h | h <;> rw [h] <;> omega
theorem pow_16 (n:Nat) (h:n≤16):(1:Int)≤2 ^ n∧(2:Int) ^ n≤65536:=by
 have h1:2 ^ n≤2 ^ 16:=Nat.pow_le_pow_right (by decide) h;have h2:1≤2 ^ n:=Nat.one_le_two_pow;have e:((2 ^ n:Nat):Int)=(2:Int) ^ n:=by rw [Int.natCast_pow];rfl
 rw [← e];omega
def bitsOf (s:ByteArray) (pos n:Int):Int × Int × Int :=
 if pos < 0 ∨ n < 0 ∨ 16 < n then (0,0,1) else if pos+n≤8*s.size then (Bn s pos n.toNat,pos+n,0) else (0,0,2)
theorem or_comm64 (x y:Int):Go.bits .or .i64 x y=Go.bits .or .i64 y x:=by unfold Go.bits;simp only;rw [BitVec.or_comm]
theorem or_shl (v b:Int) (i:Nat) (hi:i < 16) (hv0:0≤v) (hv:v < 2 ^ i) (hb0:0≤b) (hb:b≤1):Go.bits .or .i64 v (shl .i64 b i)=v+2 ^ i*b:=by
 have hpw:=pow_16 i (by omega);have hm0:0≤b*2 ^ i:=Int.mul_nonneg hb0 (by omega);have hm1:b*2 ^ i≤1*65536:=Int.mul_le_mul hb hpw.2 (by omega) (by omega)
 have e:shl .i64 b i=b*2 ^ i:=by
  unfold shl;rw [Int.toNat_natCast,Nat.min_eq_left (by show i≤64;omega),IntKind.wrap_i64];omega
 rw [e,or_comm64];have hw:∀ n:Int,0≤n → n < 2 ^ 40 → IntKind.i64.wrap n=n:=fun n h₀ h₁=>by rw [IntKind.wrap_i64];omega
 rw [Go.bits_join .i64 40 (by decide) hw i (b*2 ^ i) v hm0 (Int.mul_emod_left _ _) (by omega) hv0 hv (by omega),Int.mul_comm b];omega
theorem bits_l (s : ByteArray) (hs : s.size ≤ 140737488351232) (pos : Int) (h0 : 0 ≤ pos) (n : Nat) (hn : n ≤ 16) (hb : pos + n ≤ 8 * s.size) (d : Nat) : ∀ (i : Nat), i + d = n →
  Ev (fun k=>huff_Bits.l0 k s pos n (Bn s pos i) n i) (Bn s pos n,pos+n,0):=by
 induction d with
 |zero =>
  intro i hi;obtain rfl:i=n:=by omega
  refine Ev.step (f:=fun _=>some (Bn s pos i,pos+i,0)) (fun k=>?_) (Ev.now _);simp only [huff_Bits.l0];rw [if_neg (by omega),wrap_in (n:=pos+i) (by omega) (by omega)]
 |succ d ih =>
  intro i hi;obtain ⟨K,h⟩:=ih (i+1) (by omega)
  dsimp only at h
  have hbr:=bitN_rng s (pos+i);have hBr:=Bn_rng s pos i;have hwp:wrap64 (pos+i)=pos+i:=wrap_in (by omega) (by omega);have e3:wrap64 ((i:Int)+1)=((i+1:Nat):Int):=by rw [wrap_in (by omega) (by omega)];rfl
  have e1:Bn s pos (i+1)=Bn s pos i+2 ^ i*bitN s (pos+i):=rfl;have hin:(i:Int) < n:=by omega
  have hbt:=bit_is' s hs (pos+i) (by omega) (by omega);rw [if_pos (by omega)] at hbt;refine ⟨K+1,fun k hk=>?_⟩;obtain ⟨k,rfl⟩:∃ m,k=m+1:=⟨k - 1,by omega⟩;simp only [huff_Bits.l0];rw [if_pos hin,hwp,hbt];simp only [Option.bind_some];rw [if_pos (Int.natCast_nonneg _),or_shl _ _ i (by omega) hBr.1 hBr.2 hbr.1 hbr.2,e3,← e1];exact h k (by omega)
theorem bits_is (s:ByteArray) (hs:s.size≤140737488351232) (pos n:Int) (hp:pos≤9223372036854775807):Ev (fun k=>huff_Bits.f k s pos n) (bitsOf s pos n):=by
 have herr:Ev (fun k=>huff_Bits.j0 k s pos n true) (0,0,1):=Ev.step (fun k=>by simp only [huff_Bits.j0];rw [if_pos trivial]) (Ev.now _);unfold bitsOf;by_cases h0:pos < 0
 ·rw [if_pos (.inl h0)];exact Ev.congr (fun k=>by unfold huff_Bits.f;rw [if_pos h0]) herr
 by_cases h1:n < 0
 ·rw [if_pos (.inr (.inl h1))];exact Ev.congr (fun k=>by unfold huff_Bits.f;rw [if_neg h0,if_pos h1]) herr
 by_cases h2:n > 16
 ·rw [if_pos (.inr (.inr h2))];exact Ev.congr (fun k=>by unfold huff_Bits.f;rw [if_neg h0,if_neg h1,decide_eq_true h2]) herr
 rw [if_neg (by omega)];have e8:wrap64 (8*(s.size:Int))=8*s.size:=wrap_in (by omega) (by omega);have e9:wrap64 (8*(s.size:Int) - n)=8*s.size - n:=wrap_in (by omega) (by omega);obtain ⟨m,rfl⟩:∃ m:Nat,n=m:=⟨n.toNat,by omega⟩;rw [Int.toNat_natCast];by_cases hb:pos+m≤8*s.size;rotate_left
 ·rw [if_neg hb];refine ⟨1,fun k hk=>?_⟩;obtain ⟨k,rfl⟩:∃ q,k=q+1:=⟨k - 1,by omega⟩
  dsimp only
  unfold huff_Bits.f;rw [if_neg h0,if_neg h1,decide_eq_false h2];simp only [huff_Bits.j0];rw [if_neg (by simp),e8,e9,if_pos (by omega)]
 rw [if_pos hb];obtain ⟨K,h⟩:=bits_l s hs pos (by omega) m (by omega) hb m 0 (by omega)
 dsimp only at h
 refine ⟨K+1,fun k hk=>?_⟩;obtain ⟨k,rfl⟩:∃ q,k=q+1:=⟨k - 1,by omega⟩
 dsimp only
 unfold huff_Bits.f;rw [if_neg h0,if_neg h1,decide_eq_false h2];simp only [huff_Bits.j0];rw [if_neg (by simp),e8,e9,if_neg (by omega)];exact h k (by omega)
end Go.Proofs.Ytpbhkdamkbopkaa.RefP
namespace Go.Proofs.Ytpbhkdamkbopkaa.Inf
set_option linter.unusedSimpArgs false
set_option linter.unusedVariables false
open Go.RowKit Go.Proofs.Ytpbhkdamkbopkaa.Ext Go.Proofs.Ytpbhkdamkbopkaa.RefP Go.Proofs.YtpbhkdamkbopkaaW.PrintWords Go.Proofs.YtpbhkdamkbopkaaW.PrintLast Go.Proofs.YtpbhkdamkbopkaaW.PrintMore
/-- A reader: the next bit,what was told,the error. -/
structure St where
 p:Int
 o:List Int
 e:Int
def fail (x:St) (e:Int):St:=if x.e=0 then ⟨x.p,x.o,e⟩ else x
/-- What a number or a symbol makes of a reader. -/
def tak (x:St) (r:Int × Int × Int):Int × St:=if x.e=0 then (if r.2.2=0 then (r.1,⟨r.2.1,x.o,x.e⟩) else (0,⟨x.p,x.o,r.2.2⟩)) else (0,x)
def nextL (l:List Int) (s:ByteArray) (p:Int):Int × Int × Int:=(nextOf (newCs l) (newSs l) s p).getD (0,0,0)
def bits (s:ByteArray) (n:Int) (x:St):Int × St:=tak x (bitsOf s x.p n)
def next (l:List Int) (s:ByteArray) (x:St):Int × St:=tak x (nextL l s x.p)
def table (l:List Int) (x:St):St:=fail x (errOf l)
/-- The bytes from a place on. -/
def cut (s:ByteArray) (at_ n:Nat):List Int:=(List.range n).map fun i=>bt s ((at_+i:Nat):Int)
def stored (s:ByteArray) (mx:Int) (x:St):St :=
 let a:=bits s 16 ⟨(x.p+7) / 8*8,x.o,x.e⟩
 let b:=bits s 16 a.2
 if b.2.e=0 then
  (if Go.bits .xor .i64 a.1 b.1=65535 then
   (if (b.2.o.length:Int)+a.1≤mx then
    (if a.1≤s.size - b.2.p / 8 then ⟨b.2.p+8*a.1,b.2.o ++ cut s (b.2.p / 8).toNat a.1.toNat,b.2.e⟩ else fail b.2 2)
   else fail b.2 7)
  else fail b.2 3)
 else b.2
def lengthen (s:ByteArray) (l:List Int) (y:Int) (x:St):List Int × St :=
 if x.e=0 then
  (if y=16 then (if l.length=0 then (l,fail x 3) else (l ++ List.replicate (3+(bits s 2 x).1).toNat (l.getD (l.length - 1) 0),(bits s 2 x).2))
  else if y=17 then (l ++ List.replicate (3+(bits s 3 x).1).toNat 0,(bits s 3 x).2)
  else if y=18 then (l ++ List.replicate (11+(bits s 7 x).1).toNat 0,(bits s 7 x).2)
  else (l ++ [y],x))
 else (l,x)
/-- The lengths of a code of lengths: the order's places,one by one. -/
def owns (s:ByteArray):List Nat → List Int → St → List Int × St
 |[],own,x=>(own,x)
 |i :: t,own,x=>owns s t (own.set i (bits s 3 x).1) (bits s 3 x).2
def order:List Nat:=[16,17,18,0,8,7,9,6,10,5,11,4,12,3,13,2,14,1,15]
/-- Lengths,until there are so many. -/
def many (s:ByteArray) (own:List Int) (all:Int):Nat → List Int → St → List Int × St
 |0,l,x=>(l,x)
 |k+1,l,x=>if (l.length:Int) < all then (if x.e=0 then many s own all k (lengthen s l (next own s x).1 (next own s x).2).1 (lengthen s l (next own s x).1 (next own s x).2).2 else (l,x)) else (l,x)
/-- How many rounds at most. -/
def left (s:ByteArray) (x:St):Nat:=(8*(s.size:Int)+1 - x.p).toNat+1
def lengths (s:ByteArray) (x:St):List Int × List Int × St :=
 let a:=bits s 5 x
 let b:=bits s 5 a.2
 let c:=bits s 4 b.2
 let x1:=if c.2.e=0∧(a.1+257 > 286 ∨ b.1+1 > 30) then fail c.2 3 else c.2
 let w:=owns s (order.take (c.1+4).toNat) (List.replicate 19 0) x1
 let x2:=table w.1 w.2
 let z:=many s w.1 (a.1+257+(b.1+1)) (left s x2) [] x2
 if z.2.e=0 then
  (if (z.1.length:Int) > a.1+257+(b.1+1) ∨ z.1.getD 256 0=0 then ([],[],fail z.2 3) else (z.1.take (a.1+257).toNat,z.1.drop (a.1+257).toNat,z.2))
 else ([],[],z.2)
def lenB:List Int:=[3,4,5,6,7,8,9,10,11,13,15,17,19,23,27,31,35,43,51,59,67,83,99,115,131,163,195,227,258]
def lenM:List Int:=[0,0,0,0,0,0,0,0,1,1,1,1,2,2,2,2,3,3,3,3,4,4,4,4,5,5,5,5,0]
def disB:List Int:=[1,2,3,4,5,7,9,13,17,25,33,49,65,97,129,193,257,385,513,769,1025,1537,2049,3073,4097,6145,8193,12289,16385,24577]
def disM:List Int:=[0,0,0,0,1,1,2,2,3,3,4,4,5,5,6,6,7,7,8,8,9,9,10,10,11,11,12,12,13,13]
/-- n bytes again,from d back. -/
def again (o:List Int) (d:Nat):Nat → List Int
 |0=>o
 |n+1=>again o d n ++ [(again o d n).getD ((again o d n).length - d) 0]
/-- A run's step: the length n,the distance d. -/
def copy (mx:Int) (x:St) (n d:Int):St:=if d≤x.o.length then (if (x.o.length:Int)+n≤mx then ⟨x.p,again x.o d.toNat n.toNat,x.e⟩ else fail x 7) else fail x 3
/-- What a symbol of a run says. -/
def far (s:ByteArray) (mx:Int) (lb:List Int) (x:St) (y:Int):St :=
 let m:=bits s (lenM.getD (y - 257).toNat 0) x
 let d:=next lb s m.2
 let x1:=if d.2.e=0∧d.1 ≥ 30 then fail d.2 3 else d.2
 if x1.e=0 then
  (let q:=bits s (disM.getD d.1.toNat 0) x1
  if q.2.e=0 then copy mx q.2 (lenB.getD (y - 257).toNat 0+m.1) (disB.getD d.1.toNat 0+q.1) else q.2)
 else x1
/-- A symbol's step: does it end? -/
def one (s:ByteArray) (mx:Int) (la lb:List Int) (x:St):Bool × St :=
 let a:=next la s x
 if a.2.e ≠ 0 ∨ a.1=256 then (true,a.2)
 else if a.1 < 256 then (if (a.2.o.length:Int)=mx then (true,fail a.2 7) else (false,⟨a.2.p,a.2.o ++ [a.1 % 256],a.2.e⟩))
 else if a.1 ≥ 286 then (true,fail a.2 3)
 else (false,far s mx lb a.2 a.1)
def codes (s:ByteArray) (mx:Int) (la lb:List Int):Nat → St → St
 |0,x=>x
 |k+1,x=>if x.e=0 then (if (one s mx la lb x).1=true then (one s mx la lb x).2 else codes s mx la lb k (one s mx la lb x).2) else x
def plainA:List Int:=(List.range 288).map fun i=>if i < 144 then 8 else if i < 256 then 9 else if i < 280 then 7 else 8
def plainB:List Int:=List.replicate 32 5
/-- Two tables,and the symbols by them. -/
def both (s:ByteArray) (mx:Int) (la lb:List Int) (x:St):St:=codes s mx la lb (left s x) (table lb (table la x))
def block (s:ByteArray) (mx:Int) (x:St):Bool × St :=
 let a:=bits s 1 x
 let b:=bits s 2 a.2
 (decide (a.1=1),
  if b.1=0 then (if b.2.e=0 then stored s mx b.2 else b.2)
  else if b.1=1 then both s mx plainA plainB b.2
  else if b.1=2 then both s mx (lengths s b.2).1 (lengths s b.2).2.1 (lengths s b.2).2.2
  else fail b.2 3)
def blocks (s:ByteArray) (mx:Int):Nat → St → St
 |0,x=>x
 |k+1,x=>if (block s mx x).1=true then (block s mx x).2 else if (block s mx x).2.e=0 then blocks s mx k (block s mx x).2 else (block s mx x).2
def raw (s:ByteArray) (mx:Int):ByteArray × Int × Int :=
 if mx < 0 ∨ mx > 262144 then (⟨#[]⟩,0,1)
 else
  let x:=blocks s mx (8*s.size+2) ⟨0,[],0⟩
  if x.e=0 then (strOfNums x.o,(x.p+7) / 8,0) else (⟨#[]⟩,0,x.e)
end Go.Proofs.Ytpbhkdamkbopkaa.Inf
namespace Go.Proofs.Ytpbhkdamkbopkaa.Inf
set_option linter.unusedSimpArgs false
set_option linter.unusedVariables false
open Go.RowKit Go.Proofs.Ytpbhkdamkbopkaa.Ext Go.Proofs.Ytpbhkdamkbopkaa.RefP Go.Proofs.Ytpbhkdamkbopkaa.Stage Go.Proofs.YtpbhkdamkbopkaaW.PrintWords Go.Proofs.YtpbhkdamkbopkaaW.PrintLast Go.Proofs.YtpbhkdamkbopkaaW.PrintMore
/-- What an answer says: a symbol and a place further on,or an error. -/
def Good (s:ByteArray) (p:Int) (lo hi:Int) (r:Int × Int × Int):Prop:=r.2.2=0∧0≤r.1∧r.1 < hi∧p+lo≤r.2.1∧r.2.1≤p+16∧r.2.1≤8*s.size ∨ r=(0,0,2) ∨ r=(0,0,4)
theorem stage_good (l : List Int) (hl : l.length ≤ 320) (s : ByteArray) (hs : s.size ≤ 140737488351232) (pos : Int) (h0 : 0 ≤ pos) (hp : pos ≤ 4611686018427387904) (d : Nat) : ∀ n : Nat, n + d = 15 → firstC l n ≤ Vn s pos n → (n = 0 ∨ pos + n ≤ 8 * s.size) →
  ∃ r,stageOf l s pos n=some r∧Good s pos 1 l.length r:=by
 induction d with
 |zero =>
  intro n hn hV hb;obtain rfl:n=15:=by omega
  unfold stageOf;by_cases c:Vn s pos 15 < Gn l 15;rotate_left
  ·rw [if_neg c,if_pos (show Sn l 15=(syms l).length from rfl)];exact ⟨_,rfl,.inr (.inr rfl)⟩
  rw [if_pos c];obtain ⟨i,e,hi,_⟩:=symbol_is l 15 (by decide) (by decide) _ hV c;refine ⟨_,rfl,.inl ⟨rfl,?_,?_,?_,?_,?_⟩⟩
  ·rw [e];omega
  ·rw [e];omega
  ·show pos+1≤pos+((15:Nat):Int);omega
  ·show pos+((15:Nat):Int)≤pos+16;omega
  ·show pos+((15:Nat):Int)≤8*s.size;omega
 |succ d ih =>
  intro n hn hV hb;by_cases c:Vn s pos n < Gn l n
  ·have hn1 : 1 ≤ n := by
    rcases Nat.eq_zero_or_pos n with h | h
    ·subst h;rw [Gn_zero] at c;exact absurd c (by show ¬ (0:Int) < 0;decide)
    ·exact h
   unfold stageOf;rw [if_pos c];obtain ⟨i,e,hi,_⟩:=symbol_is l n hn1 (by omega) _ hV c;refine ⟨_,rfl,.inl ⟨rfl,?_,?_,?_,?_,?_⟩⟩
   ·rw [e];omega
   ·rw [e];omega
   ·show pos+1≤pos+(n:Int);omega
   ·show pos+(n:Int)≤pos+16;omega
   ·show pos+(n:Int)≤8*s.size;omega
  by_cases c2:Sn l n=(syms l).length
  ·unfold stageOf;rw [if_neg c,if_pos c2];exact ⟨_,rfl,.inr (.inr rfl)⟩
  rw [stage_step l hl s hs pos h0 hp n (by omega) (by omega) c2];by_cases c3:pos+n < 8*s.size
  ·rw [if_pos c3];refine ih (n+1) (by omega) ?_ (.inr (by omega));have hV1:Vn s pos (n+1)=2*Vn s pos n+bitN s (pos+n):=rfl;have hbr:=bitN_rng s (pos+n);rw [firstC_succ,hV1];omega
  ·rw [if_neg c3];exact ⟨_,rfl,.inr (.inl rfl)⟩
theorem next_some (l : List Int) (he : errOf l = 0) (s : ByteArray) (hs : s.size ≤ 140737488351232) (pos : Int) (h0 : 0 ≤ pos) (hp : pos ≤ 4611686018427387904) :
  nextOf (newCs l) (newSs l) s pos=some (nextL l s pos)∧Good s pos 1 l.length (nextL l s pos):=by
 obtain ⟨hl,_,_⟩:=errOf_ok l he;obtain ⟨r,h1,h2⟩:=stage_good l hl s hs pos h0 hp 15 0 rfl (by show (0:Int)≤0;decide) (.inl rfl)
 have e:nextOf (newCs l) (newSs l) s pos=some r ∨ (nextOf (newCs l) (newSs l) s pos=some (0,0,4)):=by
  rw [nextOf_good l he s pos h0];by_cases ht:(syms l).length=0
  ·rw [if_pos ht];exact .inr rfl
  rw [if_neg ht];refine .inl ?_;rw [← h1];have e0:Sn l 0=0:=rfl;have eV:¬ Vn s pos 0 < Gn l 0:=by rw [Gn_zero];exact Int.lt_irrefl 0
  unfold stageOf;rw [if_neg eV,e0,Gn_zero,if_neg (by omega),show pos+((0:Nat):Int)=pos by omega];rfl
 unfold nextL
 rcases e with e | e
 ·rw [e];exact ⟨rfl,h2⟩
 ·rw [e];exact ⟨rfl,.inr (.inr rfl)⟩
theorem bits_some (s:ByteArray) (pos:Int) (n:Nat) (h0:0≤pos) (hn:n≤16):Good s pos n (2 ^ n) (bitsOf s pos n):=by
 unfold bitsOf;rw [if_neg (by omega)];by_cases h:pos+n≤8*s.size
 ·rw [if_pos h,Int.toNat_natCast];have:=Bn_rng s pos n;exact .inl ⟨rfl,this.1,this.2,Int.le_refl _,by show pos+(n:Int)≤pos+16;omega,h⟩
 ·rw [if_neg h];exact .inr (.inl rfl)
/-- A state whose place is one. -/
structure Ok (s:ByteArray) (x:St):Prop where
 p0:0≤x.p
 p1:x.p≤8*s.size
 e:x.e=0 ∨ x.e=1 ∨ x.e=2 ∨ x.e=3 ∨ x.e=4 ∨ x.e=7
theorem fail_ok {s:ByteArray} {x:St} (h:Ok s x) {e:Int} (he:e=0 ∨ e=1 ∨ e=2 ∨ e=3 ∨ e=4 ∨ e=7):Ok s (fail x e):=by
 unfold fail
 split
 ·exact ⟨h.p0,h.p1,he⟩
 ·exact h
theorem tak_ok {s:ByteArray} {x:St} {lo hi:Int} {r:Int × Int × Int} (hlo:0≤lo) (h:Ok s x) (hg:Good s x.p lo hi r):Ok s (tak x r).2:=by
 unfold tak;by_cases c:x.e=0
 ·rw [if_pos c]
  rcases hg with ⟨h1,h2,h3,h4,h5,h6⟩ | rfl | rfl
  ·rw [if_pos h1];exact ⟨by have:=h.p0;show 0≤r.2.1;omega,h6,h.e⟩
  ·exact ⟨h.p0,h.p1,.inr (.inr (.inl rfl))⟩
  ·exact ⟨h.p0,h.p1,.inr (.inr (.inr (.inr (.inl rfl))))⟩
 ·rw [if_neg c];exact h
/-- A number or a symbol that is taken is in its range;the place goes on. -/
theorem tak_get {s:ByteArray} {x:St} {lo hi:Int} {r:Int × Int × Int} (hhi:0 < hi) (hg:Good s x.p lo hi r):0≤(tak x r).1∧(tak x r).1 < hi∧(tak x r).2.o=x.o∧((tak x r).2.e=0 → x.e=0∧x.p+lo≤(tak x r).2.p∧(tak x r).2.p≤x.p+16)∧(x.e ≠ 0 → (tak x r).2=x):=by
 unfold tak;by_cases c:x.e=0
 ·rw [if_pos c]
  rcases hg with ⟨h1,h2,h3,h4,h5,h6⟩ | rfl | rfl
  ·rw [if_pos h1];exact ⟨h2,h3,rfl,fun _=>⟨c,h4,h5⟩,fun h=>absurd c h⟩
  ·exact ⟨Int.le_refl _,hhi,rfl,fun h=>absurd h (by show ¬ (2:Int)=0;decide),fun h=>absurd c h⟩
  ·exact ⟨Int.le_refl _,hhi,rfl,fun h=>absurd h (by show ¬ (4:Int)=0;decide),fun h=>absurd c h⟩
 ·rw [if_neg c];exact ⟨Int.le_refl _,hhi,rfl,fun h=>absurd h c,fun _=>rfl⟩
theorem errOf_rng (l:List Int):errOf l=0 ∨ errOf l=1 ∨ errOf l=4:=by
 unfold errOf
 (repeat' split) <;> first | exact .inl rfl | exact .inr (.inl rfl) | exact .inr (.inr rfl)
theorem table_ok {s:ByteArray} {x:St} (h:Ok s x) (l:List Int):Ok s (table l x):=fail_ok h (by rcases errOf_rng l with e | e | e <;> rw [e] <;> decide)
end Go.Proofs.Ytpbhkdamkbopkaa.Inf
namespace Go.Proofs.Ytpbhkdamkbopkaa.Inf
set_option linter.unusedSimpArgs false
set_option linter.unusedVariables false
open Go.RowKit Go.Proofs.Ytpbhkdamkbopkaa.Ext Go.Proofs.Ytpbhkdamkbopkaa.RefP Go.Proofs.YtpbhkdamkbopkaaW.PrintWords Go.Proofs.YtpbhkdamkbopkaaW.PrintLast Go.Proofs.YtpbhkdamkbopkaaW.PrintMore
open Go.Proofs.Ytpbhkdamkbopkaa.PHuffBits (huff_Bits.f huff_Bits.calls)
section
variable {P:Program} {ops:Array Oper} {C:World → Prop} {Q:Act → Prop} {o:Oper} {rest:List Oper} {a:Act} {v:Value}
/-- One step of a region whose operations leave a class of worlds alone. -/
theorem quiet_val (hw:Region.wanted o (yielded ops a.tmps)=true) (h1:∀ w,C w → o.quietAt P a C w v) (h2:wpQuiet P ops C Q rest (a.put o.dst v)):wpQuiet P ops C Q (o :: rest) a:=by
 unfold wpQuiet;rw [if_pos hw];exact ⟨v,h1,h2⟩
theorem quiet_ex (hw:Region.wanted o (yielded ops a.tmps)=true) (h:∃ v,(∀ w,C w → o.quietAt P a C w v)∧wpQuiet P ops C Q rest (a.put o.dst v)):wpQuiet P ops C Q (o :: rest) a:=by
 obtain ⟨v,h1,h2⟩:=h;exact quiet_val hw h1 h2
/-- .. that loads a struct whole. -/
theorem quiet_row (hw : Region.wanted o (yielded ops a.tmps) = true) (ty : TypeId) (x : Operand) (ho : o.op = .load ty x) (g : Nat) (hx : a.eval x = .pointer (some ⟨g, 0, none⟩)) (t : TypeId) (cs : Array Value) (fr : Nat × Nat) (d : TypeDesc) (hg : ∀ w, C w → w.heap[g]? = some (.cells cs t fr))
  (hu:P.underlying ty=some d) (hd:(match d with | .struct _ | .array _ _=>true | _=>false)=true) (hi:(P.info? ty).map (·.size)=some cs.size) (h2:wpQuiet P ops C Q rest (a.put o.dst (.agg cs))):wpQuiet P ops C Q (o :: rest) a:=by
 refine quiet_val hw (fun w hc=>?_) h2;unfold Oper.quietAt execOp;simp only [ho,hx,Instr.loadAt,Instr.sureAddr,Sem.run_bind,Sem.run_pure,Result.andThen_ok,run_loadVar_row w g t ty cs fr d (hg w hc) hu hd hi];exact ⟨rfl,rfl⟩
end
/-- A reader in memory: its block,its row of bytes. -/
structure ISt (w0:World) (g:Nat) (v:Value) (s:ByteArray) (mx:Int) (x:St) (w:World):Prop where
 blk:w.heap[g]?=some (.cells #[.string s,.int .i64 x.p,v,.int .i64 mx,.int .i64 x.e] 113 (0,0))
 row:Kd.R (Kd.int .u8) 5 w w0.heap.size (fun k=>k ≠ g) v x.o
 hg:w0.heap.size≤g
 bl:Below w0.heap.size w0 w
/-- What else is in memory stays. -/
structure Fro (w:World) (g:Nat) (v:Value) (w':World) (v':Value):Prop where
 keep:KeepBut w w' g v.ownBlock
 own:v'.ownBlock=v.ownBlock ∨ ∃ b,v'.ownBlock=some b∧w.heap.size≤b
theorem Fro.refl (w:World) (g:Nat) (v:Value):Fro w g v w v:=⟨KeepBut.refl _ _ _,.inl rfl⟩
theorem Fro.trans {w w1 w2:World} {g:Nat} {v v1 v2:Value} (h:Fro w g v w1 v1) (k:Fro w1 g v1 w2 v2):Fro w g v w2 v2 :=
 ⟨h.keep.trans k.keep h.own,by
  rcases k.own with e | ⟨b,e,hb⟩
  ·rw [e];exact h.own
  ·exact .inr ⟨b,e,Nat.le_trans h.keep.1 hb⟩⟩
theorem Fro.below {w w1 w2:World} {g:Nat} {v v1:Value} (h:Fro w g v w1 v1) (hb:Below w1.heap.size w1 w2):Fro w g v w2 v1 :=
 h.trans ⟨KeepBut.of_below hb _ _,.inl rfl⟩
theorem Fro.set {w w1:World} {g:Nat} {v v1:Value} (h:Fro w g v w1 v1) (j:Nat) (u:Value):Fro w g v (w1.setCell ⟨g,j,none⟩ u) v1 :=
 h.trans ⟨(KeepBut.refl _ _ _).set_ j u,.inl rfl⟩
section
variable {w0 w w':World} {g:Nat} {v v':Value} {s:ByteArray} {mx:Int} {x:St}
theorem ISt.below (h:ISt w0 g v s mx x w) (hb:Below w.heap.size w w'):ISt w0 g v s mx x w' :=
 ⟨blk_below h.blk hb,Kd.R_below h.row hb,h.hg,below_step h.bl hb⟩
theorem ISt.setp (h:ISt w0 g v s mx x w) (p:Int):ISt w0 g v s mx ⟨p,x.o,x.e⟩ (w.setCell ⟨g,1,none⟩ (.int .i64 p)) :=
 ⟨blk_put h.blk 1 _ rfl,Kd.R_far (p:=⟨g,1,none⟩) h.row (fun _ hk=>hk) _,h.hg,below_set h.bl h.hg⟩
theorem ISt.sete (h:ISt w0 g v s mx x w) (e:Int):ISt w0 g v s mx ⟨x.p,x.o,e⟩ (w.setCell ⟨g,4,none⟩ (.int .i64 e)) :=
 ⟨blk_put h.blk 4 _ rfl,Kd.R_far (p:=⟨g,4,none⟩) h.row (fun _ hk=>hk) _,h.hg,below_set h.bl h.hg⟩
theorem ISt.drew (h:ISt w0 g v s mx x w):ISt w0 g v s mx x w.drew:=h.below (below_drew1 (Below.refl _ _))
theorem Fro.drew {w1:World} (h:Fro w g v w1 v'):Fro w g v w1.drew v':=h.below (below_drew1 (Below.refl _ _))
theorem ISt.c0 (h:ISt w0 g v s mx x w):w.cell? ⟨g,0,none⟩=some (.string s):=(blk_cell h.blk 0).trans rfl
theorem ISt.c1 (h:ISt w0 g v s mx x w):w.cell? ⟨g,1,none⟩=some (.int .i64 x.p):=(blk_cell h.blk 1).trans rfl
theorem ISt.c2 (h:ISt w0 g v s mx x w):w.cell? ⟨g,2,none⟩=some v:=(blk_cell h.blk 2).trans rfl
theorem ISt.c3 (h:ISt w0 g v s mx x w):w.cell? ⟨g,3,none⟩=some (.int .i64 mx):=(blk_cell h.blk 3).trans rfl
theorem ISt.c4 (h:ISt w0 g v s mx x w):w.cell? ⟨g,4,none⟩=some (.int .i64 x.e):=(blk_cell h.blk 4).trans rfl
theorem ISt.f (h:ISt w0 g v s mx x w) (j:Nat):w.frozen? ⟨g,j,none⟩=false:=blk_frozen h.blk j
end
/-- What a method leaves. -/
def Post (w0:World) (g:Nat) (v:Value) (s:ByteArray) (mx:Int) (w:World) (r:Value) (y:St) (e:Ending) (w':World):Prop :=
 ∃ v1,e=.returned r∧ISt w0 g v1 s mx y w'∧Fro w g v w' v1
/-- A row that is read beside a reader. -/
def Foot (w:World) (g:Nat) (v:Value) (A:Option Addr) (l:List Int):Prop:=∀ W',KeepBut w W' g v.ownBlock → Kd.C (Kd.int .i64) W' A l.length l
theorem Foot.fro {w w':World} {g:Nat} {v v':Value} {A:Option Addr} {l:List Int} (h:Foot w g v A l) (k:Fro w g v w' v'):Foot w' g v' A l:=fun W' hk=>h W' (k.keep.trans hk k.own)
theorem Foot.now {w:World} {g:Nat} {v:Value} {A:Option Addr} {l:List Int} (h:Foot w g v A l):Kd.C (Kd.int .i64) w A l.length l:=h w (KeepBut.refl _ _ _)
theorem fail_calls (w0 : World) (g : Nat) (v : Value) (s : ByteArray) (mx : Int) (x : St) (er : Int) (w : World) (h : ISt w0 g v s mx x w) :
  Calls Try.prog 100 #[.pointer (some ⟨g,0,none⟩),.int .i64 er] w (Post w0 g v s mx w (.tuple #[]) (fail x er)):=by
 have HH:=Aside0.mk h;have hc:=h.c4;have hf:=h.f 4;clear h;by_cases c:x.e=0
 ·have hd:(x.e == 0)=true:=by rw [c];rfl
  go_enter Try.func100,Try.ntmps100;go_wp2;exact bodyPost_end (v:=.tuple #[]) (by simp [results,Try.results100,go_sem]) rfl ⟨v,rfl,by unfold fail;rw [if_pos c];exact HH.out.sete er,(Fro.refl _ _ _).set 4 _⟩
 ·have hd:(x.e == 0)=false:=beq_eq_false_iff_ne.2 c;go_enter Try.func100,Try.ntmps100;go_wp2;exact bodyPost_end (v:=.tuple #[]) (by simp [results,Try.results100,go_sem]) rfl ⟨v,rfl,by unfold fail;rw [if_neg c];exact HH.out,Fro.refl _ _ _⟩
theorem bits_calls (w0 : World) (g : Nat) (v : Value) (s : ByteArray) (mx : Int) (x : St) (n : Int) (w : World) (hs : s.size ≤ 140737488351232) (hp : x.p ≤ 9223372036854775807) (h : ISt w0 g v s mx x w) :
  Calls Try.prog 94 #[.pointer (some ⟨g,0,none⟩),.int .i64 n] w (Post w0 g v s mx w (.int .i64 (bits s n x).1) (bits s n x).2):=by
 have HH:=Aside0.mk h;have hc:=h.c4;have hc1:=h.c1;have hc0:=h.c0;clear h;unfold bits tak;by_cases c:x.e=0;rotate_left
 ·rw [if_neg c];have hd:(x.e != 0)=true:=by simpa using c
  go_enter Try.func94,Try.ntmps94;go_wp2;go_ret;exact ⟨v,rfl,HH.out,Fro.refl _ _ _⟩
 rw [if_pos c];have hd:(x.e != 0)=false:=by rw [c];rfl
 obtain ⟨K,hK⟩:=bits_is s hs x.p n hp;have hK:=hK K (Nat.le_refl _);generalize bitsOf s x.p n=r at hK ⊢;obtain ⟨r1,r2,r3⟩:=r
 dsimp only at hK ⊢
 have HK:=Aside0.mk hK;clear hK;by_cases c3:r3=0
 ·rw [if_pos c3];have hd3:(r3 != 0)=false:=by rw [c3];rfl
  go_enter Try.func94,Try.ntmps94;go_upto_region 3 with fail
  go_quiet (first | (go_at_call 32;(with_reducible refine (huff_Bits.calls K s x.p n r1 r2 r3 _ HK.out).mono ?_);rintro e w' ⟨rfl,⟨nd,rfl⟩⟩;(first | exact ⟨rfl,_,World.drewN_drewN _ _ _⟩ | exact ⟨rfl,_,Eq.trans (World.drewN_drewN _ _ _) (congrArg (World.drewN _) (Nat.add_assoc _ _ _))⟩)))
  generalize hw':World.drewN _ _=w';have HI:Aside0 (ISt w0 g v s mx x w'):=⟨by rw [← hw'];exact HH.out.below (pw_below_drewN (Below.refl _ _) _)⟩;have HF:Aside0 (Fro w g v w' v):=⟨by rw [← hw'];exact (Fro.refl _ _ _).below (pw_below_drewN (Below.refl _ _) _)⟩;clear hw';have hc1':=HI.out.c1;have hf1':=HI.out.f 1;go_wp2;exact bodyPost_ret (v:=.int .i64 r1) (by simp [results,Try.results94,go_sem]) rfl ⟨v,rfl,(by first | exact HI.out.setp r2 | (have h:=HI.out.setp r2;rw [c] at h;exact h)),HF.out.set 1 _⟩
 ·rw [if_neg c3];have hd3:(r3 != 0)=true:=by simpa using c3
  have hfe:fail x r3=⟨x.p,x.o,r3⟩:=by unfold fail;rw [if_pos c]
  go_enter Try.func94,Try.ntmps94;go_upto_region 3 with fail
  go_quiet (first | (go_at_call 32;(with_reducible refine (huff_Bits.calls K s x.p n r1 r2 r3 _ HK.out).mono ?_);rintro e w' ⟨rfl,⟨nd,rfl⟩⟩;(first | exact ⟨rfl,_,World.drewN_drewN _ _ _⟩ | exact ⟨rfl,_,Eq.trans (World.drewN_drewN _ _ _) (congrArg (World.drewN _) (Nat.add_assoc _ _ _))⟩)))
  generalize hw':World.drewN _ _=w';have HI:Aside0 (ISt w0 g v s mx x w'):=⟨by rw [← hw'];exact HH.out.below (pw_below_drewN (Below.refl _ _) _)⟩;have HF:Aside0 (Fro w g v w' v):=⟨by rw [← hw'];exact (Fro.refl _ _ _).below (pw_below_drewN (Below.refl _ _) _)⟩;clear hw';go_wp2_with (go_at_call 100;(with_reducible refine (fail_calls w0 g v s mx x r3 _ HI.out).mono ?_);rintro e w2 ⟨v1,rfl,hi,hf⟩;rw [hfe] at hi;have HI2:=Aside0.mk hi;have HF2:=Aside0.mk (HF.out.trans hf);clear hi hf)
  exact bodyPost_ret (v:=.int .i64 0) (by simp [results,Try.results94,go_sem]) rfl ⟨v1,rfl,HI2.out,HF2.out⟩
/-- A table as a value: its counts,and the row of its symbols,read beside a reader. -/
def Tv (w:World) (g:Nat) (v:Value) (tv:Value) (l:List Int) (P:Prop):Prop :=
 ∃ (cs ss:List Int) (A:Option Addr) (c:Nat),tv=.agg (tab cs (.slice A ss.length c))∧cs.length=16∧Foot w g v A ss∧(P → cs=newCs l∧ss=newSs l)
theorem Tv.fro {w w':World} {g:Nat} {v v':Value} {tv:Value} {l:List Int} {P:Prop} (h:Tv w g v tv l P) (k:Fro w g v w' v'):Tv w' g v' tv l P:=by
 obtain ⟨cs,ss,A,c,h1,h2,h3,h4⟩:=h;exact ⟨cs,ss,A,c,h1,h2,h3.fro k,h4⟩
theorem Tv.imp {w:World} {g:Nat} {v:Value} {tv:Value} {l:List Int} {P Q:Prop} (h:Tv w g v tv l P) (k:Q → P):Tv w g v tv l Q:=by
 obtain ⟨cs,ss,A,c,h1,h2,h3,h4⟩:=h;exact ⟨cs,ss,A,c,h1,h2,h3,fun q=>h4 (k q)⟩
set_option maxRecDepth 100000 in
set_option maxHeartbeats 4000000 in
theorem next_calls (w0 : World) (g : Nat) (v : Value) (s : ByteArray) (mx : Int) (x : St) (tv : Value) (l : List Int) (w : World) (hs : s.size ≤ 140737488351232) (hp0 : 0 ≤ x.p) (hp : x.p ≤ 4611686018427387904) (h : ISt w0 g v s mx x w) (ht : Tv w g v tv l (x.e = 0)) (he : x.e = 0 → errOf l = 0) :
  Calls Try.prog 111 #[.pointer (some ⟨g,0,none⟩),tv] w (Post w0 g v s mx w (.int .i64 (next l s x).1) (next l s x).2):=by
 have HH:=Aside0.mk h;obtain ⟨cs,ss,A,cc,rfl,hcl,hft,hcs⟩:=ht;have HFT:=Aside0.mk hft;clear h hft;have hu26:=Try.underlying26;unfold next tak;by_cases c:x.e=0;rotate_left
 ·rw [if_neg c];have hd:(x.e != 0)=true:=by simpa using c
  have HW:ISt w0 g v s mx x (w.alloc (.cells (tab cs (.slice A ss.length cc)) 26)):=HH.out.below (below_alloc (Below.refl _ _) _);have hc4:=HW.c4;go_enter Try.func111,Try.ntmps111;go_wp2;exact bodyPost_ret (v:=.int .i64 0) (by simp [results,Try.results111,go_sem]) rfl ⟨v,rfl,HW,(Fro.refl _ _ _).below (below_alloc (Below.refl _ _) _)⟩
 rw [if_pos c];obtain ⟨rfl,rfl⟩:=hcs c;have hd:(x.e != 0)=false:=by rw [c];rfl
 obtain ⟨hK,_⟩:=next_some l (he c) s hs x.p hp0 hp;generalize nextL l s x.p=r at hK ⊢;obtain ⟨r1,r2,r3⟩:=r
 dsimp only at hK ⊢
 have HK:=Aside0.mk hK;clear hK he hcs;by_cases c3:r3=0
 ·rw [if_pos c3];have hd3:(r3 != 0)=false:=by rw [c3];rfl
  have HW:ISt w0 g v s mx x (w.alloc (.cells (tab (newCs l) (.slice A (newSs l).length cc)) 26)):=HH.out.below (below_alloc (Below.refl _ _) _);have hc4:=HW.c4;have hblk:=heap_alloc_new w (.cells (tab (newCs l) (.slice A (newSs l).length cc)) 26);have HFW:Fro w g v (w.alloc (.cells (tab (newCs l) (.slice A (newSs l).length cc)) 26)) v:=(Fro.refl _ _ _).below (below_alloc (Below.refl _ _) _);go_enter Try.func111,Try.ntmps111;go_upto_region 3 with fail
  generalize w.alloc (.cells (tab (newCs l) (.slice A (newSs l).length cc)) 26)=W at HW hc4 hblk HFW ⊢;generalize w.heap.size=b at hblk ⊢;refine wp_region_quiet (C:=fun w'=>ISt w0 g v s mx x w'∧w'.heap[b]?=some (.cells (tab (newCs l) (.slice A (newSs l).length cc)) 26 (0,0))∧Fro w g v w' v) (by kernel_rfl) (by kernel_rfl) ⟨HW.drew,hblk,HFW.drew⟩ ?_;refine quiet_row rfl 26 (.tmp 3) rfl b rfl 26 _ (0,0) _ (fun w' hw'=>hw'.2.1) hu26 rfl (by rw [tab_size,newCs_length];exact info26) ?_;repeat (refine quiet_ex rfl ?_;apply Exists.intro;refine ⟨fun w' hw'=>?_,?_⟩;focus (have h0:=hw'.1.c0;have h1:=hw'.1.c1;unfold Oper.quietAt;go_simp;(first | done | rfl)))
  refine quiet_ex rfl ?_;apply Exists.intro;refine ⟨fun w' hw'=>?_,?_⟩
  focus
   unfold Oper.quietAt;go_simp;refine (Ext.next_calls A cc (newCs l) (newSs l) s x.p w' (HFT.out.fro hw'.2.2).now (newCs_length l) r1 r2 r3 HK.out).mono ?_;rintro e w2 ⟨rfl,hb⟩;exact ⟨rfl,hw'.1.below hb,(hb.block b (blk_lt hw'.2.1)).trans hw'.2.1,hw'.2.2.below hb⟩
  repeat (refine quiet_ex rfl ?_;apply Exists.intro;refine ⟨fun w' hw'=>?_,?_⟩;focus (unfold Oper.quietAt;go_simp;(first | done | rfl)))
  refine wpQuiet_nil ?_;intro w' hw';have HI:Aside0 (ISt w0 g v s mx x w'):=⟨hw'.1⟩;have HF:Aside0 (Fro w g v w' v):=⟨hw'.2.2⟩;clear hw' hc4 hblk HW HFW;have hc1':=HI.out.c1;have hf1':=HI.out.f 1;go_wp2;exact bodyPost_ret (v:=.int .i64 r1) (by simp [results,Try.results111,go_sem]) rfl ⟨v,rfl,(by first | exact HI.out.setp r2 | (have h:=HI.out.setp r2;rw [c] at h;exact h)),HF.out.set 1 _⟩
 ·rw [if_neg c3];have hd3:(r3 != 0)=true:=by simpa using c3
  have hfe:fail x r3=⟨x.p,x.o,r3⟩:=by unfold fail;rw [if_pos c]
  have HW:ISt w0 g v s mx x (w.alloc (.cells (tab (newCs l) (.slice A (newSs l).length cc)) 26)):=HH.out.below (below_alloc (Below.refl _ _) _);have hc4:=HW.c4;have hblk:=heap_alloc_new w (.cells (tab (newCs l) (.slice A (newSs l).length cc)) 26);have HFW:Fro w g v (w.alloc (.cells (tab (newCs l) (.slice A (newSs l).length cc)) 26)) v:=(Fro.refl _ _ _).below (below_alloc (Below.refl _ _) _);go_enter Try.func111,Try.ntmps111;go_upto_region 3 with fail
  generalize w.alloc (.cells (tab (newCs l) (.slice A (newSs l).length cc)) 26)=W at HW hc4 hblk HFW ⊢;generalize w.heap.size=b at hblk ⊢;refine wp_region_quiet (C:=fun w'=>ISt w0 g v s mx x w'∧w'.heap[b]?=some (.cells (tab (newCs l) (.slice A (newSs l).length cc)) 26 (0,0))∧Fro w g v w' v) (by kernel_rfl) (by kernel_rfl) ⟨HW.drew,hblk,HFW.drew⟩ ?_;refine quiet_row rfl 26 (.tmp 3) rfl b rfl 26 _ (0,0) _ (fun w' hw'=>hw'.2.1) hu26 rfl (by rw [tab_size,newCs_length];exact info26) ?_;repeat (refine quiet_ex rfl ?_;apply Exists.intro;refine ⟨fun w' hw'=>?_,?_⟩;focus (have h0:=hw'.1.c0;have h1:=hw'.1.c1;unfold Oper.quietAt;go_simp;(first | done | rfl)))
  refine quiet_ex rfl ?_;apply Exists.intro;refine ⟨fun w' hw'=>?_,?_⟩
  focus
   unfold Oper.quietAt;go_simp;refine (Ext.next_calls A cc (newCs l) (newSs l) s x.p w' (HFT.out.fro hw'.2.2).now (newCs_length l) r1 r2 r3 HK.out).mono ?_;rintro e w2 ⟨rfl,hb⟩;exact ⟨rfl,hw'.1.below hb,(hb.block b (blk_lt hw'.2.1)).trans hw'.2.1,hw'.2.2.below hb⟩
  repeat (refine quiet_ex rfl ?_;apply Exists.intro;refine ⟨fun w' hw'=>?_,?_⟩;focus (unfold Oper.quietAt;go_simp;(first | done | rfl)))
  refine wpQuiet_nil ?_;intro w' hw';have HI:Aside0 (ISt w0 g v s mx x w'):=⟨hw'.1⟩;have HF:Aside0 (Fro w g v w' v):=⟨hw'.2.2⟩;clear hw' hc4 hblk HW HFW;go_wp2_with (go_at_call 100;(with_reducible refine (fail_calls w0 g v s mx x r3 _ HI.out).mono ?_);rintro e w2 ⟨v1,rfl,hi,hf⟩;rw [hfe] at hi;have HI2:=Aside0.mk hi;have HF2:=Aside0.mk (HF.out.trans hf);clear hi hf)
  exact bodyPost_ret (v:=.int .i64 0) (by simp [results,Try.results111,go_sem]) rfl ⟨v1,rfl,HI2.out,HF2.out⟩
end Go.Proofs.Ytpbhkdamkbopkaa.Inf
namespace Go.Proofs.Ytpbhkdamkbopkaa.Inf
set_option linter.unusedSimpArgs false
set_option linter.unusedVariables false
open Go.RowKit Go.Proofs.Ytpbhkdamkbopkaa.Ext Go.Proofs.Ytpbhkdamkbopkaa.RefP Go.Proofs.YtpbhkdamkbopkaaW.PrintWords Go.Proofs.YtpbhkdamkbopkaaW.PrintLast Go.Proofs.YtpbhkdamkbopkaaW.PrintMore
theorem setRow_far (w:World) (b:Nat) (c:Array Value) (i:Nat) (h:i ≠ b):(w.setRow b c).heap[i]?=w.heap[i]?:=by
 simp only [World.setRow];rw [Array.getElem?_modify,if_neg (fun e=>h e.symm)]
theorem setRow_size (w:World) (b:Nat) (c:Array Value):(w.setRow b c).heap.size=w.heap.size:=by
 simp [World.setRow]
section
variable {w0 w w':World} {g:Nat} {v v':Value} {s:ByteArray} {mx:Int} {x:St}
theorem ISt.own (h:ISt w0 g v s mx x w):∀ k,v.ownBlock=some k → w0.heap.size≤k∧k < w.heap.size:=by
 obtain ⟨inner,ho⟩:=Kd.R_own h.row;exact fun k hk=>⟨(ho.lt k hk).1,(ho.lt k hk).2⟩
theorem ISt.glt (h:ISt w0 g v s mx x w):g < w.heap.size:=blk_lt h.blk
theorem ISt.same (h:ISt w0 g v s mx x w) (hg:w'.heap[g]?=w.heap[g]?) (hv:∀ k,v.ownBlock=some k → w'.heap[k]?=w.heap[k]?) (hb:Below w0.heap.size w0 w'):ISt w0 g v s mx x w' :=
 ⟨hg.trans h.blk,Kd.R_reok rfl (Kd.R_step (Kd.R_tight rfl h.row) (fun k hk _=>hv k hk.symm)) h.row.1,h.hg,hb⟩
/-- A row beyond all that the reader has is written. -/
theorem ISt.setRow (h:ISt w0 g v s mx x w) (b:Nat) (c:Array Value) (hg:b ≠ g) (hv:v.ownBlock ≠ some b) (hb:w0.heap.size≤b):ISt w0 g v s mx x (w.setRow b c) :=
 h.same (setRow_far w b c g (fun e=>hg e.symm)) (fun k hk=>setRow_far w b c k (fun e=>hv (by rw [hk,e]))) (below_setRow h.bl hb c)
theorem Fro.setRow (h:Fro w g v w' v') (b:Nat) (c:Array Value) (hb:w.heap.size≤b):Fro w g v (w'.setRow b c) v' :=
 ⟨⟨by rw [setRow_size];exact h.keep.1,fun i hi h1 h2=>(setRow_far w' b c i (by omega)).trans (h.keep.2 i hi h1 h2)⟩,h.own⟩
end
/-- A row apart from the reader is a foot. -/
theorem foot_of {w1 W : World} {g : Nat} {v : Value} {A : Option Addr} {n c : Nat} {l : List Int} {base : Nat} (hr : Kd.R (Kd.int .i64) 3 w1 base (fun _ => True) (.slice A n c) l) (hsz : w1.heap.size ≤ W.heap.size)
  (hk:∀ k,base≤k → k < w1.heap.size → W.heap[k]?=w1.heap[k]?∧k ≠ g∧some k ≠ v.ownBlock):Foot W g v A l:=fun W' hW=>by
 have h2:Kd.R (Kd.int .i64) 3 W' base (fun _=>True) (.slice A n c) l:=Kd.R_mono (Kd.R_step (Kd.R_bound hr) (fun k ho hlt=>by
  obtain ⟨h1,h2,h3⟩:=hk k ho.2.1 hlt;exact (hW.2 k (by omega) h2 h3).trans h1)) (fun _ _=>trivial)
 exact (Kd.R_reads' h2).2.2
/-- What table leaves. -/
def TPost (w0:World) (g:Nat) (v:Value) (s:ByteArray) (mx:Int) (w:World) (l:List Int) (x:St) (e:Ending) (w':World):Prop :=
 ∃ tv v1,e=.returned tv∧Tv w' g v1 tv l (x.e=0)∧ISt w0 g v1 s mx (table l x) w'∧Fro w g v w' v1
set_option maxRecDepth 100000 in
set_option maxHeartbeats 4000000 in
theorem table_calls (w0 : World) (g : Nat) (v : Value) (s : ByteArray) (mx : Int) (x : St) (A : Option Addr) (c : Nat) (l : List Int) (w : World) (h : ISt w0 g v s mx x w) (hr : Kd.C (Kd.int .i64) w A l.length l) :
    Calls Try.prog 98 #[.pointer (some ⟨g,0,none⟩),.slice A l.length c] w (TPost w0 g v s mx w l x):=by
  have HH:=Aside0.mk h;have HR:=Aside0.mk hr;clear h hr;have hu26:=Aside0.mk Try.underlying26;have HW:ISt w0 g v s mx x (w.alloc (.cells (tab zero16 (.slice none 0 0)) 26)):=HH.out.below (below_alloc (Below.refl _ _) _);have HFW:Fro w g v (w.alloc (.cells (tab zero16 (.slice none 0 0)) 26)) v:=(Fro.refl _ _ _).below (below_alloc (Below.refl _ _) _);have hblk:=heap_alloc_new w (.cells (tab zero16 (.slice none 0 0)) 26);have hc4:=HW.c4;rw [tab0] at HW HFW hblk hc4;have hv0:v.ownBlock ≠ some w.heap.size:=fun e=>by have:=(HH.out.own _ e).2;omega
  have hg0:w.heap.size ≠ g:=fun e=>by have:=HH.out.glt;omega
  have hw00:w0.heap.size≤w.heap.size:=HH.out.bl.size;have BN:=Aside0.mk (And.intro hv0 (And.intro hg0 hw00));clear hv0 hg0 hw00;have hra:=Kd.C_alloc HR.out (.cells (tab zero16 (.slice none 0 0)) 26);rw [tab0] at hra;by_cases cx:x.e=0;rotate_left
  · have hd:(x.e != 0)=true:=by simpa using cx
    go_enter Try.func98,Try.ntmps98;go_wp2;(have hx:table l x=x:=by unfold table fail;rw [if_neg cx]);refine bodyPost_ret (results_cell_row rfl _ _ w.heap.size 26 _ (0,0) _ rfl hblk hu26.out rfl (by exact info26)) rfl ?_;exact ⟨_,v,rfl,⟨zero16,[],none,0,(congrArg Value.agg (tab0 (.slice none 0 0))).symm,rfl,fun W' _=>Kd.C_nil _ W',fun h=>absurd h cx⟩,by rw [hx];exact HW,HFW⟩
  have hd:(x.e != 0)=false:=by rw [cx];rfl
  go_enter Try.func98,Try.ntmps98;go_upto_region 3 with fail
  generalize w.alloc _=W at HW HFW hblk hc4 hra ⊢;have HRA:=Aside0.mk hra;clear hra;rw [← tab0] at hblk;obtain ⟨b,hb⟩:∃ b,b=w.heap.size:=⟨_,rfl⟩;rw [← hb] at hblk BN ⊢;have HWA:=Aside0.mk HW;have HFA:=Aside0.mk HFW;have HBA:=Aside0.mk hblk;have HBE:=Aside0.mk hb;clear HW HFW hblk hc4 hb hd;have HRW:Aside0 (Kd.C (Kd.int .i64) W A l.length l):=HRA
  go_wp2_with (first
    | (go_at_call 26;(with_reducible refine (new_calls A c l _ HRW.out).mono ?_);rintro e w1 ⟨u,rfl,hru,hb1⟩;have HU:=Aside0.mk hru;have HI1:=Aside0.mk (HWA.out.below hb1);have HF1:=Aside0.mk (HFA.out.below hb1);have HB1:=Aside0.mk ((hb1.block b (blk_lt HBA.out)).trans HBA.out);have HS1:=Aside0.mk hb1.size;obtain ⟨ua,un,uc,rfl⟩:=R_form hru;clear hru hb1)
    | (refine wpList_store_row rfl 26 _ _ rfl w1.heap.size (tab (newCs l) (.slice ua un uc)) rfl rfl 26 (tab zero16 (.slice none 0 0)) (heap_alloc_new _ _) (by rw [tab_size,newCs_length];exact info26) (by rw [tab_size,tab_size,newCs_length];rfl) (tab_one _ _ _ _) ?_;rw [World.setRow_alloc_new])
    | fail)
  refine (fail_calls w0 g v s mx x (errOf l) _ (HI1.out.below (below_alloc (Below.refl _ _) _))).mono ?_;rintro e w3 ⟨v1,rfl,hi,hf⟩;have HI3:=Aside0.mk hi;have HF3:=Aside0.mk hf;clear hi hf;have hB5:Aside0 (w3.heap[w1.heap.size]?=some (.cells (tab (newCs l) (.slice ua un uc)) 26 (0,0))):=⟨(HF3.out.keep.2 w1.heap.size (by show w1.heap.size < (w1.heap.push _).size;simp) (fun e=>by have:=HI1.out.glt;omega) (fun e=>by have:=(HI1.out.own _ e.symm).2;omega)).trans (heap_alloc_new _ _)⟩;have hBb:Aside0 (w3.heap[b]?=some (.cells (tab zero16 (.slice none 0 0)) 26 (0,0))):=⟨(HF3.out.keep.2 b (by have:=blk_lt HB1.out;show b < (w1.heap.push _).size;simp;omega) BN.out.2.1 (fun e=>BN.out.1 e.symm)).trans ((heap_alloc_old _ _ (blk_lt HB1.out)).trans HB1.out)⟩
  go_wp2_with (first
    | (refine wpList_load_row rfl 26 _ rfl w1.heap.size rfl 26 _ (0,0) _ hB5.out hu26.out rfl (by rw [tab_size,newCs_length];exact info26) ?_)
    | (refine wpList_store_row rfl 26 _ _ rfl b (tab (newCs l) (.slice ua un uc)) rfl rfl 26 (tab zero16 (.slice none 0 0)) hBb.out (by rw [tab_size,newCs_length];exact info26) (by rw [tab_size,tab_size,newCs_length];rfl) (tab_one _ _ _ _) ?_))
  have hrow4:(w3.setRow b (tab (newCs l) (.slice ua un uc))).heap[b]?=some (.cells (tab (newCs l) (.slice ua un uc)) 26 (0,0)):=setRow_heap w3 b _ _ 26 (0,0) hBb.out;obtain ⟨rfl,hcap,_⟩:=Kd.R_reads' HU.out;have hbW:b < W.heap.size:=blk_lt HBA.out;have hbw:w.heap.size≤b:=Nat.le_of_eq HBE.out.symm;have hw1:W.heap.size≤w1.heap.size:=HS1.out
  have hw3 : w1.heap.size + 1 ≤ w3.heap.size := by have h := HF3.out.keep.1; have e : (w1.alloc (.cells (tab (newCs l) (.slice ua (newSs l).length uc)) 26)).heap.size = w1.heap.size + 1 := by show (w1.heap.push _).size = _; simp
                                                   omega
  have hI4:ISt w0 g v1 s mx (table l x) (w3.setRow b (tab (newCs l) (.slice ua (newSs l).length uc))):=HI3.out.setRow b _ BN.out.2.1 (fun e=>by
    rcases HF3.out.own with h | ⟨q,h,hq⟩
    · exact BN.out.1 (by rw [← h];exact e)
    · rw [h] at e;have e2:=Option.some.inj e;(have e3:(w1.alloc (.cells (tab (newCs l) (.slice ua (newSs l).length uc)) 26)).heap.size=w1.heap.size+1:=by show (w1.heap.push _).size=_;simp);omega) BN.out.2.2
  have hF4:Fro w g v (w3.setRow b (tab (newCs l) (.slice ua (newSs l).length uc))) v1:=(((HF1.out.below (below_alloc (Below.refl _ _) _)).trans HF3.out)).setRow b _ hbw
  have hfoot:Foot (w3.setRow b (tab (newCs l) (.slice ua (newSs l).length uc))) g v1 ua (newSs l):=foot_of HU.out (by rw [setRow_size];omega) (fun k hk hk2=>by
    (have hkg:k ≠ g:=fun e=>by have:=HWA.out.glt;omega);(have hkv:some k ≠ v.ownBlock:=fun e=>by have:=(HWA.out.own _ e.symm).2;omega);refine ⟨?_,hkg,fun e=>?_⟩
    · rw [setRow_far _ _ _ _ (by omega),HF3.out.keep.2 k (by show k < (w1.heap.push _).size;simp;omega) hkg hkv,heap_alloc_old _ _ hk2]
    · rcases HF3.out.own with h | ⟨q,h,hq⟩
      · exact hkv (by rw [← h];exact e)
      · rw [h] at e;have e2:=Option.some.inj e;(have e3:(w1.alloc (.cells (tab (newCs l) (.slice ua (newSs l).length uc)) 26)).heap.size=w1.heap.size+1:=by show (w1.heap.push _).size=_;simp);omega)
  refine bodyPost_ret (results_cell_row rfl _ _ b 26 _ (0,0) _ rfl hrow4 hu26.out rfl (by rw [tab_size,newCs_length];exact info26)) rfl ?_;exact ⟨_,v1,rfl,⟨newCs l,newSs l,ua,uc,rfl,newCs_length l,hfoot,fun _=>⟨rfl,rfl⟩⟩,hI4,hF4⟩
end Go.Proofs.Ytpbhkdamkbopkaa.Inf
namespace Go.Proofs.Ytpbhkdamkbopkaa.Inf
set_option linter.unusedSimpArgs false
set_option linter.unusedVariables false
open Go.RowKit Go.Proofs.Ytpbhkdamkbopkaa.Ext Go.Proofs.Ytpbhkdamkbopkaa.RefP Go.Proofs.YtpbhkdamkbopkaaW.PrintWords Go.Proofs.YtpbhkdamkbopkaaW.PrintLast Go.Proofs.YtpbhkdamkbopkaaW.PrintMore
/-- A row of whole numbers,by its cells. -/
theorem R_nums {k:IntKind} {e:Nat} {w:World} {base:Nat} {ok:Nat → Prop} {v:Value} {xs:List Int} (h:Kd.R (Kd.int k) e w base ok v xs):w.ownsRow base e 1 v xs.length (nums k xs):=by
 obtain ⟨_,inner,ho,hl,hr⟩:=h
 have e1:inner=nums k xs:=by
  refine List.ext_getElem? fun j=>?_;have hl2:inner.length=xs.length:=by have h:=hl;rw [show (Kd.int k).sz=1 from rfl,Nat.mul_one] at h;exact h
  by_cases hj:j < xs.length
  ·have h1:=hr j _ (List.getElem?_eq_getElem hj);have h2:(inner.drop (j*1)).take 1=[.int k xs[j]]:=h1;(have h3:((inner.drop (j*1)).take 1)[0]?=some (.int k xs[j]):=by rw [h2];rfl);rw [List.getElem?_take,if_pos (by decide),List.getElem?_drop,Nat.mul_one,Nat.add_zero] at h3;rw [h3];simp [nums,hj]
  ·rw [List.getElem?_eq_none (by omega),List.getElem?_eq_none (by rw [nums_length];omega)]
 rw [← e1];exact ho
theorem nums_R {k:IntKind} {e:Nat} {w:World} {base:Nat} {ok:Nat → Prop} {v:Value} {xs:List Int} (h:w.ownsRow base e 1 v xs.length (nums k xs)) (hok:∀ q,v.ownBlock=some q → ok q):Kd.R (Kd.int k) e w base ok v xs:=by
 refine ⟨hok,nums k xs,h,by rw [nums_length];exact (Nat.mul_one _).symm,fun j p hp=>?_⟩;obtain ⟨hj,rfl⟩:=List.getElem?_eq_some_iff.1 hp
 have e1:((nums k xs).drop (j*1)).take 1=[.int k xs[j]]:=by
  refine List.ext_getElem? fun i=>?_;rw [List.getElem?_take,List.getElem?_drop,Nat.mul_one];by_cases hi:i < 1
  ·obtain rfl:i=0:=by omega
   rw [if_pos hi];simp [nums,hj]
  ·rw [if_neg hi,List.getElem?_eq_none (by show 1≤i;omega)]
 rw [show (Kd.int k).sz=1 from rfl,e1];rfl
section
variable {P:Program} {w:World}
/-- Where a row lies behind an append: where it lay,or in a new block. -/
theorem append_str_at (t u ty e : TypeId) (i : TypeInfo) (ht : P.underlying t = some (.slice e)) (hu : P.underlying u = some .string) (hi : P.info? e = some i) (hz : i.zero = some (.int .u8 0)) (hsize : i.size = 1) (hby : i.bytes = 1)
  (base:Nat) (v:Value) (n:Nat) (xs:List Value) (hown:w.ownsRow base e 1 v n xs) (s:ByteArray) (hbytes:n+s.size≤140737488355328) (v':Value) (w':World) (hr:(Builtin.append_ #[t,u] ty #[v,.string s]).run P w=.ok v' w') :
  v'.ownBlock=v.ownBlock ∨ ∃ b,v'.ownBlock=some b∧w.heap.size≤b:=by
 have hxl:xs.length=n:=by simpa using hown.1
 rcases hown.2 with ⟨rfl,rfl⟩ | ⟨g,cap,cur,rfl,hbg,hg,hnc,hcm,hcs,htake⟩
 ·by_cases hm:s.size=0
  ·have hf:=Lib.run_firstCells_string (P:=P) w 1 s;rw [hm] at hf
   have hr2:(Builtin.append_ #[t,u] ty #[.slice none 0 0,.string s]).run P w=.ok (.slice none 0 0) w:=by
    simp [Builtin.append_,run_underlying ht,run_underlying hu,sizeOf,typeInfo,hi,hsize,Builtin.lenOf,hm,hf]
   rw [hr2] at hr;(injection hr with h1 h2);subst h1;exact .inl rfl
  ·rw [run_append_nil_string (P:=P) w t u ty e i (.int .u8 0) ht hu hi hz s (by omega) (by omega) (by rw [hby];omega)] at hr;(injection hr with h1 h2);subst h1;exact .inr ⟨_,rfl,Nat.le_refl _⟩
 ·by_cases hroom:n+s.size≤cap
  ·have hcs':cur.size=cap:=by simpa using hcs
   rw [Lib.run_append_room_string (P:=P) w t u ty e i ht hu hi hsize g n cap cur hg s hroom (by omega)] at hr;(injection hr with h1 h2);subst h1;exact .inl rfl
  ·have holds:∀ j u,xs[j]?=some u → w.cell? ((⟨g,0,none⟩:Addr).add j)=some u:=hown.cells (g:=g) rfl;rw [Lib.run_append_grow_string (P:=P) w t u ty e i (.int .u8 0) ht hu hi hz ⟨g,0,none⟩ n cap xs (by rw [hsize];simpa using hxl) holds s (by omega) (by omega) (by rw [hby];exact growslice_fits (by omega) (by omega))] at hr;(injection hr with h1 h2);subst h1;exact .inr ⟨_,rfl,Nat.le_refl _⟩
variable {ops:Array Oper} {o:Oper} {a:Act} {Q:Exit → Act → World → Prop} {K:Act → World → Prop} {E:Prop}
/-- append(v,s...) as one step of a region that draws its order. -/
theorem step_append_str {w0 : World} (base : Nat) (hw : Region.wanted o (yielded ops a.tmps) = true) (x y : Operand) (t u e : TypeId) (ho : o.op = .call { callee := .builtin .append, args := #[x, y], argTypes := #[t, u] })
  (ht:P.underlying t=some (.slice e)) (hu:P.underlying u=some .string) (hinfo:(P.info? e).map (fun i=>(i.zero,i.size,i.bytes))=some (some (.int .u8 0),1,1))
  (v:Value) (xs:List Int) (s:ByteArray) (ok:Nat → Prop) (hx:a.eval x=v) (hy:a.eval y=.string s) (HO:Kd.R (Kd.int .u8) e w base ok v xs) (hfresh:∀ k,w.heap.size≤k → ok k)
  (HB:Below base w0 w) (hbase:base≤w.heap.size) (hl:xs.length+s.size≤140737488355328)
  (h:∀ v1 w1,Kd.R (Kd.int .u8) e w1 base ok v1 (xs ++ bytesOf s) → Below base w0 w1 → w.grownBy w1 v.ownBlock → (v1.ownBlock=v.ownBlock ∨ ∃ b,v1.ownBlock=some b∧w.heap.size≤b) → K (a.put o.dst v1) w1) :
  if Region.wanted o (yielded ops a.tmps)=true then Oper.wp P o a w K Q else E:=by
 rw [if_pos hw];obtain ⟨i0,hi,hzz⟩:=Option.map_eq_some_iff.1 hinfo;simp only [Prod.mk.injEq] at hzz;obtain ⟨hz0,hz1,hz2⟩:=hzz;have hown:=R_nums HO;obtain ⟨v',w',hr,h2,h3,h4⟩:=Lib.run_append_own_string (P:=P) w base t u o.type e i0 ht hu hi hz0 hz1 hz2 v xs.length (nums .u8 xs) hown s (by simp only [maxLen];omega) hl hbase;have hat:=append_str_at (P:=P) (w:=w) t u o.type e i0 ht hu hi hz0 hz1 hz2 base v xs.length (nums .u8 xs) hown s hl v' w' hr;have hl2:(xs ++ bytesOf s).length=xs.length+s.size:=by rw [List.length_append,bytesOf_length]
 have hc:nums .u8 (xs ++ bytesOf s)=nums .u8 xs ++ Lib.strCells s:=by
  rw [nums_append]
  congr 1
  simp [nums,bytesOf,Lib.strCells]
 unfold Oper.wp execOp;simp only [ho,resolve,invoke,builtin,Sem.run_bind,Sem.run_pure,Result.andThen_ok,List.map_toArray,List.map_cons,List.map_nil,hx,hy,hr];refine h v' w' (nums_R (by rw [hl2,hc];exact h2) (fun q hq=>?_)) (HB.grown h3 hbase (own_base hown)) h3 hat
 rcases hat with e1 | ⟨b,e1,hb⟩
 ·exact HO.1 q (by rw [← e1];exact hq)
 ·rw [e1] at hq;cases hq;exact hfresh _ hb
end
/-- A number that is taken. -/
theorem bits_get {s:ByteArray} {x y:St} {n:Nat} {k m:Int} (hk:k=(n:Int)) (hx:Ok s x) (hn:n≤16) (h:bits s k x=(m,y)):Ok s y∧0≤m∧m < 2 ^ n∧y.o=x.o∧(y.e=0 → x.e=0∧x.p+n≤y.p∧y.p≤x.p+16)∧(x.e ≠ 0 → y=x):=by
 subst hk;have g:=bits_some s x.p n hx.p0 hn;have e:tak x (bitsOf s x.p (n:Int))=(m,y):=h;have h1:=tak_ok (Int.natCast_nonneg n) hx g;have h2:=tak_get (x:=x) (by have:=(pow_16 n hn).1;omega) g;rw [e] at h1 h2;exact ⟨h1,h2.1,h2.2.1,h2.2.2.1,h2.2.2.2.1,h2.2.2.2.2⟩
/-- A symbol that is taken. -/
theorem next_get {s:ByteArray} {x y:St} {l:List Int} {m:Int} (hs:s.size≤140737488351232) (hx:Ok s x) (he:x.e=0 → errOf l=0) (h:next l s x=(m,y)):Ok s y∧0≤m∧(m < l.length ∨ m=0)∧y.o=x.o∧(y.e=0 → x.e=0∧x.p+1≤y.p∧y.p≤x.p+16)∧(x.e ≠ 0 → y=x):=by
 have e:tak x (nextL l s x.p)=(m,y):=h;by_cases c:x.e=0;rotate_left
 ·have e2:tak x (nextL l s x.p)=(0,x):=by unfold tak;rw [if_neg c]
  rw [e2] at e;injection e with e3 e4
  subst e3;subst e4;exact ⟨hx,Int.le_refl _,.inr rfl,rfl,fun h=>absurd h c,fun _=>rfl⟩
 obtain ⟨_,g⟩:=next_some l (he c) s hs x.p hx.p0 (by have:=hx.p1;omega);have h1:=tak_ok (by decide) hx g;by_cases hl:0 < (l.length:Int)
 ·have h2:=tak_get (x:=x) hl g;rw [e] at h1 h2;exact ⟨h1,h2.1,.inl h2.2.1,h2.2.2.1,h2.2.2.2.1,h2.2.2.2.2⟩
 have g2:Good s x.p 1 1 (nextL l s x.p):=by
  rcases g with g | g | g
  ·have:=g.2.1;have:=g.2.2.1;omega
  ·exact .inr (.inl g)
  ·exact .inr (.inr g)
 have h2:=tak_get (x:=x) (by decide) g2;rw [e] at h1 h2;exact ⟨h1,h2.1,.inr (by have:=h2.1;have:=h2.2.1;omega),h2.2.2.1,h2.2.2.2.1,h2.2.2.2.2⟩
end Go.Proofs.Ytpbhkdamkbopkaa.Inf
namespace Go.Proofs.Ytpbhkdamkbopkaa.Inf
set_option linter.unusedSimpArgs false
set_option linter.unusedVariables false
open Go.RowKit Go.Proofs.Ytpbhkdamkbopkaa.Ext Go.Proofs.Ytpbhkdamkbopkaa.RefP Go.Proofs.YtpbhkdamkbopkaaW.PrintWords Go.Proofs.YtpbhkdamkbopkaaW.PrintLast Go.Proofs.YtpbhkdamkbopkaaW.PrintMore
theorem info5w:(Try.prog.info? 5).map (fun i=>(i.zero,i.size,i.bytes))=some (some (.int .u8 0),1,1):=by kernel_rfl
theorem ISt.seto {w0 w w1 : World} {g : Nat} {v v1 : Value} {s : ByteArray} {mx : Int} {x : St} {o1 : List Int} (h : ISt w0 g v s mx x w) (hr : Kd.R (Kd.int .u8) 5 w1 w0.heap.size (fun k => k ≠ g) v1 o1) (hb : Below w0.heap.size w0 w1) (hg : w.grownBy w1 v.ownBlock) :
  ISt w0 g v1 s mx ⟨x.p,o1,x.e⟩ (w1.setCell ⟨g,2,none⟩ v1):=by
 obtain ⟨A,c,e⟩:=Kd.R_slice hr;exact ⟨blk_put (blk_grown h.blk hg (Kd.R_ne h.row h.blk (by decide))) 2 _ (by rw [e];rfl),Kd.R_far (p:=⟨g,2,none⟩) hr (fun _ hk=>hk) _,h.hg,below_set hb h.hg⟩
theorem Fro.seto {w w1 w2:World} {g:Nat} {v v1 v2:Value} (h:Fro w g v w1 v1) (hg:w1.grownBy w2 v1.ownBlock) (hn:v2.ownBlock=v1.ownBlock ∨ ∃ b,v2.ownBlock=some b∧w1.heap.size≤b):Fro w g v (w2.setCell ⟨g,2,none⟩ v2) v2 :=
 h.trans ⟨(KeepBut.of_grown hg g).set_ 2 _,hn⟩
theorem wrap_qn {s:ByteArray} {q n:Nat} (hs:s.size≤17592186044416) (h:q+n≤s.size):wrap64 ((q:Int)+(n:Int))=(q:Int)+(n:Int):=wrap_in (by omega) (by omega)
theorem wrap_8n {s:ByteArray} {q n:Nat} (hs:s.size≤17592186044416) (h:q+n≤s.size):wrap64 (8*(n:Int))=8*(n:Int):=wrap_in (by omega) (by omega)
theorem wrap_p8n {s:ByteArray} {q n:Nat} {p:Int} (hs:s.size≤17592186044416) (h:q+n≤s.size) (h0:0≤p) (h1:p≤8*s.size):wrap64 (p+8*(n:Int))=p+8*(n:Int):=wrap_in (by omega) (by omega)
theorem cut_run {s:ByteArray} {q n:Nat} (h:q+n≤s.size):∀ w',(Instr.slice 9 (.string s) (some (.int .i64 (q:Int))) (some (.int .i64 ((q:Int)+(n:Int)))) none).run Try.prog w'=.ok (.string (s.extract q (q+n))) w':=fun w'=>by
 have h:=run_slice_string (P:=Try.prog) w' 9 s .i64 .i64 (q:Int) ((q:Int)+(n:Int)) Try.underlying9 (by omega) (by omega) (by omega);rw [show ((q:Int)+(n:Int)).toNat=q+n by omega,Int.toNat_natCast] at h;exact h
theorem cut_size {s:ByteArray} {q n:Nat} (h:q+n≤s.size):(s.extract q (q+n)).size=n:=by rw [ByteArray.size_extract];omega
theorem cut_bytes {s:ByteArray} {q n:Nat} (h:q+n≤s.size):bytesOf (s.extract q (q+n))=cut s q n:=by
 refine List.ext_getElem? fun i=>?_;by_cases hi:i < n;rotate_left
 ·rw [List.getElem?_eq_none (by rw [bytesOf_length,cut_size h];omega),List.getElem?_eq_none (by unfold cut;simpa using hi)]
 have h1:(bytesOf (s.extract q (q+n)))[i]?=some (rd (bytesOf (s.extract q (q+n))) (i:Int)):=by
  unfold rd;rw [Int.toNat_natCast,List.getD_eq_getElem?_getD,List.getElem?_eq_getElem (by rw [bytesOf_length,cut_size h];exact hi)];rfl
 rw [h1,rd_bytesOf];unfold cut;rw [List.getElem?_map,List.getElem?_range hi,Option.map_some]
 congr 1
 have h2:(Int.toNat (i:Int)) < (s.extract q (q+n)).size:=by rw [cut_size h];simpa using hi
 have h3:(Int.toNat ((q+i:Nat):Int)) < s.size:=by rw [Int.toNat_natCast];omega
 unfold bt;rw [dif_pos h2,dif_pos h3];simp [ByteArray.getElem_extract,show ((q:Int)+(i:Int)).toNat=q+i by omega]
set_option maxRecDepth 100000 in
set_option maxHeartbeats 4000000 in
theorem stored_calls (w0 : World) (g : Nat) (v : Value) (s : ByteArray) (mx : Int) (x : St) (w : World) (hs : s.size ≤ 17592186044416) (ho : x.o.length ≤ 262144) (hmx : 0 ≤ mx ∧ mx ≤ 262144) (hx : Ok s x) (h : ISt w0 g v s mx x w) :
  Calls Try.prog 95 #[.pointer (some ⟨g,0,none⟩)] w (Post w0 g v s mx w (.tuple #[]) (stored s mx x)):=by
 have HH:=Aside0.mk h;have hp0:=hx.p0;have hp1:=hx.p1;have hc1:=h.c1;have hf1:=h.f 1;obtain ⟨P,hP⟩:∃ P,P=(x.p+7) / 8*8:=⟨_,rfl⟩;have hPr:0≤P∧P≤8*s.size:=by omega
 have HS0:Aside0 (ISt w0 g v s mx ⟨P,x.o,x.e⟩ (w.setCell ⟨g,1,none⟩ (.int .i64 P))):=⟨h.setp P⟩;have HF0:Aside0 (Fro w g v (w.setCell ⟨g,1,none⟩ (.int .i64 P)) v):=⟨(Fro.refl _ _ _).set 1 _⟩;have hok0:Ok s ⟨P,x.o,x.e⟩:=⟨hPr.1,hPr.2,hx.e⟩;obtain ⟨n1,x1,ha⟩:∃ n1 x1,bits s 16 ⟨P,x.o,x.e⟩=(n1,x1):=⟨_,_,rfl⟩;obtain ⟨m1,x2,hb⟩:∃ m1 x2,bits s 16 x1=(m1,x2):=⟨_,_,rfl⟩;obtain ⟨hok1,hn0,hn1,ho1,-,-⟩:=bits_get (n:=16) rfl hok0 (Nat.le_refl _) ha;obtain ⟨hok2,-,-,ho2,-,-⟩:=bits_get (n:=16) rfl hok1 (Nat.le_refl _) hb;have hl2:x2.o.length≤262144:=by rw [ho2,ho1];exact ho
 replace hn1:n1 < 65536:=hn1;have HST:Aside0 (stored s mx x=if x2.e=0 then (if Go.bits .xor .i64 n1 m1=65535 then (if (x2.o.length:Int)+n1≤mx then (if n1≤s.size - x2.p / 8 then ⟨x2.p+8*n1,x2.o ++ cut s (x2.p / 8).toNat n1.toNat,x2.e⟩ else fail x2 2) else fail x2 7) else fail x2 3) else x2):=⟨by unfold stored;rw [← hP,ha];dsimp only;rw [hb]⟩;have HA:=Aside0.mk ha;have HB:=Aside0.mk hb;have O1:=Aside0.mk hok1;have O2:=Aside0.mk hok2;have hq0:=hok2.p0;have hq1:=hok2.p1;clear h ha hb hok0 hok1 hok2 ho1 ho2 hx;go_enter Try.func95,Try.ntmps95;go_upto_region 1 with fail
 rw [← hP];clear hc1 hf1 hP
 go_upto_region 2 with (first
  |(go_at_call 94;(with_reducible refine (bits_calls w0 g v s mx ⟨P,x.o,x.e⟩ 16 _ (by omega) (by show P≤_;omega) HS0.out).mono ?_);rw [HA.out];rintro e w1 ⟨v1,rfl,hi,hf⟩;have HI1:=Aside0.mk hi;have HF1:=Aside0.mk (HF0.out.trans hf);clear hi hf HS0 HF0)
  |(go_at_call 94;(with_reducible refine (bits_calls w0 g _ s mx x1 16 _ (by omega) (by have:=O1.out.p1;omega) HI1.out).mono ?_);rw [HB.out];rintro e w2 ⟨v2,rfl,hi,hf⟩;have HI2:=Aside0.mk hi;have HF2:=Aside0.mk (HF1.out.trans hf);clear hi hf HI1 HF1))
 obtain ⟨A,c,rfl⟩:=Kd.R_slice HI2.out.row;have hc4:=HI2.out.c4;by_cases c0:x2.e=0;rotate_left
 ·have d0:(x2.e != 0)=true:=by simpa using c0
  go_wp2;exact bodyPost_end (v:=.tuple #[]) (by simp [results,Try.results95,go_sem]) rfl ⟨_,rfl,by rw [HST.out,if_neg c0];exact HI2.out,HF2.out⟩
 have d0:(x2.e != 0)=false:=by rw [c0];rfl
 by_cases cx:Go.bits .xor .i64 n1 m1=65535;rotate_left
 ·have dx:(Go.bits .xor .i64 n1 m1 != 65535)=true:=by simpa using cx
  go_wp2_with (go_at_call 100;(with_reducible refine (fail_calls w0 g _ s mx x2 3 _ HI2.out).mono ?_);rintro e w3 ⟨v3,rfl,hi,hf⟩;have HI3:=Aside0.mk hi;have HF3:=Aside0.mk (HF2.out.trans hf);clear hi hf)
  exact bodyPost_end (v:=.tuple #[]) (by simp [results,Try.results95,go_sem]) rfl ⟨v3,rfl,by rw [HST.out,if_pos c0,if_neg cx];exact HI3.out,HF3.out⟩
 have dx:(Go.bits .xor .i64 n1 m1 != 65535)=false:=by rw [cx];rfl
 have hc2:=HI2.out.c2;have hc3:=HI2.out.c3;go_upto_region 5 with fail
 go_quiet (fail)
 generalize hw5:World.drewN _ _=w5;have HI5:Aside0 (ISt w0 g (.slice A x2.o.length c) s mx x2 w5):=⟨by rw [← hw5];exact HI2.out.below (pw_below_drewN (Below.refl _ _) _)⟩;have HF5:Aside0 (Fro w g v w5 (.slice A x2.o.length c)):=⟨by rw [← hw5];exact HF2.out.below (pw_below_drewN (Below.refl _ _) _)⟩;clear hw5 hc2 hc3 hc4 HI2 HF2;by_cases cm:(x2.o.length:Int)+n1≤mx;rotate_left
 ·have dm:decide ((x2.o.length:Int)+n1 > mx)=true:=decide_eq_true (by omega);go_wp2_with (go_at_call 100;(with_reducible refine (fail_calls w0 g _ s mx x2 7 _ HI5.out).mono ?_);rintro e w3 ⟨v3,rfl,hi,hf⟩;have HI3:=Aside0.mk hi;have HF3:=Aside0.mk (HF5.out.trans hf);clear hi hf)
  exact bodyPost_end (v:=.tuple #[]) (by simp [results,Try.results95,go_sem]) rfl ⟨v3,rfl,by rw [HST.out,if_pos c0,if_pos cx,if_neg (by omega)];exact HI3.out,HF3.out⟩
 have dm:decide ((x2.o.length:Int)+n1 > mx)=false:=decide_eq_false (by omega);have hc1:=HI5.out.c1;have hc0:=HI5.out.c0;have et:Int.tdiv x2.p 8=x2.p / 8:=Int.tdiv_eq_ediv_of_nonneg hq0;by_cases cs:n1≤s.size - x2.p / 8;rotate_left
 ·have ds:decide ((s.size:Int) - x2.p / 8 < n1)=true:=decide_eq_true (by omega);go_wp2_with (go_at_call 100;(with_reducible refine (fail_calls w0 g _ s mx x2 2 _ HI5.out).mono ?_);rintro e w3 ⟨v3,rfl,hi,hf⟩;have HI3:=Aside0.mk hi;have HF3:=Aside0.mk (HF5.out.trans hf);clear hi hf)
  exact bodyPost_end (v:=.tuple #[]) (by simp [results,Try.results95,go_sem]) rfl ⟨v3,rfl,by rw [HST.out,if_pos c0,if_pos cx,if_pos cm,if_neg (by omega)];exact HI3.out,HF3.out⟩
 have ds:decide ((s.size:Int) - x2.p / 8 < n1)=false:=decide_eq_false (by omega);go_upto_region 10 with fail
 obtain ⟨q,hq⟩:∃ q:Nat,x2.p / 8=(q:Int):=⟨(x2.p / 8).toNat,by omega⟩;obtain ⟨n,rfl⟩:∃ n:Nat,n1=(n:Int):=⟨n1.toNat,by omega⟩;rw [hq] at cs ds et ⊢;have hb2:(q:Int)+(n:Int)≤(s.size:Int):=by omega
 have HQ:=Aside0.mk hq;have hbn:q+n≤s.size:=by omega
 have HSL:=Aside0.mk (cut_run hbn);have HEX:Aside0 (x2.o.length+(s.extract q (q+n)).size≤140737488355328):=⟨by rw [cut_size hbn];omega⟩;have hwq:=wrap_qn hs hbn;have HCM:=Aside0.mk cm;have HCS:Aside0 ((n:Int)≤s.size - x2.p / 8):=⟨by rw [HQ.out];exact cs⟩;clear hq et ds dm hn0 hn1 cs cm;refine start_ (n:=18) (S:=fun w'=>w'.cell? ⟨g,2,none⟩=some (.slice A x2.o.length c)∧w'.cell? ⟨g,0,none⟩=some (.string s)) (ds:=[14,17]) #[false,false,false,false,false,false,false,false,false,false,false,false,false,false,false,false,false,false] (by kernel_rfl) rfl rfl ⟨HI5.out.drew.c2,HI5.out.drew.c0⟩ (fun hHeld=>?_);have HI6:Aside0 (ISt w0 g (.slice A x2.o.length c) s mx x2 w5.drew):=⟨HI5.out.drew⟩;have HF6:Aside0 (Fro w g v w5.drew (.slice A x2.o.length c)):=⟨HF5.out.drew⟩;clear HI5 HF5 hc1 hc0;generalize w5.drew=w6 at HI6 HF6 hHeld ⊢;refine pure_ (i:=0) (N:=some 63) (v:=?_) (a':=?_) #[true,false,false,false,false,false,false,false,false,false,false,false,false,false,false,false,false,false] rfl rfl (by kernel_rfl) (fun _ _ _ h=>h) (Or.inl ⟨by rfl,?_⟩) ?_ ?_;rotate_left
 ·intro w';go_simp;with_reducible rfl
 rotate_left
 ·simp only [Act.put,List.setIfInBounds_toArray,List.set_cons_zero,List.set_cons_succ,i64_w,i32_w];rfl
 refine pure_ (i:=1) (N:=some 64) (v:=?_) (a':=?_) #[true,true,false,false,false,false,false,false,false,false,false,false,false,false,false,false,false,false] rfl rfl (by kernel_rfl) (fun _ _ _ h=>h) (Or.inl ⟨by rfl,?_⟩) ?_ ?_;rotate_left
 ·intro w';go_simp;with_reducible rfl
 rotate_left
 ·simp only [Act.put,List.setIfInBounds_toArray,List.set_cons_zero,List.set_cons_succ,i64_w,i32_w];rfl
 refine pure_ (i:=2) (N:=some 65) (v:=?_) (a':=?_) #[true,true,true,false,false,false,false,false,false,false,false,false,false,false,false,false,false,false] rfl rfl (by kernel_rfl) (fun _ _ _ h=>h) (Or.inl ⟨by rfl,?_⟩) ?_ ?_;rotate_left
 ·intro w';go_simp;with_reducible rfl
 rotate_left
 ·simp only [Act.put,List.setIfInBounds_toArray,List.set_cons_zero,List.set_cons_succ,i64_w,i32_w];rfl
 refine pure_ (i:=3) (N:=some 66) (v:=?_) (a':=?_) #[true,true,true,true,false,false,false,false,false,false,false,false,false,false,false,false,false,false] rfl rfl (by kernel_rfl) (fun _ _ _ h=>h) (Or.inl ⟨by rfl,?_⟩) ?_ ?_;rotate_left
 ·intro w';go_simp;with_reducible rfl
 rotate_left
 ·simp only [Act.put,List.setIfInBounds_toArray,List.set_cons_zero,List.set_cons_succ,i64_w,i32_w];rfl
 refine take_ (i:=4) (N:=some 67) (v:=?_) (a':=?_) #[true,true,true,true,true,false,false,false,false,false,false,false,false,false,false,false,false,false] rfl rfl (by kernel_rfl) (fun _ _ _ h=>h) (Or.inl ⟨by rfl,?_⟩) hHeld ?_ ?_;rotate_left
 ·rintro w' ⟨s0,s1⟩;go_simp;with_reducible rfl
 rotate_left
 ·simp only [Act.put,List.setIfInBounds_toArray,List.set_cons_zero,List.set_cons_succ,i64_w,i32_w];rfl
 refine pure_ (i:=5) (N:=some 68) (v:=?_) (a':=?_) #[true,true,true,true,true,true,false,false,false,false,false,false,false,false,false,false,false,false] rfl rfl (by kernel_rfl) (fun _ _ _ h=>h) (Or.inl ⟨by rfl,?_⟩) ?_ ?_;rotate_left
 ·intro w';go_simp;with_reducible rfl
 rotate_left
 ·simp only [Act.put,List.setIfInBounds_toArray,List.set_cons_zero,List.set_cons_succ,i64_w,i32_w];rfl
 refine pure_ (i:=6) (N:=some 69) (v:=?_) (a':=?_) #[true,true,true,true,true,true,true,false,false,false,false,false,false,false,false,false,false,false] rfl rfl (by kernel_rfl) (fun _ _ _ h=>h) (Or.inl ⟨by rfl,?_⟩) ?_ ?_;rotate_left
 ·intro w';go_simp;with_reducible rfl
 rotate_left
 ·simp only [Act.put,List.setIfInBounds_toArray,List.set_cons_zero,List.set_cons_succ,i64_w,i32_w];rfl
 refine pure_ (i:=7) (N:=some 70) (v:=?_) (a':=?_) #[true,true,true,true,true,true,true,true,false,false,false,false,false,false,false,false,false,false] rfl rfl (by kernel_rfl) (fun _ _ _ h=>h) (Or.inl ⟨by rfl,?_⟩) ?_ ?_;rotate_left
 ·intro w';go_simp;with_reducible rfl
 rotate_left
 ·simp only [Act.put,List.setIfInBounds_toArray,List.set_cons_zero,List.set_cons_succ,i64_w,i32_w];rfl
 refine take_ (i:=8) (N:=some 71) (v:=?_) (a':=?_) #[true,true,true,true,true,true,true,true,true,false,false,false,false,false,false,false,false,false] rfl rfl (by kernel_rfl) (fun _ _ _ h=>h) (Or.inl ⟨by rfl,?_⟩) hHeld ?_ ?_;rotate_left
 ·rintro w' ⟨s0,s1⟩;go_simp;with_reducible rfl
 rotate_left
 ·simp only [Act.put,List.setIfInBounds_toArray,List.set_cons_zero,List.set_cons_succ,i64_w,i32_w];rfl
 refine pure_ (i:=9) (N:=some 72) (v:=?_) (a':=?_) #[true,true,true,true,true,true,true,true,true,true,false,false,false,false,false,false,false,false] rfl rfl (by kernel_rfl) (fun _ _ _ h=>h) (Or.inl ⟨by rfl,?_⟩) ?_ ?_;rotate_left
 ·intro w';go_simp;with_reducible rfl
 rotate_left
 ·simp only [Act.put,List.setIfInBounds_toArray,List.set_cons_zero,List.set_cons_succ,i64_w,i32_w];rfl
 refine pure_ (i:=10) (N:=some 73) (v:=?_) (a':=?_) #[true,true,true,true,true,true,true,true,true,true,true,false,false,false,false,false,false,false] rfl rfl (by kernel_rfl) (fun _ _ _ h=>h) (Or.inl ⟨by rfl,?_⟩) ?_ ?_;rotate_left
 ·intro w';go_simp;with_reducible rfl
 rotate_left
 ·simp only [Act.put,List.setIfInBounds_toArray,List.set_cons_zero,List.set_cons_succ,i64_w,i32_w];rfl
 refine pure_ (i:=11) (N:=some 74) (v:=?_) (a':=?_) #[true,true,true,true,true,true,true,true,true,true,true,true,false,false,false,false,false,false] rfl rfl (by kernel_rfl) (fun _ _ _ h=>h) (Or.inl ⟨by rfl,?_⟩) ?_ ?_;rotate_left
 ·intro w';go_simp;with_reducible rfl
 rotate_left
 ·simp only [Act.put,List.setIfInBounds_toArray,List.set_cons_zero,List.set_cons_succ,i64_w,i32_w];rfl
 refine pure_ (i:=12) (N:=some 75) (v:=?_) (a':=?_) #[true,true,true,true,true,true,true,true,true,true,true,true,true,false,false,false,false,false] rfl rfl (by kernel_rfl) (fun _ _ _ h=>h) (Or.inl ⟨by rfl,?_⟩) ?_ ?_;rotate_left
 ·intro w';go_simp;with_reducible rfl
 rotate_left
 ·simp only [Act.put,List.setIfInBounds_toArray,List.set_cons_zero,List.set_cons_succ,i64_w,i32_w];rfl
 refine pure_ (i:=13) (N:=some 76) (v:=?_) (a':=?_) #[true,true,true,true,true,true,true,true,true,true,true,true,true,true,false,false,false,false] rfl rfl (by kernel_rfl) (fun _ _ _ h=>h) (Or.inl ⟨by rfl,?_⟩) ?_ ?_;rotate_left
 ·intro w';go_simp;rw [HSL.out];rfl
 rotate_left
 ·simp only [Act.put,List.setIfInBounds_toArray,List.set_cons_zero,List.set_cons_succ,i64_w,i32_w];rfl
 refine last_ (i:=14) (N:=some 77) #[true,true,true,true,true,true,true,true,true,true,true,true,true,true,true,false,false,false] rfl rfl (by kernel_rfl) (by decide) (fun K hK=>?_);refine step_append_str (w0:=w0) w0.heap.size rfl (.tmp 67) (.tmp 76) 40 9 5 rfl Try.underlying40 Try.underlying9 info5w (.slice A x2.o.length c) x2.o _ (fun k=>k ≠ g) rfl rfl HI6.out.row (fun k hk e=>by have:=HI6.out.glt;omega) HI6.out.bl HI6.out.bl.size HEX.out ?_;intro v7 w7 hr7 hb7 hg7 hn7;obtain ⟨o7,ho7⟩:∃ o7,o7=x2.o ++ bytesOf (s.extract q (q+n)):=⟨_,rfl⟩;rw [← ho7] at hr7;have HO7:=Aside0.mk ho7;clear ho7;obtain ⟨A7,c7,rfl⟩:=Kd.R_slice hr7;have HI7:=Aside0.mk (HI6.out.seto hr7 hb7 hg7);have HF7:=Aside0.mk (HF6.out.seto hg7 hn7);refine hK.out _ _ ?_;clear hK K;refine norm_ (a':=?_) ?_ ?_;rotate_left
 ·show Act.put _ (some 77) _=_;simp only [Act.put,List.setIfInBounds_toArray,List.set_cons_zero,List.set_cons_succ,i64_w,i32_w];rfl
 refine pure_ (i:=15) (N:=some 78) (v:=?_) (a':=?_) #[true,true,true,true,true,true,true,true,true,true,true,true,true,true,true,true,false,false] rfl rfl (by kernel_rfl) (fun _ _ _ h=>h) (Or.inl ⟨by rfl,?_⟩) ?_ ?_;rotate_left
 ·intro w';go_simp;with_reducible rfl
 rotate_left
 ·simp only [Act.put,List.setIfInBounds_toArray,List.set_cons_zero,List.set_cons_succ,i64_w,i32_w];rfl
 refine pure_ (i:=16) (N:=some 79) (v:=?_) (a':=?_) #[true,true,true,true,true,true,true,true,true,true,true,true,true,true,true,true,true,false] rfl rfl (by kernel_rfl) (fun _ _ _ h=>h) (Or.inl ⟨by rfl,?_⟩) ?_ ?_;rotate_left
 ·intro w';go_simp;with_reducible rfl
 rotate_left
 ·simp only [Act.put,List.setIfInBounds_toArray,List.set_cons_zero,List.set_cons_succ,i64_w,i32_w];rfl
 refine last_ (i:=17) (N:=none) #[true,true,true,true,true,true,true,true,true,true,true,true,true,true,true,true,true,true] rfl rfl (by kernel_rfl) (by decide) (fun K hK=>?_);have hc7:w7.cell? ⟨g,2,none⟩=some (.slice A x2.o.length c):=(blk_cell (blk_grown HI6.out.blk hg7 (Kd.R_ne HI6.out.row HI6.out.blk (by decide))) 2).trans rfl;have hf7:=blk_frozen (blk_grown HI6.out.blk hg7 (Kd.R_ne HI6.out.row HI6.out.blk (by decide))) 2;refine skip_ (w1:=?_) (by rfl) rfl ?_ ?_;rotate_left
 ·go_simp;rfl
 refine hK.out _ _ ?_;clear hK K;refine done_ (by kernel_rfl) ?_;generalize w7.setCell ⟨g,2,none⟩ _=w8 at HI7 HF7 ⊢;have hc1:=HI7.out.c1;have hf1:=HI7.out.f 1;have HQ2:=HQ.out;have hw1:wrap64 (8*(n:Int))=8*(n:Int):=wrap_8n hs hbn;have hw2:wrap64 (x2.p+8*(n:Int))=x2.p+8*(n:Int):=wrap_p8n hs hbn hq0 hq1;clear HQ2 hwq;go_wp2;exact bodyPost_end (v:=.tuple #[]) (by simp [results,Try.results95,go_sem]) rfl ⟨_,rfl,by rw [HST.out,if_pos c0,if_pos cx,if_pos HCM.out,if_pos HCS.out,HQ.out,Int.toNat_natCast,Int.toNat_natCast,← cut_bytes hbn,← HO7.out];exact HI7.out.setp _,HF7.out.set 1 _⟩
end Go.Proofs.Ytpbhkdamkbopkaa.Inf
namespace Go.Proofs.Ytpbhkdamkbopkaa.Inf
set_option linter.unusedSimpArgs false
set_option linter.unusedVariables false
open Go.RowKit Go.Proofs.Ytpbhkdamkbopkaa.Ext Go.Proofs.Ytpbhkdamkbopkaa.RefP Go.Proofs.YtpbhkdamkbopkaaW.PrintWords Go.Proofs.YtpbhkdamkbopkaaW.PrintLast Go.Proofs.YtpbhkdamkbopkaaW.PrintMore
def inflate_bases.f :Option (List Int × List Int × List Int × List Int):=some ((([3,4,5,6,7,8,9,10,11,13,15,17,19,23,27,31,35,43,51,59,67,83,99,115,131,163,195,227,258]:List Int)),(([0,0,0,0,0,0,0,0,1,1,1,1,2,2,2,2,3,3,3,3,4,4,4,4,5,5,5,5,0]:List Int)),(([1,2,3,4,5,7,9,13,17,25,33,49,65,97,129,193,257,385,513,769,1025,1537,2049,3073,4097,6145,8193,12289,16385,24577]:List Int)),(([0,0,0,0,1,1,2,2,3,3,4,4,5,5,6,6,7,7,8,8,9,9,10,10,11,11,12,12,13,13]:List Int)))
set_option maxHeartbeats 8000000 in
set_option maxRecDepth 100000 in
theorem inflate_bases.calls  (r1 : List Int) (r2 : List Int) (r3 : List Int) (r4 : List Int) (w : World) (h : inflate_bases.f  = some (r1, r2, r3, r4)) :
  Calls Try.prog 110 #[] w fun e w'=>∃ v0_ v1_ v2_ v3_:Value,e=.returned (.tuple #[v0_,v1_,v2_,v3_])∧Kd.R (Kd.int .i64) 3 w' w.heap.size (fun k_=>some k_ ≠ (v1_:Value).ownBlock∧some k_ ≠ (v2_:Value).ownBlock∧some k_ ≠ (v3_:Value).ownBlock) v0_ r1∧Kd.R (Kd.int .i64) 3 w' w.heap.size (fun k_=>some k_ ≠ (v0_:Value).ownBlock∧some k_ ≠ (v2_:Value).ownBlock∧some k_ ≠ (v3_:Value).ownBlock) v1_ r2∧Kd.R (Kd.int .i64) 3 w' w.heap.size (fun k_=>some k_ ≠ (v0_:Value).ownBlock∧some k_ ≠ (v1_:Value).ownBlock∧some k_ ≠ (v3_:Value).ownBlock) v2_ r3∧Kd.R (Kd.int .i64) 3 w' w.heap.size (fun k_=>some k_ ≠ (v0_:Value).ownBlock∧some k_ ≠ (v1_:Value).ownBlock∧some k_ ≠ (v2_:Value).ownBlock) v3_ r4∧Below w.heap.size w w':=by
 have HB:=Aside0.mk (Below.refl w.heap.size w);have H:(some ((([3,4,5,6,7,8,9,10,11,13,15,17,19,23,27,31,35,43,51,59,67,83,99,115,131,163,195,227,258]:List Int)),(([0,0,0,0,0,0,0,0,1,1,1,1,2,2,2,2,3,3,3,3,4,4,4,4,5,5,5,5,0]:List Int)),(([1,2,3,4,5,7,9,13,17,25,33,49,65,97,129,193,257,385,513,769,1025,1537,2049,3073,4097,6145,8193,12289,16385,24577]:List Int)),(([0,0,0,0,1,1,2,2,3,3,4,4,5,5,6,6,7,7,8,8,9,9,10,10,11,11,12,12,13,13]:List Int))))=some (r1,r2,r3,r4):=h;clear h;obtain ⟨Qd,hy133⟩:∃ y_:List Int,y_=(([3,4,5,6,7,8,9,10,11,13,15,17,19,23,27,31,35,43,51,59,67,83,99,115,131,163,195,227,258]:List Int)):=⟨_,rfl⟩;replace H:(some (Qd,(([0,0,0,0,0,0,0,0,1,1,1,1,2,2,2,2,3,3,3,3,4,4,4,4,5,5,5,5,0]:List Int)),(([1,2,3,4,5,7,9,13,17,25,33,49,65,97,129,193,257,385,513,769,1025,1537,2049,3073,4097,6145,8193,12289,16385,24577]:List Int)),(([0,0,0,0,1,1,2,2,3,3,4,4,5,5,6,6,7,7,8,8,9,9,10,10,11,11,12,12,13,13]:List Int))))=some (r1,r2,r3,r4):=by first | (rw [hy133];with_reducible exact H) | (have H2_:=(Option.bind_some _ _).symm.trans H;rw [hy133];with_reducible exact H2_) | (have H2_:=(Option.bind_some _ _).symm.trans H;with_reducible exact H2_) | with_reducible exact H | (rw [hy133];exact H) | exact H
 have Qe:=Aside0.mk hy133;clear hy133;obtain ⟨Qi,hy136⟩:∃ y_:List Int,y_=(([0,0,0,0,0,0,0,0,1,1,1,1,2,2,2,2,3,3,3,3,4,4,4,4,5,5,5,5,0]:List Int)):=⟨_,rfl⟩;replace H:(some (Qd,Qi,(([1,2,3,4,5,7,9,13,17,25,33,49,65,97,129,193,257,385,513,769,1025,1537,2049,3073,4097,6145,8193,12289,16385,24577]:List Int)),(([0,0,0,0,1,1,2,2,3,3,4,4,5,5,6,6,7,7,8,8,9,9,10,10,11,11,12,12,13,13]:List Int))))=some (r1,r2,r3,r4):=by first | (rw [hy136];with_reducible exact H) | (have H2_:=(Option.bind_some _ _).symm.trans H;rw [hy136];with_reducible exact H2_) | (have H2_:=(Option.bind_some _ _).symm.trans H;with_reducible exact H2_) | with_reducible exact H | (rw [hy136];exact H) | exact H
 have Qf:=Aside0.mk hy136;clear hy136;obtain ⟨Qj,hy139⟩:∃ y_:List Int,y_=(([1,2,3,4,5,7,9,13,17,25,33,49,65,97,129,193,257,385,513,769,1025,1537,2049,3073,4097,6145,8193,12289,16385,24577]:List Int)):=⟨_,rfl⟩;replace H:(some (Qd,Qi,Qj,(([0,0,0,0,1,1,2,2,3,3,4,4,5,5,6,6,7,7,8,8,9,9,10,10,11,11,12,12,13,13]:List Int))))=some (r1,r2,r3,r4):=by first | (rw [hy139];with_reducible exact H) | (have H2_:=(Option.bind_some _ _).symm.trans H;rw [hy139];with_reducible exact H2_) | (have H2_:=(Option.bind_some _ _).symm.trans H;with_reducible exact H2_) | with_reducible exact H | (rw [hy139];exact H) | exact H
 have Qg:=Aside0.mk hy139;clear hy139;obtain ⟨Ql,hy142⟩:∃ y_:List Int,y_=(([0,0,0,0,1,1,2,2,3,3,4,4,5,5,6,6,7,7,8,8,9,9,10,10,11,11,12,12,13,13]:List Int)):=⟨_,rfl⟩;replace H:(some (Qd,Qi,Qj,Ql))=some (r1,r2,r3,r4):=by first | (rw [hy142];with_reducible exact H) | (have H2_:=(Option.bind_some _ _).symm.trans H;rw [hy142];with_reducible exact H2_) | (have H2_:=(Option.bind_some _ _).symm.trans H;with_reducible exact H2_) | with_reducible exact H | (rw [hy142];exact H) | exact H
 have Qh:=Aside0.mk hy142;clear hy142;simp only [Option.some.injEq,Prod.mk.injEq] at H;obtain ⟨rfl,rfl,rfl,rfl⟩:=H;go_enter Try.func110,Try.ntmps110;go_wp2_with (first | ((with_reducible refine gate_dst (N:=4) rfl ?_);refine Kd.R_lit (Kd.int .i64) _ 3 ?hg (N:=4) ?hd (xs:=([3,4,5,6,7,8,9,10,11,13,15,17,19,23,27,31,35,43,51,59,67,83,99,115,131,163,195,227,258]:List Int)) (inner:=[.int .i64 3,.int .i64 4,.int .i64 5,.int .i64 6,.int .i64 7,.int .i64 8,.int .i64 9,.int .i64 10,.int .i64 11,.int .i64 13,.int .i64 15,.int .i64 17,.int .i64 19,.int .i64 23,.int .i64 27,.int .i64 31,.int .i64 35,.int .i64 43,.int .i64 51,.int .i64 59,.int .i64 67,.int .i64 83,.int .i64 99,.int .i64 115,.int .i64 131,.int .i64 163,.int .i64 195,.int .i64 227,.int .i64 258]) (ok:=fun _=>True) (okp:=fun _=>True) ?hr ?hp (fun _ hk=>hk) trivial (Below.refl _ _) (Nat.le_refl _) (by simp) ?_;(case hd=>rfl);(case hg=>rfl);(case hr=>first | (go_simp;done) | (go_simp;rfl));(case hp=>exact (Reps.one (show Kd.M (Kd.int .i64) _ _ _ 3 [.int .i64 3] from rfl) (Reps.one (show Kd.M (Kd.int .i64) _ _ _ 4 [.int .i64 4] from rfl) (Reps.one (show Kd.M (Kd.int .i64) _ _ _ 5 [.int .i64 5] from rfl) (Reps.one (show Kd.M (Kd.int .i64) _ _ _ 6 [.int .i64 6] from rfl) (Reps.one (show Kd.M (Kd.int .i64) _ _ _ 7 [.int .i64 7] from rfl) (Reps.one (show Kd.M (Kd.int .i64) _ _ _ 8 [.int .i64 8] from rfl) (Reps.one (show Kd.M (Kd.int .i64) _ _ _ 9 [.int .i64 9] from rfl) (Reps.one (show Kd.M (Kd.int .i64) _ _ _ 10 [.int .i64 10] from rfl) (Reps.one (show Kd.M (Kd.int .i64) _ _ _ 11 [.int .i64 11] from rfl) (Reps.one (show Kd.M (Kd.int .i64) _ _ _ 13 [.int .i64 13] from rfl) (Reps.one (show Kd.M (Kd.int .i64) _ _ _ 15 [.int .i64 15] from rfl) (Reps.one (show Kd.M (Kd.int .i64) _ _ _ 17 [.int .i64 17] from rfl) (Reps.one (show Kd.M (Kd.int .i64) _ _ _ 19 [.int .i64 19] from rfl) (Reps.one (show Kd.M (Kd.int .i64) _ _ _ 23 [.int .i64 23] from rfl) (Reps.one (show Kd.M (Kd.int .i64) _ _ _ 27 [.int .i64 27] from rfl) (Reps.one (show Kd.M (Kd.int .i64) _ _ _ 31 [.int .i64 31] from rfl) (Reps.one (show Kd.M (Kd.int .i64) _ _ _ 35 [.int .i64 35] from rfl) (Reps.one (show Kd.M (Kd.int .i64) _ _ _ 43 [.int .i64 43] from rfl) (Reps.one (show Kd.M (Kd.int .i64) _ _ _ 51 [.int .i64 51] from rfl) (Reps.one (show Kd.M (Kd.int .i64) _ _ _ 59 [.int .i64 59] from rfl) (Reps.one (show Kd.M (Kd.int .i64) _ _ _ 67 [.int .i64 67] from rfl) (Reps.one (show Kd.M (Kd.int .i64) _ _ _ 83 [.int .i64 83] from rfl) (Reps.one (show Kd.M (Kd.int .i64) _ _ _ 99 [.int .i64 99] from rfl) (Reps.one (show Kd.M (Kd.int .i64) _ _ _ 115 [.int .i64 115] from rfl) (Reps.one (show Kd.M (Kd.int .i64) _ _ _ 131 [.int .i64 131] from rfl) (Reps.one (show Kd.M (Kd.int .i64) _ _ _ 163 [.int .i64 163] from rfl) (Reps.one (show Kd.M (Kd.int .i64) _ _ _ 195 [.int .i64 195] from rfl) (Reps.one (show Kd.M (Kd.int .i64) _ _ _ 227 [.int .i64 227] from rfl) (Reps.one (show Kd.M (Kd.int .i64) _ _ _ 258 [.int .i64 258] from rfl) (Reps.none _ _)))))))))))))))))))))))))))))));intro v134 w1 ho2 hb hg_ hnew_;clear hg_ hnew_;(first | rw [← Qe.out] at ho2 | (simp only [Int.reduceToNat] at ho2;rw [← Qe.out] at ho2));have n0_:=Aside0.mk (Kd.R_lower ho2 (below_size (by repeat (first | (with_reducible first | exact HB.out | apply below_alloc | apply pw_below_drewN | apply below_drew1) | exact HB.out))));have n1_:=Aside0.mk (below_step (by repeat (first | (with_reducible first | exact HB.out | apply below_alloc | apply pw_below_drewN | apply below_drew1) | exact HB.out)) hb);clear HB;have Qa:=n0_;have HB:=n1_;clear n0_ n1_;clear hb ho2) | ((with_reducible refine gate_dst (N:=5) rfl ?_);refine Kd.R_lit (Kd.int .i64) _ 3 ?hg (N:=5) ?hd (xs:=([0,0,0,0,0,0,0,0,1,1,1,1,2,2,2,2,3,3,3,3,4,4,4,4,5,5,5,5,0]:List Int)) (inner:=[.int .i64 0,.int .i64 0,.int .i64 0,.int .i64 0,.int .i64 0,.int .i64 0,.int .i64 0,.int .i64 0,.int .i64 1,.int .i64 1,.int .i64 1,.int .i64 1,.int .i64 2,.int .i64 2,.int .i64 2,.int .i64 2,.int .i64 3,.int .i64 3,.int .i64 3,.int .i64 3,.int .i64 4,.int .i64 4,.int .i64 4,.int .i64 4,.int .i64 5,.int .i64 5,.int .i64 5,.int .i64 5,.int .i64 0]) (ok:=fun _=>True) (okp:=fun _=>True) ?hr ?hp (fun _ hk=>hk) trivial (Below.refl _ _) (Nat.le_refl _) (by simp) ?_;(case hd=>rfl);(case hg=>rfl);(case hr=>first | (go_simp;done) | (go_simp;rfl));(case hp=>exact (Reps.one (show Kd.M (Kd.int .i64) _ _ _ 0 [.int .i64 0] from rfl) (Reps.one (show Kd.M (Kd.int .i64) _ _ _ 0 [.int .i64 0] from rfl) (Reps.one (show Kd.M (Kd.int .i64) _ _ _ 0 [.int .i64 0] from rfl) (Reps.one (show Kd.M (Kd.int .i64) _ _ _ 0 [.int .i64 0] from rfl) (Reps.one (show Kd.M (Kd.int .i64) _ _ _ 0 [.int .i64 0] from rfl) (Reps.one (show Kd.M (Kd.int .i64) _ _ _ 0 [.int .i64 0] from rfl) (Reps.one (show Kd.M (Kd.int .i64) _ _ _ 0 [.int .i64 0] from rfl) (Reps.one (show Kd.M (Kd.int .i64) _ _ _ 0 [.int .i64 0] from rfl) (Reps.one (show Kd.M (Kd.int .i64) _ _ _ 1 [.int .i64 1] from rfl) (Reps.one (show Kd.M (Kd.int .i64) _ _ _ 1 [.int .i64 1] from rfl) (Reps.one (show Kd.M (Kd.int .i64) _ _ _ 1 [.int .i64 1] from rfl) (Reps.one (show Kd.M (Kd.int .i64) _ _ _ 1 [.int .i64 1] from rfl) (Reps.one (show Kd.M (Kd.int .i64) _ _ _ 2 [.int .i64 2] from rfl) (Reps.one (show Kd.M (Kd.int .i64) _ _ _ 2 [.int .i64 2] from rfl) (Reps.one (show Kd.M (Kd.int .i64) _ _ _ 2 [.int .i64 2] from rfl) (Reps.one (show Kd.M (Kd.int .i64) _ _ _ 2 [.int .i64 2] from rfl) (Reps.one (show Kd.M (Kd.int .i64) _ _ _ 3 [.int .i64 3] from rfl) (Reps.one (show Kd.M (Kd.int .i64) _ _ _ 3 [.int .i64 3] from rfl) (Reps.one (show Kd.M (Kd.int .i64) _ _ _ 3 [.int .i64 3] from rfl) (Reps.one (show Kd.M (Kd.int .i64) _ _ _ 3 [.int .i64 3] from rfl) (Reps.one (show Kd.M (Kd.int .i64) _ _ _ 4 [.int .i64 4] from rfl) (Reps.one (show Kd.M (Kd.int .i64) _ _ _ 4 [.int .i64 4] from rfl) (Reps.one (show Kd.M (Kd.int .i64) _ _ _ 4 [.int .i64 4] from rfl) (Reps.one (show Kd.M (Kd.int .i64) _ _ _ 4 [.int .i64 4] from rfl) (Reps.one (show Kd.M (Kd.int .i64) _ _ _ 5 [.int .i64 5] from rfl) (Reps.one (show Kd.M (Kd.int .i64) _ _ _ 5 [.int .i64 5] from rfl) (Reps.one (show Kd.M (Kd.int .i64) _ _ _ 5 [.int .i64 5] from rfl) (Reps.one (show Kd.M (Kd.int .i64) _ _ _ 5 [.int .i64 5] from rfl) (Reps.one (show Kd.M (Kd.int .i64) _ _ _ 0 [.int .i64 0] from rfl) (Reps.none _ _)))))))))))))))))))))))))))))));intro v137 w3 ho4 hb hg_ hnew_;clear hg_ hnew_;(first | rw [← Qf.out] at ho4 | (simp only [Int.reduceToNat] at ho4;rw [← Qf.out] at ho4));have n0_:=Aside0.mk (Kd.R_elder' (by (with_reducible repeat (first | apply Kd.R_alloc | apply Kd.R_drewN | apply Kd.R_drew));exact Qa.out) (Kd.R_base ho4) hb);have n1_:=Aside0.mk (Kd.R_lower (Kd.R_new' ho4 (Kd.R_lt (by (with_reducible repeat (first | apply Kd.R_alloc | apply Kd.R_drewN | apply Kd.R_drew));exact Qa.out))) (below_size (by repeat (first | (with_reducible first | exact HB.out | apply below_alloc | apply pw_below_drewN | apply below_drew1) | exact HB.out))));have n2_:=Aside0.mk (below_step (by repeat (first | (with_reducible first | exact HB.out | apply below_alloc | apply pw_below_drewN | apply below_drew1) | exact HB.out)) hb);clear Qa;clear HB;have Qa:=n0_;have Qb:=n1_;have HB:=n2_;clear n0_ n1_ n2_;clear hb ho4) | ((with_reducible refine gate_dst (N:=6) rfl ?_);refine Kd.R_lit (Kd.int .i64) _ 3 ?hg (N:=6) ?hd (xs:=([1,2,3,4,5,7,9,13,17,25,33,49,65,97,129,193,257,385,513,769,1025,1537,2049,3073,4097,6145,8193,12289,16385,24577]:List Int)) (inner:=[.int .i64 1,.int .i64 2,.int .i64 3,.int .i64 4,.int .i64 5,.int .i64 7,.int .i64 9,.int .i64 13,.int .i64 17,.int .i64 25,.int .i64 33,.int .i64 49,.int .i64 65,.int .i64 97,.int .i64 129,.int .i64 193,.int .i64 257,.int .i64 385,.int .i64 513,.int .i64 769,.int .i64 1025,.int .i64 1537,.int .i64 2049,.int .i64 3073,.int .i64 4097,.int .i64 6145,.int .i64 8193,.int .i64 12289,.int .i64 16385,.int .i64 24577]) (ok:=fun _=>True) (okp:=fun _=>True) ?hr ?hp (fun _ hk=>hk) trivial (Below.refl _ _) (Nat.le_refl _) (by simp) ?_;(case hd=>rfl);(case hg=>rfl);(case hr=>first | (go_simp;done) | (go_simp;rfl));(case hp=>exact (Reps.one (show Kd.M (Kd.int .i64) _ _ _ 1 [.int .i64 1] from rfl) (Reps.one (show Kd.M (Kd.int .i64) _ _ _ 2 [.int .i64 2] from rfl) (Reps.one (show Kd.M (Kd.int .i64) _ _ _ 3 [.int .i64 3] from rfl) (Reps.one (show Kd.M (Kd.int .i64) _ _ _ 4 [.int .i64 4] from rfl) (Reps.one (show Kd.M (Kd.int .i64) _ _ _ 5 [.int .i64 5] from rfl) (Reps.one (show Kd.M (Kd.int .i64) _ _ _ 7 [.int .i64 7] from rfl) (Reps.one (show Kd.M (Kd.int .i64) _ _ _ 9 [.int .i64 9] from rfl) (Reps.one (show Kd.M (Kd.int .i64) _ _ _ 13 [.int .i64 13] from rfl) (Reps.one (show Kd.M (Kd.int .i64) _ _ _ 17 [.int .i64 17] from rfl) (Reps.one (show Kd.M (Kd.int .i64) _ _ _ 25 [.int .i64 25] from rfl) (Reps.one (show Kd.M (Kd.int .i64) _ _ _ 33 [.int .i64 33] from rfl) (Reps.one (show Kd.M (Kd.int .i64) _ _ _ 49 [.int .i64 49] from rfl) (Reps.one (show Kd.M (Kd.int .i64) _ _ _ 65 [.int .i64 65] from rfl) (Reps.one (show Kd.M (Kd.int .i64) _ _ _ 97 [.int .i64 97] from rfl) (Reps.one (show Kd.M (Kd.int .i64) _ _ _ 129 [.int .i64 129] from rfl) (Reps.one (show Kd.M (Kd.int .i64) _ _ _ 193 [.int .i64 193] from rfl) (Reps.one (show Kd.M (Kd.int .i64) _ _ _ 257 [.int .i64 257] from rfl) (Reps.one (show Kd.M (Kd.int .i64) _ _ _ 385 [.int .i64 385] from rfl) (Reps.one (show Kd.M (Kd.int .i64) _ _ _ 513 [.int .i64 513] from rfl) (Reps.one (show Kd.M (Kd.int .i64) _ _ _ 769 [.int .i64 769] from rfl) (Reps.one (show Kd.M (Kd.int .i64) _ _ _ 1025 [.int .i64 1025] from rfl) (Reps.one (show Kd.M (Kd.int .i64) _ _ _ 1537 [.int .i64 1537] from rfl) (Reps.one (show Kd.M (Kd.int .i64) _ _ _ 2049 [.int .i64 2049] from rfl) (Reps.one (show Kd.M (Kd.int .i64) _ _ _ 3073 [.int .i64 3073] from rfl) (Reps.one (show Kd.M (Kd.int .i64) _ _ _ 4097 [.int .i64 4097] from rfl) (Reps.one (show Kd.M (Kd.int .i64) _ _ _ 6145 [.int .i64 6145] from rfl) (Reps.one (show Kd.M (Kd.int .i64) _ _ _ 8193 [.int .i64 8193] from rfl) (Reps.one (show Kd.M (Kd.int .i64) _ _ _ 12289 [.int .i64 12289] from rfl) (Reps.one (show Kd.M (Kd.int .i64) _ _ _ 16385 [.int .i64 16385] from rfl) (Reps.one (show Kd.M (Kd.int .i64) _ _ _ 24577 [.int .i64 24577] from rfl) (Reps.none _ _))))))))))))))))))))))))))))))));intro v140 w5 ho6 hb hg_ hnew_;clear hg_ hnew_;(first | rw [← Qg.out] at ho6 | (simp only [Int.reduceToNat] at ho6;rw [← Qg.out] at ho6));have n0_:=Aside0.mk (Kd.R_elder' (by (with_reducible repeat (first | apply Kd.R_alloc | apply Kd.R_drewN | apply Kd.R_drew));exact Qa.out) (Kd.R_base ho6) hb);have n1_:=Aside0.mk (Kd.R_elder' (by (with_reducible repeat (first | apply Kd.R_alloc | apply Kd.R_drewN | apply Kd.R_drew));exact Qb.out) (Kd.R_base ho6) hb);have n2_:=Aside0.mk (Kd.R_lower (Kd.R_new' (Kd.R_new' ho6 (Kd.R_lt (by (with_reducible repeat (first | apply Kd.R_alloc | apply Kd.R_drewN | apply Kd.R_drew));exact Qa.out))) (Kd.R_lt (by (with_reducible repeat (first | apply Kd.R_alloc | apply Kd.R_drewN | apply Kd.R_drew));exact Qb.out))) (below_size (by repeat (first | (with_reducible first | exact HB.out | apply below_alloc | apply pw_below_drewN | apply below_drew1) | exact HB.out))));have n3_:=Aside0.mk (below_step (by repeat (first | (with_reducible first | exact HB.out | apply below_alloc | apply pw_below_drewN | apply below_drew1) | exact HB.out)) hb);clear Qa;clear Qb;clear HB;have Qa:=n0_;have Qb:=n1_;have Qc:=n2_;have HB:=n3_;clear n0_ n1_ n2_ n3_;clear hb ho6) | ((with_reducible refine gate_dst (N:=7) rfl ?_);refine Kd.R_lit (Kd.int .i64) _ 3 ?hg (N:=7) ?hd (xs:=([0,0,0,0,1,1,2,2,3,3,4,4,5,5,6,6,7,7,8,8,9,9,10,10,11,11,12,12,13,13]:List Int)) (inner:=[.int .i64 0,.int .i64 0,.int .i64 0,.int .i64 0,.int .i64 1,.int .i64 1,.int .i64 2,.int .i64 2,.int .i64 3,.int .i64 3,.int .i64 4,.int .i64 4,.int .i64 5,.int .i64 5,.int .i64 6,.int .i64 6,.int .i64 7,.int .i64 7,.int .i64 8,.int .i64 8,.int .i64 9,.int .i64 9,.int .i64 10,.int .i64 10,.int .i64 11,.int .i64 11,.int .i64 12,.int .i64 12,.int .i64 13,.int .i64 13]) (ok:=fun _=>True) (okp:=fun _=>True) ?hr ?hp (fun _ hk=>hk) trivial (Below.refl _ _) (Nat.le_refl _) (by simp) ?_;(case hd=>rfl);(case hg=>rfl);(case hr=>first | (go_simp;done) | (go_simp;rfl));(case hp=>exact (Reps.one (show Kd.M (Kd.int .i64) _ _ _ 0 [.int .i64 0] from rfl) (Reps.one (show Kd.M (Kd.int .i64) _ _ _ 0 [.int .i64 0] from rfl) (Reps.one (show Kd.M (Kd.int .i64) _ _ _ 0 [.int .i64 0] from rfl) (Reps.one (show Kd.M (Kd.int .i64) _ _ _ 0 [.int .i64 0] from rfl) (Reps.one (show Kd.M (Kd.int .i64) _ _ _ 1 [.int .i64 1] from rfl) (Reps.one (show Kd.M (Kd.int .i64) _ _ _ 1 [.int .i64 1] from rfl) (Reps.one (show Kd.M (Kd.int .i64) _ _ _ 2 [.int .i64 2] from rfl) (Reps.one (show Kd.M (Kd.int .i64) _ _ _ 2 [.int .i64 2] from rfl) (Reps.one (show Kd.M (Kd.int .i64) _ _ _ 3 [.int .i64 3] from rfl) (Reps.one (show Kd.M (Kd.int .i64) _ _ _ 3 [.int .i64 3] from rfl) (Reps.one (show Kd.M (Kd.int .i64) _ _ _ 4 [.int .i64 4] from rfl) (Reps.one (show Kd.M (Kd.int .i64) _ _ _ 4 [.int .i64 4] from rfl) (Reps.one (show Kd.M (Kd.int .i64) _ _ _ 5 [.int .i64 5] from rfl) (Reps.one (show Kd.M (Kd.int .i64) _ _ _ 5 [.int .i64 5] from rfl) (Reps.one (show Kd.M (Kd.int .i64) _ _ _ 6 [.int .i64 6] from rfl) (Reps.one (show Kd.M (Kd.int .i64) _ _ _ 6 [.int .i64 6] from rfl) (Reps.one (show Kd.M (Kd.int .i64) _ _ _ 7 [.int .i64 7] from rfl) (Reps.one (show Kd.M (Kd.int .i64) _ _ _ 7 [.int .i64 7] from rfl) (Reps.one (show Kd.M (Kd.int .i64) _ _ _ 8 [.int .i64 8] from rfl) (Reps.one (show Kd.M (Kd.int .i64) _ _ _ 8 [.int .i64 8] from rfl) (Reps.one (show Kd.M (Kd.int .i64) _ _ _ 9 [.int .i64 9] from rfl) (Reps.one (show Kd.M (Kd.int .i64) _ _ _ 9 [.int .i64 9] from rfl) (Reps.one (show Kd.M (Kd.int .i64) _ _ _ 10 [.int .i64 10] from rfl) (Reps.one (show Kd.M (Kd.int .i64) _ _ _ 10 [.int .i64 10] from rfl) (Reps.one (show Kd.M (Kd.int .i64) _ _ _ 11 [.int .i64 11] from rfl) (Reps.one (show Kd.M (Kd.int .i64) _ _ _ 11 [.int .i64 11] from rfl) (Reps.one (show Kd.M (Kd.int .i64) _ _ _ 12 [.int .i64 12] from rfl) (Reps.one (show Kd.M (Kd.int .i64) _ _ _ 12 [.int .i64 12] from rfl) (Reps.one (show Kd.M (Kd.int .i64) _ _ _ 13 [.int .i64 13] from rfl) (Reps.one (show Kd.M (Kd.int .i64) _ _ _ 13 [.int .i64 13] from rfl) (Reps.none _ _))))))))))))))))))))))))))))))));intro v143 w7 ho8 hb hg_ hnew_;clear hg_ hnew_;(first | rw [← Qh.out] at ho8 | (simp only [Int.reduceToNat] at ho8;rw [← Qh.out] at ho8));have n0_:=Aside0.mk (Kd.R_elder' (by (with_reducible repeat (first | apply Kd.R_alloc | apply Kd.R_drewN | apply Kd.R_drew));exact Qa.out) (Kd.R_base ho8) hb);have n1_:=Aside0.mk (Kd.R_elder' (by (with_reducible repeat (first | apply Kd.R_alloc | apply Kd.R_drewN | apply Kd.R_drew));exact Qb.out) (Kd.R_base ho8) hb);have n2_:=Aside0.mk (Kd.R_elder' (by (with_reducible repeat (first | apply Kd.R_alloc | apply Kd.R_drewN | apply Kd.R_drew));exact Qc.out) (Kd.R_base ho8) hb);have n3_:=Aside0.mk (Kd.R_lower (Kd.R_new' (Kd.R_new' (Kd.R_new' ho8 (Kd.R_lt (by (with_reducible repeat (first | apply Kd.R_alloc | apply Kd.R_drewN | apply Kd.R_drew));exact Qa.out))) (Kd.R_lt (by (with_reducible repeat (first | apply Kd.R_alloc | apply Kd.R_drewN | apply Kd.R_drew));exact Qb.out))) (Kd.R_lt (by (with_reducible repeat (first | apply Kd.R_alloc | apply Kd.R_drewN | apply Kd.R_drew));exact Qc.out))) (below_size (by repeat (first | (with_reducible first | exact HB.out | apply below_alloc | apply pw_below_drewN | apply below_drew1) | exact HB.out))));have n4_:=Aside0.mk (below_step (by repeat (first | (with_reducible first | exact HB.out | apply below_alloc | apply pw_below_drewN | apply below_drew1) | exact HB.out)) hb);clear Qa;clear Qb;clear Qc;clear HB;have Qa:=n0_;have Qb:=n1_;have Qc:=n2_;have Qk:=n3_;have HB:=n4_;clear n0_ n1_ n2_ n3_ n4_;clear hb ho8))
 refine bodyPost_ret (results_list (rs:=[.tmp 0,.tmp 1,.tmp 2,.tmp 3]) rfl (by simp) (.tmp (.tmp (.tmp (.tmp .nil))))) rfl ?_;exact ⟨_,_,_,_,by first | rfl | (simp [errW_none,errW_some] <;> rfl) | (simp [*,errW_none,errW_some] <;> rfl),by (with_reducible repeat (first | apply Kd.R_alloc | apply Kd.R_drewN | apply Kd.R_drew));exact Kd.R_mono Qa.out (fun _ hk=>⟨hk.1.1.2,⟨hk.1.2,hk.2⟩⟩),by (with_reducible repeat (first | apply Kd.R_alloc | apply Kd.R_drewN | apply Kd.R_drew));exact Kd.R_mono Qb.out (fun _ hk=>⟨hk.1.1.2,⟨hk.1.2,hk.2⟩⟩),by (with_reducible repeat (first | apply Kd.R_alloc | apply Kd.R_drewN | apply Kd.R_drew));exact Kd.R_mono Qc.out (fun _ hk=>⟨hk.1.1.2,⟨hk.1.2,hk.2⟩⟩),by (with_reducible repeat (first | apply Kd.R_alloc | apply Kd.R_drewN | apply Kd.R_drew));exact Kd.R_mono Qk.out (fun _ hk=>⟨hk.1.1.2,⟨hk.1.2,hk.2⟩⟩),by repeat (first | (with_reducible first | exact HB.out | apply below_alloc | apply pw_below_drewN | apply below_drew1) | exact HB.out)⟩
/-- A table in a block of its own,beside a reader. -/
structure Tbl (w:World) (g:Nat) (v:Value) (b:Nat) (cs ss:List Int) (A:Option Addr) (c:Nat):Prop where
 blk:w.heap[b]?=some (.cells (tab cs (.slice A ss.length c)) 26 (0,0))
 ng:b ≠ g
 nv:v.ownBlock ≠ some b
 foot:Foot w g v A ss
theorem Tbl.fro {w w':World} {g:Nat} {v v':Value} {b:Nat} {cs ss:List Int} {A:Option Addr} {c:Nat} (h:Tbl w g v b cs ss A c) (k:Fro w g v w' v'):Tbl w' g v' b cs ss A c:=by
 have hlt:=blk_lt h.blk;refine ⟨(k.keep.2 b hlt h.ng (fun e=>h.nv e.symm)).trans h.blk,h.ng,fun e=>?_,h.foot.fro k⟩
 rcases k.own with o | ⟨q,o,hq⟩
 ·exact h.nv (by rw [← o];exact e)
 ·rw [o] at e;have:=Option.some.inj e;omega
/-- A reader,both tables,the four rows of bases. -/
structure CSt (w0:World) (g:Nat) (v:Value) (s:ByteArray) (mx:Int) (x:St) (b4 b5:Nat) (ca sa cb sb:List Int) (A B:Option Addr) (c d:Nat) (A6 A7 A8 A9:Option Addr) (w:World):Prop where
 i:ISt w0 g v s mx x w
 ta:Tbl w g v b4 ca sa A c
 tb:Tbl w g v b5 cb sb B d
 r6:Foot w g v A6 lenB
 r7:Foot w g v A7 lenM
 r8:Foot w g v A8 disB
 r9:Foot w g v A9 disM
section
variable {w0 w w':World} {g:Nat} {v v':Value} {s:ByteArray} {mx:Int} {x x':St} {b4 b5:Nat} {ca sa cb sb:List Int} {A B A6 A7 A8 A9:Option Addr} {c d:Nat}
theorem CSt.fro (h:CSt w0 g v s mx x b4 b5 ca sa cb sb A B c d A6 A7 A8 A9 w) (k:Fro w g v w' v') (hi:ISt w0 g v' s mx x' w'):CSt w0 g v' s mx x' b4 b5 ca sa cb sb A B c d A6 A7 A8 A9 w' :=
 ⟨hi,h.ta.fro k,h.tb.fro k,h.r6.fro k,h.r7.fro k,h.r8.fro k,h.r9.fro k⟩
theorem CSt.below (h:CSt w0 g v s mx x b4 b5 ca sa cb sb A B c d A6 A7 A8 A9 w) (hb:Below w.heap.size w w'):CSt w0 g v s mx x b4 b5 ca sa cb sb A B c d A6 A7 A8 A9 w' :=
 h.fro ((Fro.refl _ _ _).below hb) (h.i.below hb)
end
/-- A number that is read off a foot. -/
theorem foot_at {w:World} {g:Nat} {v:Value} {A:Option Addr} {l:List Int} (h:Foot w g v A l) (q:Nat) (hq:q < l.length):∃ ad,A=some ad∧∀ W',KeepBut w W' g v.ownBlock → W'.cell? (ad.add q)=some (.int .i64 (l.getD q 0)):=by
 obtain ⟨ad,e,hc⟩:=Kd.at_int h.now (q:Int) (by omega) (by omega);refine ⟨ad,e,fun W' hk=>?_⟩;obtain ⟨ad2,e2,hc2⟩:=Kd.at_int (h W' hk) (q:Int) (by omega) (by omega);rw [e] at e2;cases e2;rw [Int.toNat_natCast] at hc2;rw [hc2];simp [rd,Int.toNat_natCast]
/-- How much is left of a reader in memory. -/
def imeas (s:ByteArray) (g:Nat) (w:World):Nat :=
 match w.heap[g]? with
 |some (.cells cs _ _)=>(match (cs[1]?:Option Value),(cs[4]?:Option Value) with | some (Value.int _ a),some (Value.int _ e)=>2*(8*(s.size:Int)+1 - a).toNat+(if e=0 then 1 else 0) | _,_=>0)
 |_=>0
theorem ISt.meas {w0 w:World} {g:Nat} {v:Value} {s:ByteArray} {mx:Int} {x:St} (h:ISt w0 g v s mx x w):imeas s g w=2*(8*(s.size:Int)+1 - x.p).toNat+(if x.e=0 then 1 else 0):=by
 unfold imeas;rw [h.blk];rfl
end Go.Proofs.Ytpbhkdamkbopkaa.Inf
