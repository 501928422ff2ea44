/- Parts of the proof, glued by a program of this session (wip/tools/claimfit.py). -/
import Derived.KernelRfl
import Derived.Orders
import Derived.Tactics
import Derived.Below
import Derived.Deep.Draws
import Derived.Deep.AppendLies
import Derived.Maps.AppendAt
import Derived.OwnWalk
import Derived.Laws.BytesArg
import Derived.Laws.MakeOwn
import Derived.Laws.OwnMore
import Derived.Deep.OwnRows
import Derived.Lib.ConvBytes
import Derived.Laws.Slices
import Derived.WalkKit
import Derived.RowKit3
import Derived.Deep.LoopGhost
import Derived.Deep.QuietTactic
import Derived.BigQuiet
import Derived.WideLaws
import Derived.Deep.DeepCutAuto
import Derived.Deep.CutBlock
import Derived.Deep.RegionHeld3
import Derived.Laws.Rows
import Derived.Lib.AppendStr
import Derived.ArgAppend
import Derived.Laws.IdiomCopy
import Derived.RowKit
import Derived.OrdersHeld
import Derived.Laws.BitsLemmas
import Derived.Laws.Entries
import Derived.Laws.CopyRow
import Derived.Laws.AppendOwn
import Derived.Laws.Append
import Derived.Laws.StructEq
import Derived.WideKeyRuns
import Derived.Laws.Concat
import Derived.Laws.BytesString
import Derived.Laws.IdiomStrings
import Derived.Test.YtpbhkdamkbopkaaProg
import Derived.LoopN
import Derived.Scope
import Derived.Test.YtpbhkdamkbopkaaChecked
import Derived.JoinedOf
import Derived.Test.YtpbhkdamkbopkaaMPTA
set_option linter.unusedVariables false
set_option linter.unusedSimpArgs false
set_option linter.unusedSectionVars false
namespace Go.Proofs.Ytpbhkdamkbopkaa.Rf
inductive Tr (α:Type) where
 |e
 |n (l:Tr α) (v:Option α) (r:Tr α)
namespace Tr
variable {α:Type}
def get:Tr α → Nat → Option α
 |.e,_=>none
 |.n l v r,i=>bif Nat.beq i 0 then v else bif Nat.beq (i % 2) 1 then l.get (i / 2) else r.get (i / 2 - 1)
def put (a:α):Nat → Tr α → Nat → Tr α
 |0,t,_=>t
 |f+1,.e,i=>bif Nat.beq i 0 then .n .e (some a) .e else bif Nat.beq (i % 2) 1 then .n (put a f .e (i / 2)) none .e else .n .e none (put a f .e (i / 2 - 1))
 |f+1,.n l v r,i=>bif Nat.beq i 0 then .n l (some a) r else bif Nat.beq (i % 2) 1 then .n (put a f l (i / 2)) v r else .n l v (put a f r (i / 2 - 1))
def set (t:Tr α) (i:Nat) (a:α):Tr α:=put a (i+1) t i
theorem beqt {a b:Nat} (h:a=b):Nat.beq a b=true:=by subst h;exact Nat.beq_refl a
theorem beqf {a b:Nat} (h:¬ a=b):Nat.beq a b=false:=by
 cases e:Nat.beq a b with
 |false=>rfl
 |true=>exact absurd (Nat.eq_of_beq_eq_true e) h
theorem get_put (a:α):∀ (f:Nat) (t:Tr α) (i j:Nat),i < f → (put a f t i).get j=if j=i then some a else t.get j:=by
 intro f
 induction f with
 |zero=>intro t i j h;omega
 |succ f ih =>
  intro t i j h
  have key:∀ (l:Tr α) (v:Option α) (r:Tr α),(bif Nat.beq i 0 then Tr.n l (some a) r else bif Nat.beq (i % 2) 1 then .n (put a f l (i / 2)) v r else .n l v (put a f r (i / 2 - 1))).get j=if j=i then some a else (Tr.n l v r).get j:=by
   intro l v r;by_cases h0:i=0
   ·subst h0;by_cases hj:j=0
    ·subst hj;simp [get]
    ·simp [get,hj,beqf hj]
   have e0:Nat.beq i 0=false:=beqf h0;by_cases h1:i % 2=1;rotate_left
   ·have e1:Nat.beq (i % 2) 1=false:=beqf h1;simp only [e0,e1,cond_false,get];by_cases hj0:j=0
    ·subst hj0;simp [show ¬ 0=i from fun h=>h0 h.symm]
    ·have f0:Nat.beq j 0=false:=beqf hj0;by_cases hj1:j % 2=1
     ·have f1:Nat.beq (j % 2) 1=true:=beqt hj1;simp only [f0,f1,cond_false,cond_true];rw [if_neg (by intro hh;subst hh;exact h1 hj1)]
     ·have f1:Nat.beq (j % 2) 1=false:=beqf hj1;simp only [f0,f1,cond_false];rw [ih r (i / 2 - 1) (j / 2 - 1) (by omega)];by_cases hji:j=i
      ·subst hji;simp
      ·rw [if_neg (by omega),if_neg hji]
   have e1:Nat.beq (i % 2) 1=true:=beqt h1;simp only [e0,e1,cond_false,cond_true,get];by_cases hj0:j=0
   ·subst hj0;simp [show ¬ 0=i from fun h=>h0 h.symm]
   have f0:Nat.beq j 0=false:=beqf hj0;by_cases hj1:j % 2=1
   ·have f1:Nat.beq (j % 2) 1=true:=beqt hj1;simp only [f0,f1,cond_false,cond_true];rw [ih l (i / 2) (j / 2) (by omega)];by_cases hji:j=i
    ·subst hji;simp
    ·rw [if_neg (by omega),if_neg hji]
   ·have f1:Nat.beq (j % 2) 1=false:=beqf hj1;simp only [f0,f1,cond_false];rw [if_neg (by intro hh;subst hh;exact hj1 h1)]
  cases t with
  |e =>
   have:=key .e none .e;simp only [put];rw [this];by_cases hj:j=i
   ·simp [hj]
   ·simp only [hj,if_false,get];cases Nat.beq j 0 <;> cases Nat.beq (j % 2) 1 <;> rfl
  |n l v r=>exact key l v r
theorem get_set (t:Tr α) (i:Nat) (a:α) (j:Nat):(t.set i a).get j=if j=i then some a else t.get j:=get_put a (i+1) t i j (Nat.lt_succ_self i)
end Tr
end Go.Proofs.Ytpbhkdamkbopkaa.Rf
namespace Go.Proofs.Ytpbhkdamkbopkaa.Rf
open Go
structure Row where
 cells:Tr Value
 size:Nat
 ro:Bool
inductive AObj where
 |row (r:Row)
 |map (es:List MapEntry) (clock:Nat)
 |iter (m:Nat) (since:Nat) (seen:List Nat) (last:Nat)
 |dead
structure AW where
 heap:Tr AObj
 next:Nat
 ts:Nat
inductive Res where
 |val (v:Value) (A:AW)
 |skip (A:AW)
 |enter (f:FuncId) (args:Array Value) (A:AW)
def fN {β:Type} (m:Nat) (k:Nat → β):β:=Nat.rec (k 0) (fun p _=>k (Nat.succ p)) m
def lim:IntKind → Nat
 |.i64=>9223372036854775808 | .u64=>18446744073709551616 | .i32=>2147483648 | .u32=>4294967296 | .i16=>32768 | .u16=>65536 | .i8=>128 | .u8=>256
def wr (k:IntKind) (n:Int):Int:=match n with
 |.ofNat m=>bif Nat.blt m (lim k) then .ofNat m else k.wrap (.ofNat m)
 |.negSucc m=>k.wrap (.negSucc m)
def ilt:Int → Int → Bool
 |.ofNat a,.ofNat b=>Nat.blt a b
 |.ofNat _,.negSucc _=>false
 |.negSucc _,.ofNat _=>true
 |.negSucc a,.negSucc b=>Nat.blt b a
def ieq:Int → Int → Bool
 |.ofNat a,.ofNat b=>Nat.beq a b
 |.negSucc a,.negSucc b=>Nat.beq a b
 |_,_=>false
def keq:IntKind → IntKind → Bool
 |.i8,.i8 | .i16,.i16 | .i32,.i32 | .i64,.i64 | .u8,.u8 | .u16,.u16 | .u32,.u32 | .u64,.u64=>true
 |_,_=>false
section
variable (P:Program)
def mkCells:List Value → Nat → Tr Value → Tr Value
 |[],_,t=>t
 |v :: vs,i,t=>mkCells vs (i+1) (t.set i v)
def AW.new (A:AW) (o:AObj):AW:=⟨A.heap.set A.next o,Nat.succ A.next,A.ts⟩
def AW.newRow (A:AW) (l:List Value):AW:=A.new (.row ⟨mkCells l 0 .e,l.length,false⟩)
def AW.turn (A:AW) (b:Nat) (o:AObj):AW:=⟨A.heap.set b o,A.next,A.ts ||| 2 ^ b⟩
def AW.row? (A:AW) (b:Nat):Option Row:=match A.heap.get b with
 |some (.row r)=>some r
 |_=>none
def flatCell:Value → Bool
 |.agg _ | .tuple _=>false
 |_=>true
def readCells (c:Tr Value):Nat → Nat → Option (List Value)
 |_,0=>some []
 |off,n+1=>match c.get off with
  |some v=>match readCells c (off+1) n with | some l=>some (v :: l) | none=>none
  |none=>none
def AW.cells? (A:AW) (a:Addr) (n:Nat):Option (List Value):=match a.spot,A.row? a.block with
 |none,some r=>bif Nat.ble (a.off+n) r.size then readCells r.cells a.off n else none
 |_,_=>none
def lay (t:TypeId):Option (Bool × Nat):=match P.info? t,P.underlying t with
 |some i,some (.struct _) | some i,some (.array _ _)=>some (true,i.size)
 |some i,some _=>some (false,i.size)
 |_,_=>none
def sz (t:TypeId):Option Nat:=(P.info? t).map (·.size)
def clean1:Value → Bool
 |.bool _ | .int _ _ | .string _ | .pointer none | .slice none 0 0 | .map none | .nilFunc | .nilIface=>true
 |_=>false
def clean:Value → Bool
 |.agg cs=>cs.toList.all clean1
 |v=>clean1 v
def zeroOf (t:TypeId):Option Value:=match P.info? t with
 |some i=>match i.zero with
  |some z=>bif clean z then some z else none
  |none=>none
 |none=>none
def AW.load (A:AW) (t:TypeId) (a:Addr):Option Value:=match lay P t with
 |some (true,n)=>(A.cells? a n).map fun l=>.agg l.toArray
 |some (false,_)=>match A.cells? a 1 with | some [v]=>some v | _=>none
 |none=>none
def AW.write (A:AW) (a:Addr) (l:List Value):Option AW:=match a.spot,A.row? a.block with
 |none,some r=>bif Nat.ble (a.off+l.length) r.size && !r.ro && l.all flatCell then some (A.turn a.block (.row ⟨mkCells l a.off r.cells,r.size,false⟩)) else none
 |_,_=>none
def AW.store (A:AW) (t:TypeId) (a:Addr) (v:Value):Option AW:=match sz P t with
 |some n=>bif Nat.beq v.cells.size n then A.write a v.cells.toList else none
 |none=>none
def pureRun (m:Sem Value):Option Value:=match m.run P default with
 |.ok v _=>some v
 |_=>none
def apart (t:TypeId) (cs:Array Value) (off:Nat):Option Value:=match lay P t with
 |some (true,n)=>some (.agg (cs.extract off (off+n)))
 |some (false,_)=>cs[off]?
 |none=>none
def aeqL (f:TypeId → Value → Value → Option Bool) (xs ys:Array Value):List (TypeId × Nat) → Option Bool
 |[]=>some true
 |(t,off) :: l=>match apart P t xs off,apart P t ys off with
  |some x,some y=>match f t x y with
   |some true=>aeqL f xs ys l
   |r=>r
  |_,_=>none
def aeq:Nat → TypeId → Value → Value → Option Bool
 |0,_,_,_=>none
 |d+1,t,x,y=>match P.underlying t,x,y with
  |some .bool,.bool a,.bool b=>some (a == b)
  |some (.int _),.int k a,.int k' b=>if k=k' then some (a == b) else none
  |some .string,.string a,.string b=>some (a.data.toList == b.data.toList)
  |some (.pointer _),.pointer none,.pointer b=>some b.isNone
  |some (.pointer _),.pointer (some _),.pointer none=>some false
  |some (.slice _),.slice none _ _,.slice b _ _=>some b.isNone
  |some (.slice _),.slice (some _) _ _,.slice none _ _=>some false
  |some (.func _ _ _),.nilFunc,.nilFunc=>some true
  |some (.func _ _ _),.nilFunc,.func _ _ _=>some false
  |some (.func _ _ _),.func _ _ _,.nilFunc=>some false
  |some (.struct fs), .agg xs, .agg ys => bif P.stoodInHeld t || !(fs.toList.all fun f => f.name != "_") then none else aeqL P (aeq d) xs ys (fs.toList.map fun f => (f.type, f.offset))
  |some (.array len e),.agg xs,.agg ys=>match sz P e with
   |some n=>aeqL P (aeq d) xs ys ((List.range len).map fun i=>(e,i*n))
   |none=>none
  |_,_,_=>none
def ibin (op:BinOp) (k k':IntKind) (x y:Int):Option Value:=match op with
 |.shl=>bif ilt y 0 then none else some (.int k (k.wrap (x*2 ^ (min y.toNat k.bits))))
 |.shr=>bif ilt y 0 then none else some (.int k (x.fdiv (2 ^ (min y.toNat k.bits))))
 |_=>bif !keq k k' then none else match op with
  |.add=>some (.int k (wr k (x+y)))
  |.sub=>some (.int k (wr k (x - y)))
  |.mul=>some (.int k (wr k (x*y)))
  |.quo=>bif ieq y 0 then none else some (.int k (wr k (x.tdiv y)))
  |.rem=>bif ieq y 0 then none else some (.int k (x.tmod y))
  |.and | .or | .xor | .andNot=>pureRun P (Op.intBits op k x y)
  |.eql=>some (.bool (ieq x y))
  |.neq=>some (.bool (!ieq x y))
  |.lss=>some (.bool (ilt x y))
  |.leq=>some (.bool (!ilt y x))
  |.gtr=>some (.bool (ilt y x))
  |.geq=>some (.bool (!ilt x y))
  |_=>none
def scalar:Value → Bool
 |.bool _ | .int _ _ | .string _=>true
 |_=>false
def abin (op:BinOp) (t:TypeId) (x y:Value):Option Value :=
 match op,x,y with
 |.eql,.string a,.string b=>some (.bool (a.data.toList == b.data.toList))
 |.neq,.string a,.string b=>some (.bool (!(a.data.toList == b.data.toList)))
 |.add,.string a,.string b=>bif Nat.ble (a.size+b.size) 140737488351232 then some (.string (a ++ b)) else none
 |op,.int k a,.int k' b=>ibin P op k k' a b
 |.eql,.agg xs,.agg ys=>bif P.eqGuardType P.depth t then none else (aeq P 50 t (.agg xs) (.agg ys)).map .bool
 |.neq,.agg xs,.agg ys=>bif P.eqGuardType P.depth t then none else (aeq P 50 t (.agg xs) (.agg ys)).map fun b=>.bool (!b)
 |.eql,x,y=>match x with
  |.bool _ | .pointer _ | .slice _ _ _ | .nilFunc | .func _ _ _=>(aeq P 50 t x y).map .bool
  |_=>none
 |.neq,x,y=>match x with
  |.bool _ | .pointer _ | .slice _ _ _ | .nilFunc | .func _ _ _=>(aeq P 50 t x y).map fun b=>.bool (!b)
  |_=>none
 |_,_,_=>none
def strOf:List Value → Option (List UInt8)
 |[]=>some []
 |.int .u8 n :: l=>match strOf l with | some s=>some (UInt8.ofNat n.toNat :: s) | none=>none
 |_=>none
def aconv (s d:TypeId) (x:Value) (A:AW):Option Res :=
 match P.underlying s,P.underlying d,x with
 |some (.int _),some (.int k),.int _ n=>some (.val (.int k (wr k n)) A)
 |some .string,some .string,.string b=>some (.val (.string b) A)
 |some .string,some (.slice e),.string b=>match P.underlying e with
  |some (.int .u8)=>some (.val (.slice (some ⟨A.next,0,none⟩) b.size 1) (A.newRow (b.data.toList.map fun c=>.int .u8 c.toNat)))
  |_=>none
 |some (.slice e),some .string,.slice a len _=>match P.underlying e,a with
  |some (.int .u8),none=>some (.val (.string .empty) A)
  |some (.int .u8),some a=>match A.cells? a len with
   |some l=>(strOf l).map fun s=>.val (.string ⟨s.toArray⟩) A
   |none=>none
  |_,_=>none
 |_,_,_=>none
def asN:Value → Option Nat
 |.int _ (.ofNat n)=>some n
 |_=>none
def optN (d:Nat) (ρ:Operand → Value):Option Operand → Option Nat
 |none=>some d
 |some x=>asN (ρ x)
def aslice (t:TypeId) (x:Value) (ρ:Operand → Value) (lo hi mx:Option Operand):Option Value :=
  match P.underlying t,x with
  | some .string,.string s=>match optN 0 ρ lo,optN s.size ρ hi,mx with
    | some l,some h,none=>bif Nat.ble l h && Nat.ble h s.size then some (.string (s.extract l h)) else none
    | _,_,_=>none
  | some (.slice e),.slice a len cap=>match optN 0 ρ lo,optN len ρ hi,mx,sz P e with
    | some l, some h, none, some n => bif Nat.ble l h && Nat.ble h len then
        (match a with
         | none=>some (.slice none 0 0)
         | some a=>bif Nat.beq l h then some (.slice (some ⟨a.block,a.off,some 1⟩) 0 0) else match a.spot with
           | none=>bif Nat.beq cap n || Nat.beq cap 0 then some (.slice (some ⟨a.block,a.off+l*n,none⟩) (h - l) cap) else none
           | some _=>none)
      else none
    | some 0,some 0,some m,some _=>bif !hi.isSome then none else match optN 0 ρ (some m),a with
      | some 0,none=>some (.slice none 0 0)
      | some 0,some a=>some (.slice (some ⟨a.block,a.off,some 0⟩) 0 0)
      | _,_=>none
    | _,_,_,_=>none
  | some (.array n e),.pointer (some a)=>match optN 0 ρ lo,optN n ρ hi,mx,sz P e,a.spot with
    | some l,some h,none,some k,none=>bif Nat.blt l h && Nat.ble h n then some (.slice (some ⟨a.block,a.off+l*k,none⟩) (h - l) 0) else none
    | _,_,_,_,_=>none
  | _,_=>none
def aindexAddr (t:TypeId) (x i:Value):Option Value:=match P.underlying t,x,asN i with
 |some (.slice e),.slice (some a) len _,some n=>match sz P e,a.spot with
  |some k,none=>bif Nat.blt n len then some (.pointer (some ⟨a.block,a.off+n*k,none⟩)) else none
  |_,_=>none
 |some (.array len e),.pointer (some a),some n=>match sz P e,a.spot with
  |some k,none=>bif Nat.blt n len then some (.pointer (some ⟨a.block,a.off+n*k,none⟩)) else none
  |_,_=>none
 |_,_,_=>none
def aindex (t:TypeId) (x i:Value):Option Value:=match P.underlying t,x,asN i with
 |some .string,.string s,some n=>(s.data.toList[n]?).map fun b=>.int .u8 b.toNat
 |some (.array len e),.agg cs,some n=>match sz P e with
  |some k=>bif Nat.blt n len then apart P e cs (n*k) else none
  |none=>none
 |_,_,_=>none
def ckeyL (f:TypeId → Value → Bool) (xs:Array Value):List (TypeId × Nat) → Bool
 |[]=>true
 |(t,off) :: l=>match apart P t xs off with
  |some x=>f t x && ckeyL f xs l
  |none=>false
def ckey:Nat → TypeId → Value → Bool
 |0,_,_=>false
 |d+1,t,v=>match P.underlying t,v with
  |some (.int _),.int _ _=>true
  |some .string,.string _=>true
  |some .bool,.bool _=>true
  |some (.struct fs), .agg xs => fs.toList.all (fun f => f.name != "_") && ckeyL P (ckey d) xs (fs.toList.map fun f => (f.type, f.offset))
  |some (.array len e),.agg xs=>match sz P e with
   |some n=>ckeyL P (ckey d) xs ((List.range len).map fun i=>(e,i*n))
   |none=>false
  |_,_=>false
def afind (t:TypeId) (k:Value):List MapEntry → Nat → Option (Option (Nat × Value))
 |[],_=>some none
 |e :: es,i=>match aeq P 50 t k e.key with
  |some true=>some (some (i,e.val))
  |some false=>afind t k es (i+1)
  |none=>none
def AW.map? (A:AW) (r:Nat):Option (List MapEntry × Nat):=match A.heap.get r with
 |some (.map es c)=>some (es,c)
 |_=>none
def AW.setMap (A:AW) (r:Nat) (es:List MapEntry) (c:Nat):AW:=A.turn r (.map es c)
def alookup (t:TypeId) (x k:Value) (ok:Bool) (A:AW):Option Value:=match P.underlying t with
 |some (.map kt et)=>match (match x with | .map none=>some [] | .map (some r)=>(A.map? r).map (·.1) | _=>none) with
  |some es => bif ckey P 50 kt k then match afind P kt k es 0 with
    |some (some (_,v))=>some (if ok then .tuple #[v,.bool true] else v)
    |some none=>(zeroOf P et).map fun v=>if ok then .tuple #[v,.bool false] else v
    |none=>none
   else none
  |none=>none
 |_=>none
def bits1:Value → Value → Bool
 |.int k a,.int k' b=>keq k k' && ieq a b
 |.string a,.string b=>a.data.toList == b.data.toList
 |.bool a,.bool b=>a == b
 |_,_=>false
def allBits:List Value → List Value → Bool
 |[],[]=>true
 |a :: l,b :: l'=>bits1 a b && allBits l l'
 |_,_=>false
def keyBits:Value → Value → Bool
 |.agg a,.agg b=>allBits a.toList b.toList
 |x,y=>bits1 x y
def hasKey (es:List MapEntry) (i:Nat) (k:Value):Bool:=match es[i]? with
 |some e=>keyBits e.key k
 |none=>false
def amapUpdate (t:TypeId) (m k v:Value) (A:AW):Option AW:=match P.underlying t,m with
 |some (.map kt _),.map (some r)=>match A.map? r with
  |some (es, c) => bif ckey P 50 kt k then match afind P kt k es 0 with
    |some (some (i,_))=>bif hasKey es i k then some (A.setMap r (es.modify i fun e=>{ e with key:=k,val:=v }) c) else none
    |some none=>some (A.setMap r (es ++ [{ key:=k,val:=v,born:=c }]) (c+1))
    |none=>none
   else none
  |none=>none
 |_,_=>none
def amapEntry (t:TypeId) (m k:Value) (A:AW):Option Res:=match P.underlying t,m with
 |some (.map kt et),.map (some r)=>match A.map? r with
  |some (es, c) => bif ckey P 50 kt k then match afind P kt k es 0 with
    |some (some (i,v))=>bif hasKey es i k then some (.val (.tuple #[v,goInt (((es[i]?).map (·.born)).getD 0)]) (A.setMap r (es.modify i fun e=>{ e with key:=k }) c)) else none
    |some none=>(zeroOf P et).map fun z=>.val (.tuple #[z,goInt c]) (A.setMap r (es ++ [{ key:=k,val:=z,born:=c }]) (c+1))
    |none=>none
   else none
  |none=>none
 |_,_=>none
def aentryStore (m stamp v:Value) (A:AW):Option AW:=match m,asN stamp with
 |.map (some r),some born=>match A.map? r with
  |some (es,c)=>match es.findIdx? (fun e=>Nat.beq e.born born) with
   |some i=>some (A.setMap r (es.modify i fun e=>{ e with val:=v }) c)
   |none=>none
  |none=>none
 |_,_=>none
def amakeSlice (t:TypeId) (l c:Value) (A:AW):Option Res:=match P.underlying t,asN l,asN c with
 |some (.slice e),some l,some c=>match P.info? e with
  |some i=>match zeroOf P e with
   |some z => bif Nat.blt 0 z.cells.size && Nat.beq z.cells.size i.size && Nat.ble l c && Nat.ble (i.bytes * c) 281474976710656 && Nat.ble c 281474976710656 then
     some (.val (.slice (some ⟨A.next,0,none⟩) l i.size) (A.newRow ((List.range (l*i.size)).map (z.cells[· % z.cells.size]!))))
    else none
   |none=>none
  |none=>none
 |_,_,_=>none
def srcCells (A:AW) (size:Nat):Value → Option (List Value × Nat)
 |.slice none _ _=>some ([],0)
 |.slice (some a) len _=>bif Nat.beq len 0 then some ([],0) else (A.cells? a (len*size)).map (·,len)
 |.string s=>bif Nat.beq size 1 then some (s.data.toList.map fun b=>.int .u8 b.toNat,s.size) else none
 |_=>none
def zeroFits (e:TypeId) (size:Nat):Bool:=match zeroOf P e with
 |some z=>Nat.beq z.cells.size size
 |none=>false
def noCountB (ts:Array TypeId):Bool:=match ts[1]? with
 |some u=>match P.underlying u with
  |some (.slice _) | some .string=>true
  |_=>false
 |none=>true
def aappend (ts:Array TypeId) (s x:Value) (A:AW):Option Res:=match (ts[0]?).bind P.underlying,s with
 |some (.slice e),.slice base len cap =>
  bif !noCountB P ts then none else
  match sz P e,P.info? e with
  |some size,some i=>bif Nat.beq size 0 || Nat.beq i.bytes 0 || !zeroFits P e size then none else match srcCells A size x with
   |some (new,n)=>bif Nat.beq n 0 then some (.val (.slice base len cap) A) else
    bif !(new.all flatCell) || !Nat.ble (2*(len+n)*i.bytes) 281474976710656 then none else match base with
    |none=>bif Nat.beq len 0 then some (.val (.slice (some ⟨A.next,0,none⟩) n size) (A.newRow new)) else none
    |some a=>match a.spot with
     |some k=>bif Nat.beq k 0 && Nat.beq len 0 && Nat.beq cap 0 then some (.val (.slice (some ⟨A.next,0,none⟩) n size) (A.newRow new)) else none
     |none=>match A.row? a.block with
      |some r => bif Nat.beq (a.off + len * size) r.size && !r.ro && Nat.beq cap size then
        match readCells r.cells a.off (len*size) with
        |some old=>some (.val (.slice (some ⟨A.next,0,none⟩) (len+n) size) ((A.newRow (old ++ new)).turn a.block .dead))
        |none=>none
       else none
      |none=>none
   |none=>none
  |_,_=>none
 |_,_=>none
def acopy (ts:Array TypeId) (d x:Value) (A:AW):Option Res:=match (ts[0]?).bind P.underlying,d with
 |some (.slice e),.slice base dLen _=>match sz P e with
  |some size=>bif Nat.beq size 0 then none else match x,base with
   |.slice (some b) len _,some a=>match A.cells? b (Nat.min len dLen*size) with
    |some l=>bif Nat.beq (Nat.min len dLen) 0 then some (.val (goInt 0) A) else (A.write a l).map (.val (goInt (Nat.min len dLen)) ·)
    |none=>none
   |.slice none _ _,_=>some (.val (goInt 0) A)
   |_,_=>none
  |none=>none
 |_,_=>none
def foldI (f:Int → Int → Int):Value → List Value → Option Value
 |v,[]=>some v
 |.int k x,.int _ y :: l=>foldI f (.int k (f x y)) l
 |_,_=>none
def alen (ts:Array TypeId) (x:Value):Option Value:=match ts[0]? with
 |some t=>match P.underlying t,x with
  |some .string,.string s=>some (goInt s.size)
  |some (.slice _),.slice _ n _=>some (goInt n)
  |_,_=>none
 |none=>none
def abuiltin (b:Builtin) (ts:Array TypeId) (args:List Value) (A:AW):Option Res:=match b,args with
 |.append,[s,x]=>aappend P ts s x A
 |.copy,[d,x]=>acopy P ts d x A
 |.len,[x]=>(alen P ts x).map (.val · A)
 |.min,v :: l=>(foldI (fun x y=>bif ilt y x then y else x) v l).map (.val · A)
 |.max,v :: l=>(foldI (fun x y=>bif ilt x y then y else x) v l).map (.val · A)
 |_,_=>none
def cleanO:Operand → Bool
 |.const v=>clean v
 |_=>true
def opClean (o:Op):Bool:=o.operands.toList.all cleanO
def mapN (ρ:Operand → Value) (ps:Array (Nat × Operand)):Array (Nat × Value):=ps.map fun (i,x)=>(i,ρ x)
def abuild (t:TypeId) (parts:List (Nat × Value)):Option Value:=match zeroOf P t,P.underlying t with
 |some z,some (.struct fs)=>match fs.toList.mapM (fun f=>(sz P f.type).map fun n=>(f.offset,n)) with
  |some pl=>(Instr.fill (pl[·]?) z.cells parts).map .agg
  |none=>none
 |some z,some (.array _ e)=>match sz P e with
  |some n=>(Instr.fill (fun i=>some (i*n,n)) z.cells parts).map .agg
  |none=>none
 |_,_=>none
def abuildSlice (t:TypeId) (len:Nat) (parts:List (Nat × Value)) (A:AW):Option Res:=match P.underlying t with
 |some (.slice e)=>match sz P e,zeroOf P e with
  |some n, some z => bif Nat.ble (len * n) 1000000 && Nat.blt 0 n then
    match Instr.fill (fun i=>some (i*n,n)) ((Array.range (len*n)).map (z.cells[· % z.cells.size]!)) parts with
    |some cs=>bif cs.toList.all flatCell then some (.val (.slice (some ⟨A.next,0,none⟩) len n) (A.newRow cs.toList)) else none
    |none=>none
   else none
  |_,_=>none
 |_=>none
def aop (ρ:Operand → Value) (o:Oper) (A:AW):Option Res :=
 match o.op with
 |.move x | .assign x=>some (.val (ρ x) A)
 |.pick c a b=>match ρ c with | .bool t=>some (.val (if t then ρ a else ρ b) A) | _=>none
 |.alloc t=>match zeroOf P t with
  |some z=>bif z.cells.toList.all flatCell then some (.val (.pointer (some ⟨A.next,0,none⟩)) (A.newRow z.cells.toList)) else none
  |none=>none
 |.box _ x=>bif (ρ x).cells.toList.all flatCell then some (.val (.pointer (some ⟨A.next,0,none⟩)) (A.newRow (ρ x).cells.toList)) else none
 |.build t ps=>(abuild P t (mapN ρ ps).toList).map (.val · A)
 |.buildSlice t len ps=>abuildSlice P t len (mapN ρ ps).toList A
 |.load t x=>match ρ x with | .pointer (some a)=>(A.load P t a).map (.val · A) | _=>none
 |.store t x v=>match ρ x with | .pointer (some a)=>(A.store P t a (ρ v)).map .skip | _=>none
 |.nilCheck x=>match ρ x with
  |.pointer (some a)=>some (.val (.pointer (some a)) A)
  |.func (.func f) a b=>some (.val (.func (.func f) a b) A)
  |_=>none
 |.binOp op t x y _=>(abin P op t (ρ x) (ρ y)).map (.val · A)
 |.unOp op _ x=>bif scalar (ρ x) then (pureRun P (Op.unary op (ρ x))).map (.val · A) else none
 |.convert s d x=>aconv P s d (ρ x) A
 |.makeFunc (.func f) a b=>some (.val (.func (.func f) (a.map ρ) (b.map ρ)) A)
 |.makeMap t none=>match P.underlying t with | some (.map _ _)=>some (.val (.map (some A.next)) (A.new (.map [] 0))) | _=>none
 |.makeSlice t l c=>amakeSlice P t (ρ l) (ρ c) A
 |.slice t x lo hi mx=>(aslice P t (ρ x) ρ lo hi mx).map (.val · A)
 |.fieldAddr s x f=>match P.underlying s,ρ x with
  |some (.struct fs),.pointer (some a)=>match fs[f]?,a.spot with
   |some fd,none=>match sz P fd.type with
    |some n=>bif Nat.beq n 0 then none else some (.val (.pointer (some ⟨a.block,a.off+fd.offset,none⟩)) A)
    |none=>none
   |_,_=>none
  |_,_=>none
 |.field t x f=>match P.underlying t,ρ x with
  |some (.struct fs),.agg cs=>match fs[f]? with
   |some fd=>(apart P fd.type cs fd.offset).map (.val · A)
   |none=>none
  |_,_=>none
 |.indexAddr t x i=>(aindexAddr P t (ρ x) (ρ i)).map (.val · A)
 |.index t x i=>(aindex P t (ρ x) (ρ i)).map (.val · A)
 |.lookup t x k ok=>(alookup P t (ρ x) (ρ k) ok A).map (.val · A)
 |.mapUpdate t m k v | .insert t m k v=>(amapUpdate P t (ρ m) (ρ k) (ρ v) A).map .skip
 |.mapEntry t m k=>amapEntry P t (ρ m) (ρ k) A
 |.entryStore _ m s v=>(aentryStore (ρ m) (ρ s) (ρ v) A).map .skip
 |.extract x i=>match ρ x with | .tuple vs=>(vs[i]?).map (.val · A) | _=>none
 |.call c=>match c.callee with
  |.value f=>match ρ f with
   |.func (.func g) a b=>match P.funcs[g]? with
    |some fn => bif fn.body.isSome && !(fn.name == "runtime.NumGoroutine") then some (.enter g (a ++ c.args.map ρ ++ b) A) else none
    |none=>none
   |_=>none
  |.builtin b=>abuiltin P b c.argTypes (c.args.map ρ).toList A
  |_=>none
 |_=>none
end
end Go.Proofs.Ytpbhkdamkbopkaa.Rf
namespace Go.Proofs.Ytpbhkdamkbopkaa.Rf
open Go
abbrev Callf:=FuncId → Array Value → AW → Option (Value × AW)
structure St where
 tm:Tr Value
 A:AW
inductive AEx where
 |normal
 |exit (id:Nat)
 |ret
def tget (tm:Tr Value) (t:Nat):Value:=match tm.get t with | some v=>v | none=>undef
def ev (tm:Tr Value):Operand → Value
 |.tmp t=>tget tm t
 |.const v=>v
 |.global g=>.pointer (some ⟨g,0,some 0⟩)
 |.func f=>.func (.func f) #[] #[]
def fV {β:Type} (v:Value) (k:Value → β):β:=match v with
 |.int i (.ofNat m)=>fN m fun m=>k (.int i (.ofNat m))
 |.int i (.negSucc m)=>fN m fun m=>k (.int i (.negSucc m))
 |.bool true=>k (.bool true)
 |.bool false=>k (.bool false)
 |v=>k v
def putD (nt:Nat) (tm:Tr Value) (d:Option Tmp) (v:Value):Option (Tr Value):=match d with
 |some t=>bif Nat.blt t nt then fV v fun v=>some (tm.set t v) else none
 |none=>some tm
def awanted (ops:Array Oper) (tm:Tr Value) (o:Oper):Option Bool:=match o.guard with
 |none=>some true
 |some (g,want)=>match (ops[g]?).bind (·.dst) with
  |some d=>match tget tm d with
   |.bool b=>some (b == want)
   |_=>some false
  |none=>some false
section
variable (P:Program) (call:Callf) (nt:Nat)
def stepOp (ops:Array Oper) (o:Oper) (s:St):Option St:=match awanted ops s.tm o with
 |some true=>match (bif opClean o.op then aop P (ev s.tm) o s.A else none) with
  |some (.val v A)=>(putD nt s.tm o.dst v).map (⟨·,A⟩)
  |some (.skip A)=>(putD nt s.tm o.dst undef).map (⟨·,A⟩)
  |some (.enter f args A)=>match call f args A with
   |some (v,A)=>(putD nt s.tm o.dst v).map (⟨·,A⟩)
   |none=>none
  |none=>none
 |some false=>(putD nt s.tm o.dst undef).map (⟨·,s.A⟩)
 |none=>none
def runOps (ops:Array Oper):List Oper → St → Option St
 |[],s=>some s
 |o :: l,s=>match stepOp P call nt ops o s with
  |some s=>runOps ops l s
  |none=>none
def pureOp:Op → Bool
 |.move _ | .assign _ | .pick .. | .build .. | .nilCheck _ | .binOp .. | .unOp .. | .makeFunc .. | .slice .. | .fieldAddr .. | .field .. | .indexAddr .. | .index .. | .extract ..=>true
 |.call { callee:=.builtin .len,.. } | .call { callee:=.builtin .min,.. } | .call { callee:=.builtin .max,.. }=>true
 |_=>false
def edges (o:Oper):List Nat:=(o.after.toList.filter (Region.binds .any)).map (·.on)
def masks:List Oper → Nat → List Nat → List Nat
 |[],_,acc=>acc
 |o :: l,i,acc=>masks l (i+1) (acc ++ [(edges o).foldl (fun m e=>m ||| 2 ^ e ||| acc.getD e 0) 0])
def drawOk (ops:Array Oper):Bool :=
 let l:=ops.toList
 let b:=masks l 0 []
 (l.zipIdx.all fun (o,i)=>(edges o).all fun e=>Nat.blt e i) &&
 l.zipIdx.all fun (y,j)=>l.zipIdx.all fun (x,i)=>!(Nat.blt i j) || (b.getD j 0).testBit i || Oper.apart ops x y
def kindE (A A':AW):Nat × Nat:=bif Nat.beq (A'.ts % 2 ^ A.next) 0 then (4,0) else (5,A'.ts % 2 ^ A.next)
def kindOf (ρ:Operand → Value) (o:Op) (A A':AW):Nat × Nat:=bif pureOp o then (0,0) else match o with
 |.alloc _ | .box _ _ | .buildSlice _ _ _ | .makeSlice _ _ _ | .makeMap _ _=>(1,0)
 |.load _ x=>match ρ x with | .pointer (some a)=>(2,a.block) | _=>kindE A A'
 |.store _ x _=>match ρ x with | .pointer (some a)=>(3,a.block) | _=>kindE A A'
 |.convert _ _ x=>match ρ x with | .int _ _=>(0,0) | .string _=>(1,0) | .slice none _ _=>(0,0) | .slice (some a) _ _=>(2,a.block) | _=>kindE A A'
 |_=>kindE A A'
def runDraw (ops:Array Oper):List Oper → St → List (Nat × Nat) → Option (St × List (Nat × Nat))
 |[],s,ks=>some (s,ks.reverse)
 |o :: l,s,ks=>match stepOp P call nt ops o ⟨s.tm,s.A.heap,s.A.next,0⟩ with
  |some s' => runDraw ops l ⟨s'.tm, s'.A.heap, s'.A.next, s.A.ts ||| s'.A.ts⟩
    ((match awanted ops s.tm o with | some true=>kindOf (ev s.tm) o.op s.A s'.A | _=>(0,0)) :: ks)
  |none=>none
def free2:Nat × Nat → Nat × Nat → Bool
 |(2,f),(3,g) | (3,f),(2,g) | (3,f),(3,g)=>!(Nat.beq f g)
 |(2,f),(5,m) | (5,m),(2,f)=>!m.testBit f
 |(k,_),(m,_)=>Nat.beq k 0 || Nat.beq m 0 || (Nat.ble k 4 && Nat.ble m 4 && (Nat.beq k 1 || Nat.beq m 1)) || ((Nat.beq k 2 || Nat.beq k 4) && (Nat.beq m 2 || Nat.beq m 4))
def kindsOk (b:List Nat) (ks:List (Nat × Nat)):Bool :=
 ks.zipIdx.all fun (y,j)=>Nat.beq y.1 0 || ks.zipIdx.all fun (x,i)=>!(Nat.blt i j) || free2 x y || (b.getD j 0).testBit i
def region (ops:Array Oper) (draw:Bool) (s:St):Option St :=
 bif draw then
  bif drawOk ops then match runDraw P call nt ops ops.toList s [] with
   |some (s',ks)=>bif kindsOk (masks ops.toList 0 []) ks then some s' else none
   |none=>none
  else none
 else runOps P call nt ops ops.toList s
def loopN (f:St → Option (AEx × St)):Nat → St → Option (AEx × St)
 |0,_=>none
 |k+1,s=>match f s with
  |some (.normal,s')=>loopN f k s'
  |r=>r
def exec (L:Nat):Code → St → Option (AEx × St)
 |.skip,s=>some (.normal,s)
 |.label _,s=>some (.normal,s)
 |.region _ ops draw,s=>match region P call nt ops draw s with | some s=>some (.normal,s) | none=>none
 |.seq a b,s=>match exec L a s with
  |some (.normal,s')=>exec L b s'
  |r=>r
 |.cond c a b,s=>match ev s.tm c with
  |.bool true=>exec L a s
  |.bool false=>exec L b s
  |_=>none
 |.block id c,s=>match exec L c s with
  |some (.exit j,s')=>some (bif Nat.beq j id then .normal else .exit j,s')
  |r=>r
 |.loop c,s=>loopN (exec L c) L s
 |.exit id,s=>some (.exit id,s)
 |.scope c,s=>exec L c s
 |.ret,s=>some (.ret,s)
 |_,_=>none
def results1 (s:St):ResultVar → Option Value
 |.tmp t=>some (tget s.tm t)
 |.cell a t=>match tget s.tm a with | .pointer (some a)=>s.A.load P t a | _=>none
def resultsA (fn:Func) (s:St):Option Value:=match fn.results.toList.mapM (results1 P s) with
 |some [v]=>some v
 |some l=>some (.tuple l.toArray)
 |none=>none
def callF (L:Nat) (f:FuncId) (args:Array Value) (A:AW):Option (Value × AW):=match P.funcs[f]? with
 |some fn=>match fn.body with
  |some c => bif Nat.ble args.size fn.ntmps then match exec P call fn.ntmps L c ⟨mkCells args.toList 0 .e, A⟩ with
    |some (.normal,s) | some (.ret,s)=>match resultsA P fn s with | some v=>some (v,s.A) | none=>none
    |_=>none
   else none
  |none=>none
 |none=>none
end
def orcF:FuncId:=49
abbrev Orf:=Array Value → AW → Option (Value × AW)
def noO:Orf:=fun _ _=>none
def orc (O:Orf) (c:Callf):Callf:=fun f a A=>bif Nat.beq f orcF then (match O a A with | some r=>some r | none=>c f a A) else c f a A
def runF (P:Program) (O:Orf) (L:Nat) (n:Nat):Callf:=Nat.rec (fun _ _ _=>none) (fun _ c=>orc O (callF P c L)) n
def A0:AW:=⟨.e,0,0⟩
end Go.Proofs.Ytpbhkdamkbopkaa.Rf
namespace Go.Proofs.Ytpbhkdamkbopkaa.Rs
open Go Go.RowKit Rf YtpbhkdamkbopkaaW.PrintWords
inductive SC where
 |int (k:IntKind) (n:Int)
 |bool (b:Bool)
 |str (s:ByteArray)
 |ptr (b:Nat) (i:Int) (sz j:Nat)
 |nilp
 |sl (b n:Nat)
 |nils
 |raw (v:Value)
inductive SV1 where
 |c (x:SC)
 |agg (l:List SC)
inductive SV where
 |v (x:SV1)
 |t (l:List SV1)
 |f (g:FuncId) (a b:List SV1)
def SC.free:SC → Bool
 |.int _ _ | .bool _ | .str _ | .nilp | .nils=>true
 |.raw v=>flatCell v
 |_=>false
structure KD where
 α:Type
 sz:Nat
 enc:α → List SC
 dec:List SC → Option α
 rd:List α → Int → α
 wt:List α → Int → α → List α
 lim:Nat
 str:Option (List α → ByteArray)
 pos:0 < sz
 len:∀ x,(enc x).length=sz
 fr:∀ x,(enc x).all SC.free=true
 dec_is:∀ l x,dec l=some x → enc x=l
 rd_is:∀ (xs:List α) (i:Int),i.toNat < xs.length → xs[i.toNat]?=some (rd xs i)
 wt_is:∀ (xs:List α) (i:Int) (x:α),wt xs i x=xs.set i.toNat x
 ofs:Option (ByteArray → List α)
 str_is:∀ f,str=some f → ∃ g:α → Int,sz=1∧(∀ x,enc x=[.int .u8 (g x)])∧∀ xs,f xs=⟨(xs.map fun x=>UInt8.ofNat (g x).toNat).toArray⟩
 ofs_is:∀ f,ofs=some f → sz=1∧∀ s:ByteArray,(f s).map enc=s.data.toList.map fun b=>[.int .u8 b.toNat]
inductive SRow (KT:TypeId → KD) where
 |box (l:List SC)
 |own (t:TypeId) (xs:List (KT t).α)
 |view (t:TypeId) (xs:List (KT t).α)
 |dead
structure SR (KT:TypeId → KD) where
 row:SRow KT
 root:Nat
 ex:Bool
inductive TI where
 |int (k:IntKind) | bool | str | ptr | fn | mp (k v:TypeId)
 |slice (e:TypeId)
 |struct (fs:List (Nat × Nat × Bool))
 |array (n:Nat) (e:TypeId)
structure TE where
 ti:TI
 size:Nat
 zero:List SC
def TE.agg (e:TE):Bool:=match e.ti with
 |.struct _ | .array _ _=>true
 |_=>false
def upd (ρ:Nat → SV) (t:Nat) (v:SV):Nat → SV:=fun i=>bif Nat.beq i t then v else ρ i
def con1:Value → SC
 |.int k n=>.int k n
 |.bool b=>.bool b
 |.string s=>.str s
 |.pointer none=>.nilp
 |.slice none 0 0=>.nils
 |v=>.raw v
def con:Value → SV
 |.agg cs=>.v (.agg (cs.toList.map con1))
 |v=>.v (.c (con1 v))
def sev (ρ:Nat → SV):Operand → SV
 |.tmp t=>ρ t
 |.const v=>con v
 |.global g=>.v (.c (.raw (.pointer (some ⟨g,0,some 0⟩))))
 |.func f=>.f f [] []
def hset.{u,v} {α:Type u} {β:Type v}:List α → Nat → α → (List α → β) → β
 |[],_,_,k=>k []
 |_ :: l,0,y,k=>k (y :: l)
 |x :: l,n+1,y,k=>hset l n y fun l=>k (x :: l)
def happ.{u,v} {α:Type u} {β:Type v}:List α → α → (List α → β) → β
 |[],y,k=>k [y]
 |x :: l,y,k=>happ l y fun l=>k (x :: l)
def hlen.{u,v} {α:Type u} {β:Type v}:List α → Nat → (Nat → β) → β
 |[],n,k=>k n
 |_ :: l,n,k=>hlen l (n+1) k
def cput.{v} {β:Type v}:List SC → Nat → List SC → (List SC → β) → β
 |l,_,[],k=>k l
 |[],_,_,k=>k []
 |_ :: l,0,y :: ys,k=>cput l 0 ys fun l=>k (y :: l)
 |x :: l,n+1,ys,k=>cput l n ys fun l=>k (x :: l)
def ctake.{v} {β:Type v}:List SC → Nat → Nat → (List SC → Option β) → Option β
 |_,0,0,k=>k []
 |x :: l,0,n+1,k=>ctake l 0 n fun l=>k (x :: l)
 |_ :: l,j+1,n,k=>ctake l j n k
 |[],0,_+1,_=>none
 |[],_+1,_,_=>none
abbrev SOut (KT:TypeId → KD):=Option (SV × List (SR KT) × (Nat × Nat) × List Prop)
abbrev c1 (x:SC):SV:=.v (.c x)
def SC.flat:SC → Bool
 |.raw v=>flatCell v
 |_=>true
def dynI:List SC → List Int
 |.int .i64 n :: l=>n :: dynI l
 |_=>[]
def cints.{v} {β:Type v}:List SC → Nat → (List Int → Option β) → Option β
 |_ :: l,j+1,k=>cints l j k
 |.int .i64 n :: l,0,k=>cints l 0 fun m=>k (n :: m)
 |[],_+1,_=>none
 |_,0,k=>k []
def crds.{v} {β:Type v} (L:List Int):Nat → Nat → (List SC → β) → β
 |0,_,k=>k []
 |n+1,q,k=>crds L n (q+1) fun m=>k (.int .i64 (L.getD q 0) :: m)
def flats:List SC → Bool
 |[]=>true
 |x :: l=>match x.flat with | true=>flats l | false=>false
def cells1:SV → Option (List SC)
 |.v (.c x)=>match x.flat with | true=>some [x] | false=>none
 |.v (.agg l)=>match flats l with | true=>some l | false=>none
 |_=>none
def fsv.{v} {β:Type v}:SV → (SV → β) → β
 |.v (.c x),k=>k (.v (.c x))
 |.v (.agg l),k=>k (.v (.agg l))
 |.t l,k=>k (.t l)
 |.f g a b,k=>k (.f g a b)
section
variable {KT:TypeId → KD} (T:TypeId → Option TE)
def hkill.{v} {β:Type v} (root b:Nat) (stay:Bool):List (SR KT) → Nat → (List (SR KT) → β) → β
 |[],_,k=>k []
 |x :: l,i,k=>match Nat.beq x.root root && !(stay && Nat.beq i b) with
  |true=>hkill root b stay l (i+1) fun l=>k (⟨.dead,x.root,x.ex⟩ :: l)
  |false=>hkill root b stay l (i+1) fun l=>k (x :: l)
def hget:List (SR KT) → Nat → Option (SR KT)
 |[],_=>none
 |x :: _,0=>some x
 |_ :: l,n+1=>hget l n
def sout (v:SV) (h:List (SR KT)):SOut KT:=some (v,h,(0,0),[])
def one (x:SC) (h:List (SR KT)):SOut KT:=some (c1 x,h,(0,0),[])
def kenc:(K:KD) → List K.α → Int → (List SC → Prop → SOut KT) → SOut KT
 |⟨_,_,enc,_,rd,_,_,_,_,_,_,_,_,_,_,_,_⟩,xs,i,k=>k (enc (rd xs i)) (i.toNat < xs.length)
def klen:(K:KD) → List K.α → (Nat → SOut KT) → SOut KT
 |⟨_,_,_,_,_,_,_,_,_,_,_,_,_,_,_,_,_⟩,xs,k=>k xs.length
def kstr:(K:KD) → List K.α → (ByteArray → SOut KT) → SOut KT
 |⟨_,_,_,_,_,_,_,str,_,_,_,_,_,_,_,_,_⟩,xs,k=>match str with
  |some f=>k (f xs)
  |none=>none
def kput:(K:KD) → List K.α → Int → Nat → List SC → (List K.α → Prop → SOut KT) → SOut KT
 |⟨_,_,enc,dec,rd,wt,_,_,_,_,_,_,_,_,_,_,_⟩,xs,i,j,ys,k=>cput (enc (rd xs i)) j ys fun m=>match dec m with
  |some x=>k (wt xs i x) (i.toNat < xs.length)
  |none=>none
def kdec:(K:KD) → List SC → (K.α → SOut KT) → SOut KT
 |⟨_,_,_,dec,_,_,_,_,_,_,_,_,_,_,_,_,_⟩,l,k=>match dec l with
  |some x=>k x
  |none=>none
def ksz (K:KD) (k:Nat → SOut KT):SOut KT:=match K with | ⟨_,sz,_,_,_,_,_,_,_,_,_,_,_,_,_,_,_⟩=>k sz
def kofs:(K:KD) → ByteArray → (List K.α → SOut KT) → SOut KT
 |⟨_,_,_,_,_,_,_,_,_,_,_,_,_,_,ofs,_,_⟩,s,k=>match ofs with
  |some f=>k (f s)
  |none=>none
def klim (K:KD) (k:Nat → SOut KT):SOut KT:=match K with | ⟨_,_,_,_,_,_,lim,_,_,_,_,_,_,_,_,_,_⟩=>k lim
def sload1 (e:TE) (l:List SC) (j root:Nat) (cs:List Prop) (h:List (SR KT)):SOut KT:=match e.agg with
 |true=>ctake l j e.size fun m=>some (.v (.agg m),h,(2,root),cs)
 |false=>ctake l j 1 fun m=>match m with
  |[x]=>some (c1 x,h,(2,root),cs)
  |_=>none
def sload (t:TypeId) (x:SV) (h:List (SR KT)):SOut KT:=match T t,x with
 |some e,.v (.c (.ptr b i sz j))=>match hget h b with
  |some ⟨.box l,root,_⟩=>bif Nat.beq sz 0 then sload1 e l j root [] h else bif Nat.beq sz 1 && !e.agg then cints l j fun L=>hlen L 0 fun n=>some (c1 (.int .i64 (rd L i)),h,(2,root),[i.toNat < n]) else none
  |some ⟨.own t xs,root,_⟩=>bif Nat.beq sz (KT t).sz then kenc (KT t) xs i fun l p=>sload1 e l j root [p] h else none
  |some ⟨.view t xs,root,_⟩=>bif Nat.beq sz (KT t).sz then kenc (KT t) xs i fun l p=>sload1 e l j root [p] h else none
  |_=>none
 |_,_=>none
def sstore (t:TypeId) (x v:SV) (h:List (SR KT)):SOut KT:=match T t,x,cells1 v with
 |some e,.v (.c (.ptr b i sz j)),some ys=>bif !Nat.beq ys.length e.size then none else match hget h b with
  |some ⟨.box l, root, true⟩ => bif Nat.beq sz 0 && Nat.ble (j + ys.length) l.length then cput l j ys fun m => hkill root b true h 0 fun h => hset h b ⟨.box m, root, true⟩ fun h => some (c1 (.raw undef), h, (3, root), []) else bif Nat.beq sz 1 then (match ys with
    |[.int .i64 y]=>cints l j fun L=>hlen L 0 fun n=>crds (L.set i.toNat y) n 0 fun zs=>cput l j zs fun m=>hkill root b true h 0 fun h=>hset h b ⟨.box m,root,true⟩ fun h=>some (c1 (.raw undef),h,(3,root),[i.toNat < n])
    |_=>none) else none
  |some ⟨.own t xs,root,true⟩=>bif Nat.beq sz (KT t).sz && Nat.ble (j+ys.length) sz then kput (KT t) xs i j ys fun zs p=>hkill root b true h 0 fun h=>hset h b ⟨.own t zs,root,true⟩ fun h=>some (c1 (.raw undef),h,(3,root),[p]) else none
  |_=>none
 |_,_,_=>none
def snew (row:SRow KT) (v:Nat → SC) (k:Nat × Nat) (cs:List Prop) (h:List (SR KT)):SOut KT:=hlen h 0 fun n=>happ h ⟨row,n,true⟩ fun h=>some (c1 (v n),h,k,cs)
def salloc (t:TypeId) (h:List (SR KT)):SOut KT:=match T t with
 |some e=>match e.ti with
  |.array n el=>match T el with
   |some f=>kdec (KT el) f.zero fun z=>ksz (KT el) fun sz=>snew (.own el (List.replicate n z)) (fun b=>.ptr b 0 sz 0) (1,0) [] h
   |_=>none
  |_=>snew (.box e.zero) (fun b=>.ptr b 0 0 0) (1,0) [] h
 |none=>none
def sbox (v:SV) (h:List (SR KT)):SOut KT:=match cells1 v with
 |some l=>snew (.box l) (fun b=>.ptr b 0 0 0) (1,0) [] h
 |none=>none
def sfill (place:Nat → Option (Nat × Nat)):List (Nat × SV) → List SC → (List SC → SOut KT) → SOut KT
 |[],l,k=>k l
 |(i,v) :: ps,l,k=>match place i,cells1 v with
  |some (off,n),some ys=>bif Nat.beq ys.length n && Nat.ble (off+n) l.length then cput l off ys fun l=>sfill place ps l k else none
  |_,_=>none
def fsAt:List (Nat × Nat × Bool) → Nat → Option (Nat × Nat × Bool)
 |[],_=>none
 |x :: _,0=>some x
 |_ :: l,n+1=>fsAt l n
def spart (ρ:Nat → SV):List (Nat × Operand) → List (Nat × SV)
 |[]=>[]
 |(i,x) :: l=>(i,sev ρ x) :: spart ρ l
def sbuild (t:TypeId) (ps:List (Nat × SV)) (h:List (SR KT)):SOut KT:=match T t with
 |some e=>match e.ti with
  |.struct fs=>sfill (fun i=>match fsAt fs i with | some (o,n,_)=>some (o,n) | none=>none) ps e.zero fun l=>sout (.v (.agg l)) h
  |_=>none
 |none=>none
def selems (K:KD):List (Nat × SV) → Nat → Nat → (List K.α → SOut KT) → SOut KT
 |[],i,n,k=>bif Nat.beq i n then k [] else none
 |(i',v) :: ps,i,n,k=>bif !Nat.beq i i' then none else match cells1 v with
  |some l=>kdec K l fun x=>selems K ps (i+1) n fun xs=>k (x :: xs)
  |none=>none
def sbuildSlice (t:TypeId) (n:Nat) (ps:List (Nat × SV)) (h:List (SR KT)):SOut KT:=match T t with
 |some e=>match e.ti with
  |.slice el=>bif Nat.blt 0 n && Nat.ble (n*(KT el).sz) 1000000 then selems (KT el) ps 0 n fun xs=>snew (.own el xs) (fun b=>.sl b n) (1,0) [] h else none
  |_=>none
 |none=>none
def sint (k:IntKind) (n:Int) (h:List (SR KT)):SOut KT:=match k with
 |.i64=>one (.int .i64 (wrap64 n)) h
 |.u8=>one (.int .u8 (n % 256)) h
 |.u16=>one (.int .u16 (n % 65536)) h
 |.u32=>one (.int .u32 (n % 4294967296)) h
 |k=>one (.int k (k.wrap n)) h
def sbinI (op:BinOp) (k k':IntKind) (a b:Int) (h:List (SR KT)):SOut KT:=match op with
 |.shl=>match k with
  |.i64=>some (c1 (.int .i64 (wrap64 (a*2 ^ (min b.toNat 64)))),h,(0,0),[0≤b])
  |k=>some (c1 (.int k (k.wrap (a*2 ^ (min b.toNat k.bits)))),h,(0,0),[0≤b])
 |.shr=>some (c1 (.int k (a / (2 ^ (min b.toNat k.bits)))),h,(0,0),[0≤b])
 |op=>match keq k k',op with
  |true,.add=>sint k (a+b) h
  |true,.sub=>sint k (a - b) h
  |true,.mul=>sint k (a*b) h
  |true,.quo=>match k with
   |.i64=>some (c1 (.int .i64 (wrap64 (Int.tdiv a b))),h,(0,0),[b ≠ 0])
   |.u32=>some (c1 (.int .u32 (a / b)),h,(0,0),[0≤a,0 < b,a < 4294967296])
   |k=>some (c1 (.int k (k.wrap (Int.tdiv a b))),h,(0,0),[b ≠ 0])
  |true,.rem=>match k with
   |.u32=>some (c1 (.int .u32 (a % b)),h,(0,0),[0≤a,0 < b])
   |k=>some (c1 (.int k (Int.tmod a b)),h,(0,0),[b ≠ 0])
  |true,.eql=>one (.bool (a == b)) h
  |true,.neq=>one (.bool (a != b)) h
  |true,.lss=>one (.bool (decide (a < b))) h
  |true,.leq=>one (.bool (decide (a≤b))) h
  |true,.gtr=>one (.bool (decide (a > b))) h
  |true,.geq=>one (.bool (decide (a ≥ b))) h
  |true,.and=>one (.int k (Go.bits .and k a b)) h
  |true,.or=>one (.int k (Go.bits .or k a b)) h
  |true,.xor=>one (.int k (Go.bits .xor k a b)) h
  |_,_=>none
def sbin (op:BinOp) (x y:SV) (h:List (SR KT)):SOut KT:=match x,y with
 |.v (.c (.int k a)),.v (.c (.int k' b))=>sbinI op k k' a b h
 |.v (.c (.str a)),.v (.c (.str b))=>match op with
  |.add=>some (c1 (.str (a ++ b)),h,(0,0),[a.size+b.size≤140737488351232])
  |_=>none
 |_,_=>none
def sun (op:UnOp) (x:SV) (h:List (SR KT)):SOut KT:=match op,x with
 |.not,.v (.c (.bool b))=>one (.bool (!b)) h
 |_,_=>none
def sconv (s d:TypeId) (x:SV) (h:List (SR KT)):SOut KT:=match T s,T d,x with
 |some ⟨.int _,_,_⟩,some ⟨.int k,_,_⟩,.v (.c (.int _ n))=>sint k n h
 |some ⟨.slice el,_,_⟩,some ⟨.str,_,_⟩,.v (.c (.sl b n))=>match hget h b,T el with
  |some ⟨.own t xs,root,_⟩,some ⟨.int .u8,_,_⟩=>bif Nat.beq t el then klen (KT t) xs fun nx=>kstr (KT t) xs fun s=>some (c1 (.str s),h,(2,root),[n=nx]) else none
  |_,_=>none
 |some ⟨.slice el,_,_⟩,some ⟨.str,_,_⟩,.v (.c .nils)=>match T el with
  |some ⟨.int .u8,_,_⟩=>one (.str .empty) h
  |_=>none
 |_,_,_=>none
def part {α:Type} (xs:List α) (lo hi:Option Int):List α:=match lo,hi with
 |none,none=>xs
 |some a,none=>xs.drop a.toNat
 |none,some b=>xs.take b.toNat
 |some a,some b=>(xs.take b.toNat).drop a.toNat
def sview (t:TypeId) (xs:List (KT t).α) (root:Nat) (ex:Bool) (n:Nat) (lo hi:Option Int) (h:List (SR KT)):SOut KT :=
 klen (KT t) xs fun nx=>klen (KT t) (part xs lo hi) fun np=>hlen h 0 fun N=>happ h ⟨.view t (part xs lo hi),root,ex⟩ fun h=>match lo,hi with
  |none,none=>none
  |some a,none=>some (c1 (.sl N np),h,(0,0),[n=nx,0≤a,a≤(nx:Int)])
  |none,some b=>some (c1 (.sl N np),h,(0,0),[n=nx,0≤b,b≤(nx:Int)])
  |some a,some b=>some (c1 (.sl N np),h,(0,0),[n=nx,0≤a,a≤b,b≤(nx:Int)])
def optV (ρ:Nat → SV):Option Operand → Option (Option Int)
 |none=>some none
 |some x=>match sev ρ x with
  |.v (.c (.int _ n))=>some (some n)
  |_=>none
def sslice (t:TypeId) (ρ:Nat → SV) (x:SV) (lo hi mx:Option Operand) (h:List (SR KT)):SOut KT:=match T t,x,mx with
 |some ⟨.str,_,_⟩,.v (.c (.str s)),none=>match lo,hi with
  |some l,none=>match sev ρ l with
   |.v (.c (.int _ a))=>some (c1 (.str (s.extract a.toNat s.size)),h,(0,0),[0≤a,a≤(s.size:Int)])
   |_=>none
  |none,some u=>match sev ρ u with
   |.v (.c (.int _ b))=>some (c1 (.str (s.extract 0 b.toNat)),h,(0,0),[0≤b,b≤(s.size:Int)])
   |_=>none
  |some l,some u=>match sev ρ l,sev ρ u with
   |.v (.c (.int _ a)),.v (.c (.int _ b))=>some (c1 (.str (s.extract a.toNat b.toNat)),h,(0,0),[0≤a,a≤b,b≤(s.size:Int)])
   |_,_=>none
  |none,none=>none
 |some ⟨.slice el,_,_⟩,.v (.c (.sl b n)),none=>match optV ρ lo,optV ρ hi,hget h b with
  |some lo,some hi,some ⟨.own t xs,root,ex⟩=>bif Nat.beq t el then sview t xs root ex n lo hi h else none
  |some lo,some hi,some ⟨.view t xs,root,ex⟩=>bif Nat.beq t el then sview t xs root ex n lo hi h else none
  |_,_,_=>none
 |_,_,_=>none
def sfieldAddr (t:TypeId) (x:SV) (f:Nat) (h:List (SR KT)):SOut KT:=match T t,x with
 |some e,.v (.c (.ptr b i sz j))=>match e.ti with
  |.struct fs=>match fsAt fs f with
   |some (o,n,_)=>bif Nat.beq n 0 then none else one (.ptr b i sz (j+o)) h
   |none=>none
  |_=>none
 |_,_=>none
def sfield (t:TypeId) (x:SV) (f:Nat) (h:List (SR KT)):SOut KT:=match T t,x with
 |some e,.v (.agg l)=>match e.ti with
  |.struct fs=>match fsAt fs f with
   |some (o,n,true)=>ctake l o n fun m=>sout (.v (.agg m)) h
   |some (o,_,false)=>ctake l o 1 fun m=>match m with | [y]=>one y h | _=>none
   |none=>none
  |_=>none
 |_,_=>none
def sindexAddr (t:TypeId) (x i:SV) (h:List (SR KT)):SOut KT:=match T t,x,i with
 |some e,.v (.c (.sl b n)),.v (.c (.int _ i))=>match e.ti with
  |.slice el=>ksz (KT el) fun sz=>some (c1 (.ptr b i sz 0),h,(0,0),[0≤i,i < (n:Int)])
  |_=>none
 |some e,.v (.c (.ptr b (.ofNat 0) sz j)),.v (.c (.int _ i))=>match e.ti with
  |.array n el=>bif Nat.beq sz (KT el).sz && Nat.beq j 0 then some (c1 (.ptr b i sz 0),h,(0,0),[0≤i,i < (n:Int)]) else bif Nat.beq sz 0 && Nat.beq (KT el).sz 1 then some (c1 (.ptr b i 1 j),h,(0,0),[0≤i,i < (n:Int)]) else none
  |_=>none
 |_,_,_=>none
def sindex (t:TypeId) (x i:SV) (h:List (SR KT)):SOut KT:=match T t,x,i with
 |some ⟨.str,_,_⟩,.v (.c (.str s)),.v (.c (.int _ i))=>some (c1 (.int .u8 (bt s i)),h,(0,0),[0≤i,i < (s.size:Int)])
 |some ⟨.array n el,_,_⟩,.v (.agg l),.v (.c (.int _ i))=>match T el with
  |some ⟨.int _,1,_⟩=>cints l 0 fun L=>hlen L 0 fun m=>bif Nat.beq m n then some (c1 (.int .i64 (rd L i)),h,(0,0),[0≤i,i < (n:Int)]) else none
  |_=>none
 |_,_,_=>none
def slen (ts:Array TypeId) (x:SV) (h:List (SR KT)):SOut KT:=match ts with
 |⟨[t]⟩=>match T t,x with
  |some ⟨.str,_,_⟩,.v (.c (.str s))=>one (.int .i64 (s.size:Int)) h
  |some ⟨.slice _,_,_⟩,.v (.c (.sl _ n))=>one (.int .i64 (n:Int)) h
  |some ⟨.slice _,_,_⟩,.v (.c .nils)=>one (.int .i64 0) h
  |_,_=>none
 |_=>none
def smakeSlice (t:TypeId) (l c:SV) (h:List (SR KT)):SOut KT:=match T t,l,c with
 |some e,.v (.c (.int _ n)),.v (.c (.int _ m))=>match e.ti with
  |.slice el=>match T el with
   |some f=>kdec (KT el) f.zero fun z=>klim (KT el) fun lim=>klen (KT el) (List.replicate n.toNat z) fun nz=>snew (.own el (List.replicate n.toNat z)) (fun b=>.sl b nz) (1,0) [0≤n,n=m,n≤((2*lim:Nat):Int)] h
   |_=>none
  |_=>none
 |_,_,_=>none
def sapp (h:List (SR KT)) (el:TypeId) (y:SV) (k:List (KT el).α → Nat → SOut KT):SOut KT:=match y with
 |.v (.c (.sl b m))=>match hget h b with
  |some ⟨.own t ys,_,_⟩=>if e:t=el then k (e ▸ ys) m else none
  |some ⟨.view t ys,_,_⟩=>if e:t=el then k (e ▸ ys) m else none
  |_=>none
 |_=>none
def sapp2 (el:TypeId) (lim:Nat) (s:SV) (ys:List (KT el).α) (m:Nat) (h:List (SR KT)):SOut KT:=match s with
 |.v (.c .nils)=>klen (KT el) ys fun ny=>snew (.own el ys) (fun b=>.sl b ny) (4,0) [0 < ny,m=ny,ny≤lim] h
 |.v (.c (.sl b n))=>match hget h b with
  |some ⟨.own t xs, root, true⟩ => if e : t = el then hkill root b false h 0 fun h =>
    klen (KT t) xs fun nx=>klen (KT el) ys fun ny=>klen (KT el) ((e ▸ xs:List (KT el).α) ++ ys) fun nz =>
    snew (.own el ((e ▸ xs:List (KT el).α) ++ ys)) (fun b=>.sl b nz) (6,0) [n=nx,0 < ny,m=ny,nx+ny≤lim] h else none
  |_=>none
 |_=>none
def sappend (ts:Array TypeId) (s y:SV) (h:List (SR KT)):SOut KT:=match ts with
 |⟨[t0,t1]⟩=>match T t0,T t1 with
  |some ⟨.slice el,_,_⟩,some ⟨.slice _,_,_⟩=>sapp h el y fun ys m=>klim (KT el) fun lim=>sapp2 el lim s ys m h
  |_,_=>none
 |_=>none
def sappstr (ts:Array TypeId) (s:SV) (z:ByteArray) (h:List (SR KT)):SOut KT:=match ts with
 |⟨[t0,t1]⟩=>match T t0,T t1 with
  |some ⟨.slice el,_,_⟩,some ⟨.str,_,_⟩=>kofs (KT el) z fun ys=>klim (KT el) fun lim=>match s with
   |.v (.c (.sl b n))=>match hget h b with
    |some ⟨.own t xs, root, true⟩ => if e : t = el then hkill root b false h 0 fun h =>
      klen (KT t) xs fun nx=>klen (KT el) ys fun ny=>klen (KT el) ((e ▸ xs:List (KT el).α) ++ ys) fun nz =>
      hlen h 0 fun N=>happ h ⟨.own el ((e ▸ xs:List (KT el).α) ++ ys),root,true⟩ fun h=>some (c1 (.sl N nz),h,(6,0),[n=nx,nx+ny≤lim]) else none
    |_=>none
   |_=>none
  |_,_=>none
 |_=>none
def sfoldI (f:Int → Int → Int):Int → List SV → Option Int
 |a,[]=>some a
 |a,.v (.c (.int _ b)) :: l=>sfoldI f (f a b) l
 |_,_=>none
def sfold (f:Int → Int → Int) (x:SV) (l:List SV) (h:List (SR KT)):SOut KT:=match x with
 |.v (.c (.int k a))=>match sfoldI f a l with
  |some r=>one (.int k r) h
  |none=>none
 |_=>none
def sevs (ρ:Nat → SV):List Operand → List SV
 |[]=>[]
 |x :: l=>sev ρ x :: sevs ρ l
def svs1 (ρ:Nat → SV):List Operand → Option (List SV1)
 |[]=>some []
 |x :: l=>match sev ρ x,svs1 ρ l with
  |.v y,some m=>some (y :: m)
  |_,_=>none
def sext:List SV1 → Nat → Option SV1
 |[],_=>none
 |x :: _,0=>some x
 |_ :: l,n+1=>sext l n
def sop (ρ:Nat → SV) (o:Op) (h:List (SR KT)):SOut KT:=match o with
 |.move x | .assign x=>fsv (sev ρ x) fun v=>sout v h
 |.pick c a b=>match sev ρ c with
  |.v (.c (.bool true))=>fsv (sev ρ a) fun v=>sout v h
  |.v (.c (.bool false))=>fsv (sev ρ b) fun v=>sout v h
  |_=>none
 |.alloc t=>salloc T t h
 |.box _ x=>sbox (sev ρ x) h
 |.build t ps=>sbuild T t (spart ρ ps.toList) h
 |.buildSlice t n ps=>sbuildSlice T t n (spart ρ ps.toList) h
 |.load t x=>sload T t (sev ρ x) h
 |.store t x v=>sstore T t (sev ρ x) (sev ρ v) h
 |.nilCheck x=>match sev ρ x with
  |.v (.c (.ptr b i sz j))=>one (.ptr b i sz j) h
  |_=>none
 |.binOp op _ x y _=>sbin op (sev ρ x) (sev ρ y) h
 |.unOp op _ x=>sun op (sev ρ x) h
 |.convert s d x=>sconv T s d (sev ρ x) h
 |.makeFunc (.func g) a b=>match svs1 ρ a.toList,svs1 ρ b.toList with
  |some x,some y=>sout (.f g x y) h
  |_,_=>none
 |.makeSlice t l c=>smakeSlice T t (sev ρ l) (sev ρ c) h
 |.slice t x lo hi mx=>sslice T t ρ (sev ρ x) lo hi mx h
 |.fieldAddr s x f=>sfieldAddr T s (sev ρ x) f h
 |.field t x f=>sfield T t (sev ρ x) f h
 |.indexAddr t x i=>sindexAddr T t (sev ρ x) (sev ρ i) h
 |.index t x i=>sindex T t (sev ρ x) (sev ρ i) h
 |.extract x i=>match sev ρ x with
  |.t l=>match sext l i with
   |some y=>sout (.v y) h
   |none=>none
  |_=>none
 |.call ⟨.builtin .append,⟨[s,y]⟩,ts⟩=>match sev ρ y with
  |.v (.c (.str z))=>sappstr T ts (sev ρ s) z h
  |y=>sappend T ts (sev ρ s) y h
 |.call ⟨.builtin .len,⟨[x]⟩,ts⟩=>slen T ts (sev ρ x) h
 |.call ⟨.builtin .max,⟨x :: l⟩,_⟩=>sfold mx (sev ρ x) (sevs ρ l) h
 |.call ⟨.builtin .min,⟨x :: l⟩,_⟩=>sfold mn (sev ρ x) (sevs ρ l) h
 |_=>none
def sguard (ρ:Nat → SV) (ops:List Oper) (o:Oper):Option Bool:=match o.guard with
 |none=>some true
 |some (g,want)=>match (ops[g]?).bind (·.dst) with
  |some d=>match ρ d with
   |.v (.c (.bool true))=>some want
   |.v (.c (.bool false))=>some (!want)
   |.v (.c (.raw (.tuple _)))=>some false
   |_=>none
  |none=>none
def addc.{v} {β:Type v}:List Prop → List (List Prop) → (List (List Prop) → β) → β
 |[],cs,k=>k cs
 |p :: c,cs,k=>k ((p :: c) :: cs)
def srun (nt:Nat) (ops:List Oper):Nat → List Oper → (Nat → SV) → List (SR KT) → List (Nat × Nat) → List (List Prop) → Option (List Oper × (Nat → SV) × List (SR KT) × List (Nat × Nat) × List (List Prop))
 |0,l,ρ,h,ks,cs=>some (l,ρ,h,ks,cs)
 |_+1,[],ρ,h,ks,cs=>some ([],ρ,h,ks,cs)
 |n+1,o :: l,ρ,h,ks,cs=>match sguard ρ ops o with
  |some true=>match opClean o.op,sop T ρ o.op h with
   |true,some (v,h,k,c)=>match o.dst with
    |some t=>match Nat.blt t nt with
     |true=>addc c cs fun cs=>srun nt ops n l (upd ρ t v) h (k :: ks) cs
     |false=>none
    |none=>addc c cs fun cs=>srun nt ops n l ρ h (k :: ks) cs
   |_,_=>none
  |some false=>match o.dst with
   |some t=>match Nat.blt t nt with
    |true=>srun nt ops n l (upd ρ t (c1 (.raw undef))) h ((0,0) :: ks) cs
    |false=>none
   |none=>srun nt ops n l ρ h ((0,0) :: ks) cs
  |none=>none
def AllP:List Prop → Prop
 |[]=>True
 |[p]=>p
 |p :: l=>p∧AllP l
def AllPP:List (List Prop) → Prop
 |[]=>True
 |c :: l=>AllP c∧AllPP l
end
end Go.Proofs.Ytpbhkdamkbopkaa.Rs
namespace Go.Proofs.Ytpbhkdamkbopkaa.Rf
open Go
theorem nget_new (A:AW) (o:AObj) (b:Nat):(A.new o).heap.get b=if b=A.next then some o else A.heap.get b:=Tr.get_set _ _ _ _
theorem nget_turn (A:AW) (b0:Nat) (o:AObj) (b:Nat):(A.turn b0 o).heap.get b=if b=b0 then some o else A.heap.get b:=Tr.get_set _ _ _ _
def WF (A:AW):Prop:=∀ b,A.next≤b → A.heap.get b=none
structure AStep (A A':AW):Prop where
 next:A.next≤A'.next
 low:∀ b,A.ts.testBit b=true → A'.ts.testBit b=true
 keep:∀ b,b < A.next → A'.ts.testBit b=false → A'.heap.get b=A.heap.get b
 dom:∀ b,A.heap.get b ≠ none → A'.heap.get b ≠ none
 fill:∀ b,A.next≤b → b < A'.next → A'.heap.get b ≠ none
 ro:∀ b r,A'.heap.get b=some (.row r) → r.ro=true → A.heap.get b=some (.row r)
 wf:WF A'
def notRo:AObj → Prop
 |.row r=>r.ro=false
 |_=>True
theorem AStep.refl {A:AW} (h:WF A):AStep A A:=⟨Nat.le_refl _,fun _ h=>h,fun _ _ _=>rfl,fun _ h=>h,fun b h1 h2=>absurd h2 (by omega),fun _ _ h _=>h,h⟩
theorem AStep.trans {A A1 A2:AW} (h:AStep A A1) (k:AStep A1 A2):AStep A A2 :=
  ⟨Nat.le_trans h.next k.next,fun b q=>k.low b (h.low b q),fun b hb hl=>(k.keep b (Nat.lt_of_lt_of_le hb h.next) hl).trans (h.keep b hb (by
    cases q:A1.ts.testBit b with
    | false=>rfl
    | true=>rw [k.low b q] at hl;cases hl)),fun b hb=>k.dom b (h.dom b hb),
   fun b h1 h2=>by
    rcases Nat.lt_or_ge b A1.next with h3 | h3
    · exact k.dom b (h.fill b h1 h3)
    · exact k.fill b h3 h2,
   fun b r hb hr=>h.ro b r (k.ro b r hb hr) hr,k.wf⟩
theorem AStep.new {A:AW} (h:WF A) (o:AObj) (ho:notRo o:=by first | exact rfl | exact trivial):AStep A (A.new o):=by
 refine ⟨Nat.le_succ _,fun _ h=>h,fun b hb _=>?_,fun b hb=>?_,fun b h1 h2=>?_,fun b r hb hr=>?_,fun b hb=>?_⟩
 ·rw [nget_new,if_neg (by omega)]
 ·rw [nget_new];split
  ·simp
  ·exact hb
 ·have h2:b < A.next+1:=h2;rw [nget_new,if_pos (by omega)];simp
 ·rw [nget_new] at hb
  split at hb
  ·cases hb;exact absurd hr (by rw [show r.ro=false from ho];decide)
  ·exact hb
 ·have hb:A.next+1≤b:=hb;rw [nget_new,if_neg (by omega)];exact h b (by omega)
theorem AStep.turn {A:AW} (h:WF A) {b0:Nat} {o1:AObj} (h1:A.heap.get b0=some o1) (o:AObj) (ho:notRo o:=by first | exact rfl | exact trivial):AStep A (A.turn b0 o):=by
 have hlt:b0 < A.next:=by
  rcases Nat.lt_or_ge b0 A.next with h2 | h2
  ·exact h2
  ·rw [h b0 h2] at h1;cases h1
 have hl:∀ b,(A.turn b0 o).ts.testBit b=(A.ts.testBit b || decide (b0=b)):=fun b=>by
  show (A.ts ||| 2 ^ b0).testBit b=_;rw [Nat.testBit_or,Nat.testBit_two_pow]
 refine ⟨Nat.le_refl _,fun b q=>by rw [hl,q];rfl,fun b hb hlo=>?_,fun b hb=>?_,fun b h1 h2=>absurd h2 (by show ¬ b < A.next;omega),fun b r hb hr=>?_,fun b hb=>?_⟩
 ·rw [hl] at hlo;rw [nget_turn,if_neg (fun q=>by subst q;simp at hlo)]
 ·rw [nget_turn];split
  ·simp
  ·exact hb
 ·rw [nget_turn] at hb
  split at hb
  ·cases hb;exact absurd hr (by rw [show r.ro=false from ho];decide)
  ·exact hb
 ·have hb:A.next≤b:=hb;rw [nget_turn,if_neg (by omega)];exact h b hb
def rAW:Res → AW
 |.val _ A | .skip A | .enter _ _ A=>A
variable {P:Program} {A:AW}
theorem nrow_of {b:Nat} {r:Row} (h:A.row? b=some r):A.heap.get b=some (.row r):=by
 unfold AW.row? at h
 split at h
 ·rename_i r' e;cases h;exact e
 ·cases h
theorem write_step {a:Addr} {l:List Value} {A':AW} (h:WF A) (hw:A.write a l=some A'):AStep A A':=by
 unfold AW.write at hw
 split at hw
 ·rename_i r _ hr;simp only [Bool.cond_eq_ite] at hw
  split at hw
  ·cases hw;exact AStep.turn h (nrow_of hr) _
  ·cases hw
 ·cases hw
theorem store_step {t:TypeId} {a:Addr} {v:Value} {A':AW} (h:WF A) (hw:A.store P t a v=some A'):AStep A A':=by
 unfold AW.store at hw
 split at hw
 ·simp only [Bool.cond_eq_ite] at hw
  split at hw
  ·exact write_step h hw
  ·cases hw
 ·cases hw
theorem aconv_step {s d:TypeId} {x:Value} {r:Res} (h:WF A) (e:aconv P s d x A=some r):AStep A (rAW r):=by
 unfold aconv at e
 split at e
 ·cases e;exact AStep.refl h
 ·cases e;exact AStep.refl h
 ·split at e
  ·cases e;exact AStep.new h _
  ·cases e
 ·split at e
  ·cases e;exact AStep.refl h
  ·split at e
   ·simp only [Option.map_eq_some_iff] at e;obtain ⟨_,_,rfl⟩:=e;exact AStep.refl h
   ·cases e
  ·cases e
 ·cases e
theorem bslice_step {t:TypeId} {n:Nat} {l:List (Nat × Value)} {r:Res} (h:WF A) (e:abuildSlice P t n l A=some r):AStep A (rAW r):=by
 unfold abuildSlice at e;simp only [Bool.cond_eq_ite] at e;repeat' split at e
 all_goals first
  |(cases e;done)
  |(cases e;exact AStep.new h _)
theorem mslice_step {t:TypeId} {l c:Value} {r:Res} (h:WF A) (e:amakeSlice P t l c A=some r):AStep A (rAW r):=by
 unfold amakeSlice at e;simp only [Bool.cond_eq_ite] at e;repeat' split at e
 all_goals first
  |(cases e;done)
  |(cases e;exact AStep.new h _)
theorem grow_step {b:Nat} {r:Row} {l:List Value} (h:WF A) (hr:A.row? b=some r):AStep A ((A.newRow l).turn b .dead):=by
 have hw:=nrow_of hr
 have hlt:b < A.next:=by
  rcases Nat.lt_or_ge b A.next with h2 | h2
  ·exact h2
  ·rw [h b h2] at hw;cases hw
 exact (AStep.new h _).trans (AStep.turn (AStep.new h _).wf (o1:=.row r) (by rw [nget_new,if_neg (by omega)];exact hw) _)
theorem append_step {ts:Array TypeId} {s x:Value} {r:Res} (h:WF A) (e:aappend P ts s x A=some r):AStep A (rAW r):=by
 unfold aappend at e;simp only [Bool.cond_eq_ite] at e;repeat' split at e
 all_goals first
  |(cases e;done)
  |(cases e;exact AStep.refl h)
  |(cases e;exact AStep.new h _)
  |skip
 cases e;exact grow_step h (by assumption)
theorem copy_step {ts:Array TypeId} {d x:Value} {r:Res} (h:WF A) (e:acopy P ts d x A=some r):AStep A (rAW r):=by
 unfold acopy at e;simp only [Bool.cond_eq_ite] at e;repeat' split at e
 all_goals first
  |(cases e;done)
  |(cases e;exact AStep.refl h)
  |(simp only [Option.map_eq_some_iff] at e;obtain ⟨A',hw,rfl⟩:=e;exact write_step h hw)
theorem nmap_of {r:Nat} {q:List MapEntry × Nat} (h:A.map? r=some q):A.heap.get r=some (.map q.1 q.2):=by
 unfold AW.map? at h
 split at h
 ·rename_i e;cases h;exact e
 ·cases h
theorem builtin_step {b:Builtin} {ts:Array TypeId} {args:List Value} {r:Res} (h:WF A) (e:abuiltin P b ts args A=some r):AStep A (rAW r):=by
 unfold abuiltin at e
 split at e
 ·exact append_step h e
 ·exact copy_step h e
 all_goals first
  |(cases e;done)
  |(simp only [Option.map_eq_some_iff] at e;obtain ⟨_,_,rfl⟩:=e;exact AStep.refl h)
theorem update_step {t:TypeId} {m k v:Value} {A':AW} (h:WF A) (e:amapUpdate P t m k v A=some A'):AStep A A':=by
 unfold amapUpdate at e;simp only [Bool.cond_eq_ite] at e;repeat' split at e
 all_goals first
  |(cases e;done)
  |(cases e;exact AStep.turn h (nmap_of (by assumption)) _)
theorem entry_step {t:TypeId} {m k:Value} {r:Res} (h:WF A) (e:amapEntry P t m k A=some r):AStep A (rAW r):=by
 unfold amapEntry at e;simp only [Bool.cond_eq_ite] at e;repeat' split at e
 all_goals first
  |(cases e;done)
  |(cases e;exact AStep.turn h (nmap_of (by assumption)) _)
  |(rw [Option.map_eq_some_iff] at e;obtain ⟨_,_,rfl⟩:=e;exact AStep.turn h (nmap_of (by assumption)) _)
theorem estore_step {m s v:Value} {A':AW} (h:WF A) (e:aentryStore m s v A=some A'):AStep A A':=by
 unfold aentryStore at e;repeat' split at e
 all_goals first
  |(cases e;done)
  |(cases e;exact AStep.turn h (nmap_of (by assumption)) _)
theorem aop_step {ρ:Operand → Value} {o:Oper} {r:Res} (h:WF A) (e:aop P ρ o A=some r):AStep A (rAW r):=by
 obtain ⟨dst,op,type,pos,after,guard⟩:=o;unfold aop at e;simp only at e;cases op <;> (try simp only at e) <;> try (cases e;done)
 case makeFunc fn a b=>cases fn <;> simp only at e <;> first | (cases e;done) | (cases e;exact AStep.refl h)
 case makeMap t hint =>
  cases hint with
  |some x=>cases e
  |none =>
   simp only at e
   split at e
   ·cases e;exact AStep.new h _
   ·cases e
 case convert s d x=>exact aconv_step h e
 case buildSlice t n ps=>exact bslice_step h e
 case makeSlice t l c=>exact mslice_step h e
 case mapEntry t m k=>exact entry_step h e
 case store t x v =>
  split at e
  ·simp only [Option.map_eq_some_iff] at e;obtain ⟨A',hw,rfl⟩:=e;exact store_step h hw
  ·cases e
 case mapUpdate t m k v=>simp only [Option.map_eq_some_iff] at e;obtain ⟨A',hw,rfl⟩:=e;exact update_step h hw
 case insert t m k v=>simp only [Option.map_eq_some_iff] at e;obtain ⟨A',hw,rfl⟩:=e;exact update_step h hw
 case entryStore t m s v=>simp only [Option.map_eq_some_iff] at e;obtain ⟨A',hw,rfl⟩:=e;exact estore_step h hw
 case call c =>
  split at e
  ·simp only [Bool.cond_eq_ite] at e;(repeat' split at e)
   all_goals first
    |(cases e;done)
    |(cases e;exact AStep.refl h)
  ·exact builtin_step h e
  ·cases e
 all_goals
  (try simp only [Bool.cond_eq_ite] at e)
  (repeat' split at e)
  all_goals first
   |(cases e;done)
   |(cases e;exact AStep.refl h)
   |(cases e;exact AStep.new h _)
   |(simp only [Option.map_eq_some_iff] at e;obtain ⟨_,_,rfl⟩:=e;exact AStep.refl h)
def CM (call:Callf):Prop:=∀ f args A v A',WF A → call f args A=some (v,A') → AStep A A'
variable {call:Callf} {nt:Nat}
theorem stepOp_step (hc:CM call) {ops:Array Oper} {o:Oper} {s s':St} (h:WF s.A) (e:stepOp P call nt ops o s=some s'):AStep s.A s'.A:=by
 unfold stepOp at e
 split at e
 ·simp only [Bool.cond_eq_ite] at e
  split at e
  ·rename_i v A' ha
   split at ha
   ·simp only [Option.map_eq_some_iff] at e;obtain ⟨tm,_,rfl⟩:=e;exact aop_step h ha
   ·cases ha
  ·rename_i A' ha
   split at ha
   ·simp only [Option.map_eq_some_iff] at e;obtain ⟨tm,_,rfl⟩:=e;exact aop_step h ha
   ·cases ha
  ·rename_i f args A' ha
   split at ha
   ·have h1:=aop_step h ha
    split at e
    ·rename_i v A2 hcl;simp only [Option.map_eq_some_iff] at e;obtain ⟨tm,_,rfl⟩:=e;exact h1.trans (hc _ _ _ _ _ h1.wf hcl)
    ·cases e
   ·cases ha
  ·cases e
 ·simp only [Option.map_eq_some_iff] at e;obtain ⟨tm,_,rfl⟩:=e;exact AStep.refl h
 ·cases e
theorem runOps_step (hc:CM call) {ops:Array Oper}:∀ (l:List Oper) (s s':St),WF s.A → runOps P call nt ops l s=some s' → AStep s.A s'.A
 |[],s,s',h,e=>by simp only [runOps,Option.some.injEq] at e;subst e;exact AStep.refl h
 |o :: l,s,s',h,e=>by
  unfold runOps at e
  split at e
  ·rename_i s1 h1;have k:=stepOp_step hc h h1;exact k.trans (runOps_step hc l s1 s' k.wf e)
  ·cases e
theorem low_step {A A1:AW} (h:AStep ⟨A.heap,A.next,0⟩ A1):AStep A ⟨A1.heap,A1.next,A.ts ||| A1.ts⟩ :=
 ⟨h.next,fun b q=>by show (A.ts ||| A1.ts).testBit b=true;rw [Nat.testBit_or,q];rfl,fun b hb hlo=>h.keep b hb (by
  have hlo:(A.ts ||| A1.ts).testBit b=false:=hlo;rw [Nat.testBit_or,Bool.or_eq_false_iff] at hlo;exact hlo.2),h.dom,h.fill,h.ro,h.wf⟩
theorem runDraw_step (hc:CM call) {ops:Array Oper}:∀ (l:List Oper) (s s':St) (ks ks':List (Nat × Nat)),WF s.A → runDraw P call nt ops l s ks=some (s',ks') → AStep s.A s'.A
 |[],s,s',ks,ks',h,e=>by simp only [runDraw,Option.some.injEq,Prod.mk.injEq] at e;obtain ⟨rfl,_⟩:=e;exact AStep.refl h
 |o :: l,s,s',ks,ks',h,e=>by
  unfold runDraw at e
  split at e
  ·rename_i s1 h1;have k:=low_step (stepOp_step hc (s:=⟨s.tm,s.A.heap,s.A.next,0⟩) h h1);exact k.trans (runDraw_step hc l ⟨s1.tm,_⟩ s' _ ks' k.wf e)
  ·cases e
theorem region_step (hc:CM call) {ops:Array Oper} {draw:Bool} {s s':St} (h:WF s.A) (e:region P call nt ops draw s=some s'):AStep s.A s'.A:=by
 unfold region at e;simp only [Bool.cond_eq_ite] at e
 split at e
 ·split at e
  ·split at e
   ·rename_i s1 ks h1
    split at e
    ·cases e;exact runDraw_step hc _ _ _ _ _ h h1
    ·cases e
   ·cases e
  ·cases e
 ·exact runOps_step hc _ _ _ h e
theorem loopN_step {f:St → Option (AEx × St)} (hf:∀ s ex s',WF s.A → f s=some (ex,s') → AStep s.A s'.A):∀ (k:Nat) (s:St) (ex:AEx) (s':St),WF s.A → loopN f k s=some (ex,s') → AStep s.A s'.A
 |0,s,ex,s',_,e=>by cases e
 |k+1,s,ex,s',h,e=>by
  unfold loopN at e
  split at e
  ·rename_i s1 h1;have q:=hf _ _ _ h h1;exact q.trans (loopN_step hf k s1 ex s' q.wf e)
  ·exact hf _ _ _ h e
theorem exec_step (hc:CM call) (L:Nat):∀ (c:Code) (s:St) (ex:AEx) (s':St),WF s.A → exec P call nt L c s=some (ex,s') → AStep s.A s'.A:=by
 intro c
 induction c with
 |skip=>intro s ex s' h e;simp only [exec,Option.some.injEq,Prod.mk.injEq] at e;obtain ⟨_,rfl⟩:=e;exact AStep.refl h
 |label l=>intro s ex s' h e;simp only [exec,Option.some.injEq,Prod.mk.injEq] at e;obtain ⟨_,rfl⟩:=e;exact AStep.refl h
 |region id ops draw =>
  intro s ex s' h e;simp only [exec] at e
  split at e
  ·rename_i s1 h1;simp only [Option.some.injEq,Prod.mk.injEq] at e;obtain ⟨_,rfl⟩:=e;exact region_step hc h h1
  ·cases e
 |seq a b iha ihb =>
  intro s ex s' h e;simp only [exec] at e
  split at e
  ·rename_i s1 h1;have q:=iha _ _ _ h h1;exact q.trans (ihb _ _ _ q.wf e)
  ·exact iha _ _ _ h e
 |cond c a b iha ihb =>
  intro s ex s' h e;simp only [exec] at e
  split at e
  ·exact iha _ _ _ h e
  ·exact ihb _ _ _ h e
  ·cases e
 |block id c ih =>
  intro s ex s' h e;simp only [exec] at e
  split at e
  ·rename_i j s1 h1;simp only [Option.some.injEq,Prod.mk.injEq] at e;obtain ⟨_,rfl⟩:=e;exact ih _ _ _ h h1
  ·exact ih _ _ _ h e
 |loop c ih=>intro s ex s' h e;simp only [exec] at e;exact loopN_step (fun s ex s' h e=>ih s ex s' h e) L s ex s' h e
 |exit id=>intro s ex s' h e;simp only [exec,Option.some.injEq,Prod.mk.injEq] at e;obtain ⟨_,rfl⟩:=e;exact AStep.refl h
 |scope c ih=>intro s ex s' h e;simp only [exec] at e;exact ih _ _ _ h e
 |ret=>intro s ex s' h e;simp only [exec,Option.some.injEq,Prod.mk.injEq] at e;obtain ⟨_,rfl⟩:=e;exact AStep.refl h
 |_=>intros;rename_i e;simp only [exec] at e;cases e
theorem callF_step (hc:CM call) (L:Nat):CM (callF P call L):=by
 intro f args A v A' h e;unfold callF at e;simp only [Bool.cond_eq_ite] at e
 split at e
 ·split at e
  ·split at e
   ·split at e
    ·rename_i s1 h1
     split at e
     ·simp only [Option.some.injEq,Prod.mk.injEq] at e;obtain ⟨_,rfl⟩:=e;exact exec_step hc L _ _ _ _ h h1
     ·cases e
    ·rename_i s1 h1
     split at e
     ·simp only [Option.some.injEq,Prod.mk.injEq] at e;obtain ⟨_,rfl⟩:=e;exact exec_step hc L _ _ _ _ h h1
     ·cases e
    ·cases e
   ·cases e
  ·cases e
 ·cases e
def OM (O:Orf):Prop:=∀ args A v A',WF A → O args A=some (v,A') → AStep A A'
theorem orc_step {O:Orf} (hO:OM O) {c:Callf} (hc:CM c):CM (orc O c):=fun f args A v A' h e=>by
 unfold orc at e;cases hf:Nat.beq f orcF with
 |false=>rw [hf] at e;exact hc _ _ _ _ _ h e
 |true =>
  rw [hf,cond_true] at e
  split at e
  ·rename_i r hr;cases e;exact hO _ _ _ _ h hr
  ·exact hc _ _ _ _ _ h e
theorem noO_step:OM noO:=fun _ _ _ _ _ e=>by cases e
theorem runF_step (P:Program) {O:Orf} (hO:OM O) (L:Nat):∀ n,CM (runF P O L n)
 |0=>fun _ _ _ _ _ _ e=>by cases e
 |n+1=>orc_step hO (callF_step (runF_step P hO L n) L)
end Go.Proofs.Ytpbhkdamkbopkaa.Rf
namespace Go.Proofs.Ytpbhkdamkbopkaa.Rs
open Go Rf
def CLe (c d:Callf):Prop:=∀ f a A r,c f a A=some r → d f a A=some r
variable {P:Program} {c d:Callf} {nt:Nat}
theorem stepOp_le (h:CLe c d) {ops:Array Oper} {o:Oper} {s s':St} (e:stepOp P c nt ops o s=some s'):stepOp P d nt ops o s=some s':=by
 unfold stepOp at e ⊢
 split at e
 ·split at e
  ·exact e
  ·exact e
  ·split at e
   ·rename_i v A1 h1;rw [h _ _ _ _ h1];exact e
   ·cases e
  ·cases e
 ·exact e
 ·cases e
theorem runOps_le (h:CLe c d) {ops:Array Oper}:∀ (l:List Oper) {s s':St},runOps P c nt ops l s=some s' → runOps P d nt ops l s=some s'
 |[],_,_,e=>e
 |o :: l,s,s',e=>by
  unfold runOps at e ⊢
  split at e
  ·rename_i s1 h1;rw [stepOp_le h h1];exact runOps_le h l e
  ·cases e
theorem runDraw_le (h:CLe c d) {ops:Array Oper}:∀ (l:List Oper) {s:St} {ks:List (Nat × Nat)} {r:St × List (Nat × Nat)},runDraw P c nt ops l s ks=some r → runDraw P d nt ops l s ks=some r
 |[],_,_,_,e=>e
 |o :: l,s,ks,r,e=>by
  unfold runDraw at e ⊢
  split at e
  ·rename_i s1 h1;rw [stepOp_le h h1];exact runDraw_le h l e
  ·cases e
theorem region_le (h:CLe c d) {ops:Array Oper} {draw:Bool} {s s':St} (e:region P c nt ops draw s=some s'):region P d nt ops draw s=some s':=by
 unfold region at e ⊢;cases draw with
 |false=>exact runOps_le h _ e
 |true =>
  cases h1:drawOk ops with
  |false=>rw [h1] at e;cases e
  |true =>
   rw [h1] at e;simp only [cond_true] at e ⊢
   split at e
   ·rename_i s1 ks h2;rw [runDraw_le h _ h2];exact e
   ·cases e
theorem loopN_le {f g:St → Option (AEx × St)} (h:∀ s r,f s=some r → g s=some r):∀ (m n:Nat),m≤n → ∀ s r,loopN f m s=some r → loopN g n s=some r
 |0,_,_,_,_,e=>by cases e
 |m+1,0,hl,_,_,_=>by omega
 |m+1,n+1,hl,s,r,e=>by
  unfold loopN at e ⊢
  split at e
  ·rename_i s1 h1;rw [h _ _ h1];exact loopN_le h m n (by omega) _ _ e
  ·rename_i hne;rw [h _ _ e]
   split
   ·rename_i s1 h2;cases h2;exact absurd e (hne _)
   ·rfl
theorem exec_le (h:CLe c d) {L M:Nat} (hl:L≤M):∀ (x:Code) (s:St) (r:AEx × St),exec P c nt L x s=some r → exec P d nt M x s=some r:=by
 intro x
 induction x with
 |region id ops draw =>
  intro s r e;simp only [exec] at e ⊢
  split at e
  ·rename_i s1 h1;rw [region_le h h1];exact e
  ·cases e
 |seq a b iha ihb =>
  intro s r e;simp only [exec] at e ⊢
  split at e
  ·rename_i s1 h1;rw [iha _ _ h1];exact ihb _ _ e
  ·rename_i hne;rw [iha _ _ e]
   split
   ·rename_i s1 h2;cases h2;exact absurd e (hne _)
   ·rfl
 |cond q a b iha ihb =>
  intro s r e;simp only [exec] at e ⊢
  split at e
  ·exact iha _ _ e
  ·exact ihb _ _ e
  ·cases e
 |block id a ih =>
  intro s r e;simp only [exec] at e ⊢
  split at e
  ·rename_i j s1 h1;rw [ih _ _ h1];exact e
  ·rename_i hne;rw [ih _ _ e]
   split
   ·rename_i j s1 h2;cases h2;exact absurd e (hne _ _)
   ·rfl
 |loop a ih =>
  intro s r e;simp only [exec] at e ⊢;exact loopN_le (fun s r=>ih s r) _ _ hl _ _ e
 |scope a ih =>
  intro s r e;simp only [exec] at e ⊢;exact ih _ _ e
 |_=>intro s r e;simp only [exec] at e ⊢;exact e
theorem callF_le (h:CLe c d) {L M:Nat} (hl:L≤M):CLe (callF P c L) (callF P d M):=by
 intro f a A r e;unfold callF at e ⊢
 split at e
 ·rename_i fn h1
  split at e
  ·rename_i x h2;cases h3:Nat.ble a.size fn.ntmps with
   |false=>rw [h3] at e;cases e
   |true =>
    rw [h3] at e;simp only [cond_true] at e ⊢
    split at e
    ·rename_i s h4;rw [exec_le h hl _ _ _ h4];exact e
    ·rename_i s h4;rw [exec_le h hl _ _ _ h4];exact e
    ·cases e
  ·cases e
 ·cases e
theorem orc_le {O:Orf} (h:CLe c d):CLe (orc O c) (orc O d):=fun f a A r e=>by
 unfold orc at e ⊢;cases hf:Nat.beq f orcF with
 |false=>rw [hf] at e;exact h _ _ _ _ e
 |true =>
  rw [hf,cond_true] at e;rw [cond_true];cases hr:O a A with
  |some r0=>rw [hr] at e;exact e
  |none=>rw [hr] at e;exact h _ _ _ _ e
structure Orc where
 f:Orf
 m:OM f
def noOrc:Orc:=⟨noO,noO_step⟩
theorem runF_le {O:Orf} {L M:Nat} (hl:L≤M):∀ {m n:Nat},m≤n → CLe (runF P O L m) (runF P O M n)
 |0,_,_=>fun _ _ _ _ e=>by cases e
 |m+1,0,h=>by omega
 |m+1,n+1,h=>orc_le (callF_le (runF_le hl (by omega)) hl)
abbrev cl (P:Program) (O:Orc) (n:Nat):Callf:=runF P O.f n n
theorem cl_le {O:Orc} {m n:Nat} (h:m≤n):CLe (cl P O m) (cl P O n):=runF_le h h
section
variable {O:Orc}
def X (P:Program) (O:Orc) (nt:Nat) (x:Code) (s:St) (Q:AEx → St → Prop):Prop:=∃ n ex s',exec P (cl P O n) nt n x s=some (ex,s')∧Q ex s'
theorem X.mono {x:Code} {s:St} {Q R:AEx → St → Prop} (h:X P O nt x s Q) (k:∀ ex s',Q ex s' → R ex s'):X P O nt x s R:=by
 obtain ⟨n,ex,s',e,q⟩:=h;exact ⟨n,ex,s',e,k _ _ q⟩
theorem X.up {x:Code} {n m:Nat} (h:n≤m) {s:St} {r:AEx × St} (e:exec P (cl P O n) nt n x s=some r):exec P (cl P O m) nt m x s=some r:=exec_le (cl_le h) h _ _ _ e
theorem X.seq {a b:Code} {s:St} {Q:AEx → St → Prop} (h:X P O nt a s fun ex s'=>match ex with | .normal=>X P O nt b s' Q | ex=>Q ex s'):X P O nt (.seq a b) s Q:=by
 obtain ⟨n,ex,s',e,q⟩:=h;cases ex with
 |normal =>
  obtain ⟨m,ex2,s2,e2,q2⟩:=q;refine ⟨max n m,ex2,s2,?_,q2⟩;simp only [exec];rw [X.up (Nat.le_max_left n m) e];exact X.up (Nat.le_max_right n m) e2
 |exit id=>exact ⟨n,_,s',by simp only [exec];rw [e],q⟩
 |ret=>exact ⟨n,_,s',by simp only [exec];rw [e],q⟩
theorem X.block {a:Code} {id:Nat} {s:St} {Q:AEx → St → Prop} (h:X P O nt a s fun ex s'=>match ex with | .exit j=>Q (bif Nat.beq j id then .normal else .exit j) s' | ex=>Q ex s'):X P O nt (.block id a) s Q:=by
 obtain ⟨n,ex,s',e,q⟩:=h;cases ex with
 |exit j=>exact ⟨n,_,s',by simp only [exec];rw [e],q⟩
 |normal=>exact ⟨n,_,s',by simp only [exec];rw [e],q⟩
 |ret=>exact ⟨n,_,s',by simp only [exec];rw [e],q⟩
theorem X.loop {a:Code} {s:St} {Q:AEx → St → Prop} (h:X P O nt a s fun ex s'=>match ex with | .normal=>X P O nt (.loop a) s' Q | ex=>Q ex s'):X P O nt (.loop a) s Q:=by
 obtain ⟨n,ex,s',e,q⟩:=h;cases ex with
 |normal =>
  obtain ⟨m,ex2,s2,e2,q2⟩:=q;refine ⟨max n m+1,ex2,s2,?_,q2⟩;simp only [exec] at e2 ⊢;have h1:exec P (cl P O (max n m+1)) nt (max n m+1) a s=some (.normal,s'):=X.up (by omega) e;show loopN (exec P (cl P O (max n m+1)) nt (max n m+1) a) (max n m+1) s=_;unfold loopN;rw [h1];exact loopN_le (fun s r h=>X.up (by omega) h) m (max n m) (Nat.le_max_right n m) _ _ e2
 |exit id =>
  refine ⟨n+1,_,s',?_,q⟩;simp only [exec];unfold loopN;rw [X.up (Nat.le_succ n) e]
 |ret =>
  refine ⟨n+1,_,s',?_,q⟩;simp only [exec];unfold loopN;rw [X.up (Nat.le_succ n) e]
theorem X.scope {a:Code} {s:St} {Q:AEx → St → Prop} (h:X P O nt a s Q):X P O nt (.scope a) s Q:=by
 obtain ⟨n,ex,s',e,q⟩:=h;exact ⟨n,ex,s',by simp only [exec];exact e,q⟩
theorem X.cond {q:Operand} {a b:Code} {v:Bool} {s:St} {Q:AEx → St → Prop} (hv:ev s.tm q=.bool v) (h:X P O nt (match v with | true=>a | false=>b) s Q):X P O nt (.cond q a b) s Q:=by
 obtain ⟨n,ex,s',e,r⟩:=h;refine ⟨n,ex,s',?_,r⟩;simp only [exec];rw [hv];cases v <;> exact e
theorem X.skip {s:St} {Q:AEx → St → Prop} (h:Q .normal s):X P O nt .skip s Q:=⟨0,_,_,rfl,h⟩
theorem X.label {s:St} {l:Nat} {Q:AEx → St → Prop} (h:Q .normal s):X P O nt (.label l) s Q:=⟨0,_,_,rfl,h⟩
theorem X.ret {s:St} {Q:AEx → St → Prop} (h:Q .ret s):X P O nt .ret s Q:=⟨0,_,_,rfl,h⟩
theorem X.exit {s:St} {l:Nat} {Q:AEx → St → Prop} (h:Q (.exit l) s):X P O nt (.exit l) s Q:=⟨0,_,_,rfl,h⟩
theorem X.region {id n:Nat} {ops:Array Oper} {draw:Bool} {s s':St} {Q:AEx → St → Prop} (e:region P (cl P O n) nt ops draw s=some s') (h:Q .normal s'):X P O nt (.region id ops draw) s Q :=
 ⟨n,_,s',by simp only [exec];rw [e],h⟩
def Y (P:Program) (O:Orc) (f:FuncId) (args:Array Value) (A:AW) (Q:Value → AW → Prop):Prop:=∃ n v A',cl P O n f args A=some (v,A')∧Q v A'
theorem Y.of {f : FuncId} {fn : Func} {x : Code} {args : Array Value} {A : AW} {Q : Value → AW → Prop} (h1 : P.funcs[f]? = some fn) (h2 : fn.body = some x) (h3 : Nat.ble args.size fn.ntmps = true) (hf : Nat.beq f orcF = false)
  (h:X P O fn.ntmps x ⟨mkCells args.toList 0 .e,A⟩ fun ex s=>(∀ i,ex ≠ .exit i)∧∃ v,resultsA P fn s=some v∧Q v s.A):Y P O f args A Q:=by
 obtain ⟨n,ex,s',e,hne,v,hv,q⟩:=h;refine ⟨n+1,v,s'.A,?_,q⟩;show orc O.f (callF P (runF P O.f (n+1) n) (n+1)) f args A=_;unfold orc;rw [hf,cond_false];unfold callF;rw [h1];simp only;rw [h2];simp only;rw [h3];simp only [cond_true];rw [exec_le (runF_le (Nat.le_succ n) (Nat.le_refl n)) (Nat.le_succ n) _ _ _ e];cases ex with
 |normal=>simp only;rw [hv]
 |ret=>simp only;rw [hv]
 |exit i=>exact absurd rfl (hne i)
end
end Go.Proofs.Ytpbhkdamkbopkaa.Rs
namespace Go.Proofs.Ytpbhkdamkbopkaa.Rs
open Go Go.RowKit Rf YtpbhkdamkbopkaaW.PrintWords
inductive NV where
 |nil
 |at_ (blk base cap:Nat)
 |emp (a:Addr)
abbrev Nu:=Nat → Option NV
def Ext (ν ν':Nu):Prop:=∀ i nv,ν i=some nv → ν' i=some nv
theorem Ext.refl (ν:Nu):Ext ν ν:=fun _ _ h=>h
theorem Ext.trans {a b c:Nu} (h:Ext a b) (k:Ext b c):Ext a c:=fun i nv e=>k i nv (h i nv e)
def DC (ν:Nu):SC → Value → Prop
 |.int k n,v=>v=.int k n
 |.bool b,v=>v=.bool b
 |.str s,v=>v=.string s
 |.ptr b i sz j,v=>∃ blk base cap,ν b=some (.at_ blk base cap)∧v=.pointer (some ⟨blk,base+(i.toNat*sz+j),none⟩)
 |.nilp,v=>v=.pointer none
 |.sl b n, v => (ν b = some .nil ∧ n = 0 ∧ v = .slice none 0 0) ∨ (∃ a, ν b = some (.emp a) ∧ a.spot ≠ none ∧ n = 0 ∧ v = .slice (some a) 0 0) ∨
   (∃ blk base cap,ν b=some (.at_ blk base cap)∧v=.slice (some ⟨blk,base,none⟩) n cap)
 |.nils,v=>v=.slice none 0 0
 |.raw u,v=>v=u
def DL (ν:Nu):List SC → List Value → Prop
 |[],[]=>True
 |x :: l,v :: m=>DC ν x v∧DL ν l m
 |_,_=>False
def D1 (ν:Nu):SV1 → Value → Prop
 |.c x,v=>DC ν x v
 |.agg l,v=>∃ cs:Array Value,v=.agg cs∧DL ν l cs.toList
def D1L (ν:Nu):List SV1 → List Value → Prop
 |[],[]=>True
 |x :: l,v :: m=>D1 ν x v∧D1L ν l m
 |_,_=>False
def DV (ν:Nu):SV → Value → Prop
 |.v x,v=>D1 ν x v
 |.t l,v=>∃ vs:Array Value,v=.tuple vs∧D1L ν l vs.toList
 |.f g a b,v=>∃ x y:Array Value,v=.func (.func g) x y∧D1L ν a x.toList∧D1L ν b y.toList
theorem DC.ext {ν ν':Nu} (e:Ext ν ν') {x:SC} {v:Value} (h:DC ν x v):DC ν' x v:=by
 cases x with
 |ptr b i sz j=>obtain ⟨k,m,c,h1,h2⟩:=h;exact ⟨k,m,c,e _ _ h1,h2⟩
 |sl b n =>
  rcases h with ⟨h1,h2⟩ | ⟨a,h1,h2⟩ | ⟨k,m,c,h1,h2⟩
  ·exact .inl ⟨e _ _ h1,h2⟩
  ·exact .inr (.inl ⟨a,e _ _ h1,h2⟩)
  ·exact .inr (.inr ⟨k,m,c,e _ _ h1,h2⟩)
 |_=>exact h
theorem DC.free {ν ν':Nu} {x:SC} (hx:x.free=true) {v:Value} (h:DC ν x v):DC ν' x v:=by
 cases x with
 |ptr b i sz j=>cases hx
 |sl b n=>cases hx
 |_=>exact h
theorem DL.ext {ν ν':Nu} (e:Ext ν ν'):∀ {l:List SC} {m:List Value},DL ν l m → DL ν' l m
 |[],[],_=>trivial
 |[],_ :: _,h=>h.elim
 |_ :: _,[],h=>h.elim
 |_ :: _,_ :: _,h=>⟨h.1.ext e,h.2.ext e⟩
theorem D1.ext {ν ν':Nu} (e:Ext ν ν') {x:SV1} {v:Value} (h:D1 ν x v):D1 ν' x v:=by
 cases x with
 |c x=>exact DC.ext e h
 |agg l=>obtain ⟨cs,h1,h2⟩:=h;exact ⟨cs,h1,h2.ext e⟩
theorem D1L.ext {ν ν':Nu} (e:Ext ν ν'):∀ {l:List SV1} {m:List Value},D1L ν l m → D1L ν' l m
 |[],[],_=>trivial
 |[],_ :: _,h=>h.elim
 |_ :: _,[],h=>h.elim
 |_ :: _,_ :: _,h=>⟨h.1.ext e,h.2.ext e⟩
theorem DV.ext {ν ν':Nu} (e:Ext ν ν') {x:SV} {v:Value} (h:DV ν x v):DV ν' x v:=by
 cases x with
 |v x=>exact D1.ext e h
 |t l=>obtain ⟨vs,h1,h2⟩:=h;exact ⟨vs,h1,h2.ext e⟩
 |f g a b=>obtain ⟨x,y,h1,h2,h3⟩:=h;exact ⟨x,y,h1,h2.ext e,h3.ext e⟩
theorem DL.len {ν:Nu}:∀ {l:List SC} {m:List Value},DL ν l m → l.length=m.length
 |[],[],_=>rfl
 |[],_ :: _,h=>h.elim
 |_ :: _,[],h=>h.elim
 |_ :: _,_ :: _,h=>congrArg Nat.succ h.2.len
theorem DL.get {ν:Nu}:∀ {l:List SC} {m:List Value},DL ν l m → ∀ {j:Nat} {x:SC},l[j]?=some x → ∃ v,m[j]?=some v∧DC ν x v
 |[],[],_,_,_,h=>by simp at h
 |[],_ :: _,h,_,_,_=>h.elim
 |_ :: _,[],h,_,_,_=>h.elim
 |_ :: _,w :: _,h,0,_,e=>by simp at e;subst e;exact ⟨w,rfl,h.1⟩
 |_ :: _,_ :: _,h,j+1,_,e=>by simpa using h.2.get (j:=j) (by simpa using e)
theorem DL.of {ν:Nu}:∀ {l:List SC} {m:List Value},l.length=m.length → (∀ (j:Nat) (x:SC) (v:Value),l[j]?=some x → m[j]?=some v → DC ν x v) → DL ν l m
 |[],[],_,_=>trivial
 |[],_ :: _,h,_=>by simp at h
 |_ :: _,[],h,_=>by simp at h
 |x :: l,v :: m,h,k=>⟨k 0 x v rfl rfl,DL.of (by simpa using h) fun j x v a b=>k (j+1) x v (by simpa using a) (by simpa using b)⟩
theorem DL.at {ν:Nu} {l:List SC} {m:List Value} (h:DL ν l m) {j:Nat} {x:SC} {v:Value} (a:l[j]?=some x) (b:m[j]?=some v):DC ν x v:=by
 obtain ⟨u,h1,h2⟩:=h.get a;rw [b] at h1;cases h1;exact h2
theorem flat_of {ν:Nu} {x:SC} {v:Value} (hx:x.flat=true) (h:DC ν x v):flatCell v=true:=by
 cases x with
 |raw u=>cases h;exact hx
 |ptr b i sz j=>obtain ⟨_,_,_,_,rfl⟩:=h;rfl
 |sl b n =>
  rcases h with ⟨_,_,rfl⟩ | ⟨_,_,_,_,rfl⟩ | ⟨_,_,_,_,rfl⟩ <;> rfl
 |_=>cases h;rfl
theorem flats_all {l:List SC} (h:flats l=true):∀ x ∈ l,x.flat=true:=by
 induction l with
 |nil=>intro x hx;cases hx
 |cons y l ih =>
  intro x hx;unfold flats at h
  split at h
  ·rename_i hy;cases hx with
   |head=>exact hy
   |tail _ hx=>exact ih h x hx
  ·cases h
theorem free_flat {x:SC} (h:x.free=true):x.flat=true:=by
 cases x <;> first | rfl | exact h
theorem DL.flat {ν:Nu}:∀ {l:List SC} {m:List Value},(∀ x ∈ l,x.flat=true) → DL ν l m → m.all flatCell=true
 |[],[],_,_=>rfl
 |[],_ :: _,_,h=>h.elim
 |_ :: _,[],_,h=>h.elim
 |x :: l,v :: m,hf,h=>by
  simp only [List.all_cons,Bool.and_eq_true];exact ⟨flat_of (hf x (List.mem_cons_self ..)) h.1,DL.flat (fun y hy=>hf y (List.mem_cons_of_mem _ hy)) h.2⟩
theorem cells_flat {v:Value} (h:flatCell v=true):v.cells=#[v]:=by
 cases v <;> first | rfl | cases h
theorem cells1_of {ν:Nu} {x:SV} {v:Value} {l:List SC} (h:cells1 x=some l) (d:DV ν x v):DL ν l v.cells.toList∧∀ y ∈ l,y.flat=true:=by
 unfold cells1 at h
 split at h
 ·rename_i x
  split at h
  ·rename_i hf;cases h;have d:DC ν x v:=d;rw [cells_flat (flat_of hf d)];exact ⟨⟨d,trivial⟩,fun y hy=>by simp at hy;subst hy;exact hf⟩
  ·cases h
 ·rename_i l'
  split at h
  ·rename_i hf;cases h;obtain ⟨cs,rfl,h2⟩:=d;exact ⟨h2,flats_all hf⟩
  ·cases h
 ·cases h
theorem hset_is.{u,v} {α:Type u} {β:Type v}:∀ (l:List α) (n:Nat) (y:α) (k:List α → β),hset l n y k=k (l.set n y)
 |[],_,_,_=>rfl
 |_ :: _,0,_,_=>rfl
 |x :: l,n+1,y,k=>hset_is l n y fun l=>k (x :: l)
theorem happ_is.{u,v} {α:Type u} {β:Type v}:∀ (l:List α) (y:α) (k:List α → β),happ l y k=k (l ++ [y])
 |[],_,_=>rfl
 |x :: l,y,k=>happ_is l y fun l=>k (x :: l)
theorem hlen_is.{u,v} {α:Type u} {β:Type v}:∀ (l:List α) (n:Nat) (k:Nat → β),hlen l n k=k (n+l.length)
 |[],_,_=>rfl
 |x :: l,n,k=>by
  show hlen l (n+1) k=_;rw [hlen_is l];simp only [List.length_cons];rw [Nat.add_assoc,Nat.add_comm 1]
def cw:List SC → Nat → List SC → List SC
 |l,_,[]=>l
 |[],_,_=>[]
 |_ :: l,0,y :: ys=>y :: cw l 0 ys
 |x :: l,n+1,ys=>x :: cw l n ys
theorem cput_is.{v} {β:Type v}:∀ (l:List SC) (j:Nat) (ys:List SC) (k:List SC → β),cput l j ys k=k (cw l j ys):=by
 intro l
 induction l with
 |nil=>intro j ys k;cases ys <;> (unfold cput cw;rfl)
 |cons x l ih =>
  intro j ys k;cases ys with
  |nil=>unfold cput cw;rfl
  |cons y ys =>
   cases j with
   |zero=>unfold cput cw;exact ih 0 ys _
   |succ j=>unfold cput cw;exact ih j (y :: ys) _
theorem cw_nil (l:List SC) (j:Nat):cw l j []=l:=by cases l <;> rfl
theorem cw_len:∀ (l:List SC) (j:Nat) (ys:List SC),(cw l j ys).length=l.length:=by
 intro l
 induction l with
 |nil=>intro j ys;cases ys <;> rfl
 |cons x l ih =>
  intro j ys;cases ys with
  |nil=>rfl
  |cons y ys =>
   cases j with
   |zero=>unfold cw;simp [ih]
   |succ j=>unfold cw;simp [ih]
theorem cw_get:∀ (l:List SC) (j:Nat) (ys:List SC),j+ys.length≤l.length → ∀ i,(cw l j ys)[i]?=if j≤i∧i < j+ys.length then ys[i - j]? else l[i]?:=by
 intro l
 induction l with
 |nil=>intro j ys h i;cases ys with
  |nil=>simp [cw]
  |cons y ys=>simp at h
 |cons x l ih =>
  intro j ys h i;cases ys with
  |nil=>rw [cw_nil,if_neg (by simp)]
  |cons y ys =>
   simp only [List.length_cons] at h;cases j with
   |zero =>
    unfold cw;cases i with
    |zero=>simp
    |succ i =>
     rw [List.getElem?_cons_succ,ih 0 ys (by omega) i];by_cases hi:i < ys.length
     ·rw [if_pos (by omega),if_pos (by simp only [List.length_cons];omega)];simp
     ·rw [if_neg (by omega),if_neg (by simp only [List.length_cons];omega)];simp
   |succ j =>
    unfold cw
    rcases i with _ | i
    ·simp
    rw [List.getElem?_cons_succ,ih j (y :: ys) (by simp only [List.length_cons];omega) i];by_cases hi:j≤i∧i < j+(y :: ys).length
    ·rw [if_pos hi,if_pos (by omega)]
     congr 1
     omega
    ·rw [if_neg hi,if_neg (by omega)];simp
theorem ctake_is.{v} {β:Type v}:∀ (l:List SC) (j n:Nat) (k:List SC → Option β),ctake l j n k=if j+n≤l.length then k ((l.drop j).take n) else none:=by
 intro l
 induction l with
 |nil =>
  intro j n k;cases j with
  |zero=>cases n with
   |zero=>unfold ctake;simp
   |succ n=>unfold ctake;simp
  |succ j=>unfold ctake;simp
 |cons x l ih =>
  intro j n k;cases j with
  |zero =>
   cases n with
   |zero=>unfold ctake;simp
   |succ n =>
    unfold ctake;rw [ih];by_cases h:n≤l.length
    ·rw [if_pos (by omega),if_pos (by simp;omega)];simp
    ·rw [if_neg (by omega),if_neg (by simp;omega)]
  |succ j =>
   unfold ctake;rw [ih];by_cases h:j+n≤l.length
   ·rw [if_pos h,if_pos (by simp;omega)];simp
   ·rw [if_neg h,if_neg (by simp;omega)]
theorem dynI_get:∀ (l:List SC) (q:Nat) (n:Int),(dynI l)[q]?=some n → l[q]?=some (.int .i64 n):=by
 intro l
 induction l with
 |nil=>intro q n e;simp [dynI] at e
 |cons x l ih =>
  intro q n e;unfold dynI at e
  split at e
  ·rename_i n0 l0 hx;cases hx;cases q with
   |zero=>simp at e;simp [e]
   |succ q=>simp at e;simpa using ih q n e
  ·simp at e
theorem cints_is.{v} {β:Type v}:∀ (l:List SC) (j:Nat) (k:List Int → Option β),cints l j k=if j≤l.length then k (dynI (l.drop j)) else none:=by
 intro l
 induction l with
 |nil=>intro j k;cases j <;> simp [cints,dynI]
 |cons x l ih =>
  intro j k;cases j with
  |succ j =>
   unfold cints;rw [ih];simp
  |zero =>
   rw [if_pos (Nat.zero_le _),List.drop_zero];cases x with
   |int q n =>
    cases q with
    |i64 =>
     unfold cints dynI;rw [ih,if_pos (Nat.zero_le _),List.drop_zero]
    |_=>rfl
   |_=>rfl
def crd (L:List Int):Nat → Nat → List SC
 |0,_=>[]
 |n+1,q=>.int .i64 (L.getD q 0) :: crd L n (q+1)
theorem crds_is.{v} {β:Type v} (L:List Int):∀ (n q:Nat) (k:List SC → β),crds L n q k=k (crd L n q)
 |0,_,_=>rfl
 |n+1,q,k=>crds_is L n (q+1) fun m=>k (.int .i64 (L.getD q 0) :: m)
theorem crd_len (L:List Int):∀ (n q:Nat),(crd L n q).length=n
 |0,_=>rfl
 |n+1,q=>congrArg Nat.succ (crd_len L n (q+1))
theorem crd_get (L:List Int):∀ (n q i:Nat),i < n → (crd L n q)[i]?=some (.int .i64 (L.getD (q+i) 0))
 |0,_,_,h=>by omega
 |n+1,q,0,_=>rfl
 |n+1,q,i+1,h=>by
  unfold crd;rw [List.getElem?_cons_succ,crd_get L n (q+1) i (by omega),show q+1+i=q+(i+1) by omega]
theorem dyn_put {l : List SC} {j i : Nat} {y : Int} (hj : j ≤ l.length) (hi : i < (dynI (l.drop j)).length) :
  j+(i+1)≤l.length∧cw l j (crd ((dynI (l.drop j)).set i y) (dynI (l.drop j)).length 0)=cw l (j+i) [.int .i64 y]:=by
 have at_:∀ q,q < (dynI (l.drop j)).length → l[j+q]?=some (.int .i64 ((dynI (l.drop j)).getD q 0)):=fun q hq=>by
  have:=dynI_get (l.drop j) q _ (List.getElem?_eq_getElem hq);rw [List.getElem?_drop] at this;rw [this,List.getD_eq_getElem?_getD,List.getElem?_eq_getElem hq];rfl
 have all:j+(dynI (l.drop j)).length≤l.length:=by
  rcases Nat.eq_zero_or_pos (dynI (l.drop j)).length with h0 | h0
  ·omega
  ·have:=(List.getElem?_eq_some_iff.1 (at_ ((dynI (l.drop j)).length - 1) (by omega))).1;omega
 refine ⟨by omega,List.ext_getElem? fun p=>?_⟩;rw [cw_get _ _ _ (by rw [crd_len];exact all),cw_get _ _ _ (by simp only [List.length_singleton];omega),crd_len];simp only [List.length_singleton];by_cases h1:j≤p∧p < j+(dynI (l.drop j)).length;rotate_left
 ·rw [if_neg h1,if_neg (by omega)]
 rw [if_pos h1,crd_get _ _ _ _ (by omega),Nat.zero_add,List.getD_eq_getElem?_getD,List.getElem?_set];by_cases h2:i=p - j
 ·rw [if_pos h2,if_pos (by omega),if_pos (by omega),show p - (j+i)=0 by omega];rfl
 ·rw [if_neg h2,if_neg (by omega),← List.getD_eq_getElem?_getD];have:=at_ (p - j) (by omega);rw [show j+(p - j)=p by omega] at this;exact this.symm
variable {KT:TypeId → KD}
theorem hget_is:∀ (h:List (SR KT)) (i:Nat),hget h i=h[i]?
 |[],_=>by simp [hget]
 |_ :: _,0=>by simp [hget]
 |_ :: l,i+1=>by simp [hget,hget_is l i]
def kil (root b:Nat) (stay:Bool) (i:Nat) (x:SR KT):SR KT:=bif Nat.beq x.root root && !(stay && Nat.beq i b) then ⟨.dead,x.root,x.ex⟩ else x
theorem hkill_is.{v} {β:Type v} (root b:Nat) (stay:Bool):∀ (l:List (SR KT)) (i:Nat) (k:List (SR KT) → β),hkill root b stay l i k=k (l.mapIdx fun j x=>kil root b stay (i+j) x)
 |[],_,_=>by simp [hkill]
 |x :: l,i,k=>by
  unfold hkill
  have e:∀ y:SR KT,y :: (l.mapIdx fun j x=>kil root b stay (i+1+j) x)=y :: (l.mapIdx fun j x=>kil root b stay (i+(j+1)) x):=fun y=>by
   congr 2;funext j x;congr 1;omega
  split
  ·rename_i hc;rw [hkill_is root b stay l (i+1)];rw [e,List.mapIdx_cons]
   congr 2
   unfold kil;rw [Nat.add_zero,hc];rfl
  ·rename_i hc;rw [hkill_is root b stay l (i+1)];rw [e,List.mapIdx_cons]
   congr 2
   unfold kil;rw [Nat.add_zero,hc];rfl
theorem kil_hdr (root b:Nat) (stay:Bool) (i:Nat) (x:SR KT):(kil root b stay i x).root=x.root∧(kil root b stay i x).ex=x.ex:=by
 unfold kil;cases (Nat.beq x.root root && !(stay && Nat.beq i b)) <;> exact ⟨rfl,rfl⟩
def CellsAt (ν:Nu) (r:Row) (base:Nat) (l:List SC):Prop:=∀ j c,l[j]?=some c → ∃ v,r.cells.get (base+j)=some v∧DC ν c v
def ArrAt (ν:Nu) (r:Row) (base:Nat) (K:KD) (xs:List K.α):Prop:=∀ i x,xs[i]?=some x → CellsAt ν r (base+i*K.sz) (K.enc x)
def RowOk (ν:Nu) (A:AW):SRow KT → NV → Prop
 |.box l,nv=>(∀ x ∈ l,x.flat=true)∧∃ blk r,nv=.at_ blk 0 0∧A.heap.get blk=some (.row r)∧r.size=l.length∧r.ro=false∧CellsAt ν r 0 l
 |.own t xs,nv=>(nv=.nil∧xs=[]) ∨ ∃ blk r,nv=.at_ blk 0 (KT t).sz∧A.heap.get blk=some (.row r)∧r.size=xs.length*(KT t).sz∧r.ro=false∧ArrAt ν r 0 (KT t) xs
 |.view t xs,nv=>(nv=.nil∧xs=[]) ∨ (∃ a,nv=.emp a∧xs=[]) ∨ ∃ blk base cap r,nv=.at_ blk base cap∧A.heap.get blk=some (.row r)∧base+xs.length*(KT t).sz≤r.size∧ArrAt ν r base (KT t) xs∧(cap=0 ∨ cap=(KT t).sz)
 |.dead,_=>True
theorem CellsAt.ext {ν ν':Nu} (e:Ext ν ν') {r:Row} {base:Nat} {l:List SC} (h:CellsAt ν r base l):CellsAt ν' r base l:=fun j c q=>by
 obtain ⟨v,h1,h2⟩:=h j c q;exact ⟨v,h1,h2.ext e⟩
theorem RowOk.up {ν ν':Nu} (e:Ext ν ν') {A A':AW} {row:SRow KT} {nv:NV} (h:RowOk ν A row nv) (k:∀ blk base cap,nv=.at_ blk base cap → A'.heap.get blk=A.heap.get blk):RowOk ν' A' row nv:=by
 cases row with
 |box l =>
  obtain ⟨hf,blk,r,rfl,h1,h2,h3,h4⟩:=h;exact ⟨hf,blk,r,rfl,by rw [k _ _ _ rfl];exact h1,h2,h3,h4.ext e⟩
 |own t xs =>
  rcases h with h | ⟨blk,r,rfl,h1,h2,h3,h4⟩
  ·exact .inl h
  ·exact .inr ⟨blk,r,rfl,by rw [k _ _ _ rfl];exact h1,h2,h3,fun i x q=>(h4 i x q).ext e⟩
 |view t xs =>
  rcases h with h | h | ⟨blk,base,cap,r,rfl,h1,h2,h4,h5⟩
  ·exact .inl h
  ·exact .inr (.inl h)
  ·exact .inr (.inr ⟨blk,base,cap,r,rfl,by rw [k _ _ _ rfl];exact h1,h2,fun i x q=>(h4 i x q).ext e,h5⟩)
 |dead=>trivial
structure Emb (ν:Nu) (h:List (SR KT)) (A:AW):Prop where
 row:∀ (i:Nat) (s:SR KT),h[i]?=some s → ∃ nv,ν i=some nv∧RowOk ν A s.row nv
 out:∀ i:Nat,h[i]?=none → ν i=none
 lt:∀ i blk base cap,ν i=some (.at_ blk base cap) → blk < A.next
 inj:∀ (i:Nat) (s:SR KT) (i':Nat) (s':SR KT),h[i]?=some s → h[i']?=some s' → s.root ≠ s'.root → (s.ex=true ∨ s'.ex=true) → ∀ blk base cap blk' base' cap',ν i=some (.at_ blk base cap) → ν i'=some (.at_ blk' base' cap') → blk ≠ blk'
 rt:∀ (i:Nat) (s:SR KT),h[i]?=some s → s.root < h.length
structure Gh where
 F:Nat → Prop
 H:Nat → Option AObj
 np:Nat
 ν0:Nu
 W:Nat → Prop
structure SI (Γ:Gh) (ν:Nu) (h:List (SR KT)) (A:AW):Prop where
 emb:Emb ν h A
 wf:WF A
 prot:∀ b,Γ.F b → b < A.next∧A.heap.get b=Γ.H b
 sep:∀ (i:Nat) (s:SR KT) (blk base cap:Nat),h[i]?=some s → s.ex=true → ν i=some (.at_ blk base cap) → ¬ Γ.F blk∧Γ.W blk
 pins:∀ j,j < Γ.np → ν j=Γ.ν0 j
 npl:Γ.np≤h.length
 low:∀ b,A.ts.testBit b=true → Γ.W b
 lwn:∀ b,A.next≤b → Γ.W b
def SL (ν:Nu) (ρ:Nat → SV) (tm:Tr Value):Prop:=∀ t,DV ν (ρ t) (tget tm t)
theorem SL.ext {ν ν':Nu} (e:Ext ν ν') {ρ:Nat → SV} {tm:Tr Value} (h:SL ν ρ tm):SL ν' ρ tm:=fun t=>(h t).ext e
def HX (h h':List (SR KT)):Prop:=∀ (i:Nat) (s:SR KT),h[i]?=some s → ∃ s':SR KT,h'[i]?=some s'∧s'.root=s.root∧s'.ex=s.ex
theorem HX.refl (h:List (SR KT)):HX h h:=fun _ s e=>⟨s,e,rfl,rfl⟩
theorem HX.trans {a b c:List (SR KT)} (h:HX a b) (k:HX b c):HX a c:=fun i s e=>by
 obtain ⟨s1,e1,e2,e3⟩:=h i s e;obtain ⟨s2,e4,e5,e6⟩:=k i s1 e1;exact ⟨s2,e4,e5.trans e2,e6.trans e3⟩
def KR (ν:Nu) (h:List (SR KT)) (k kr:Nat × Nat):Prop:=match k.1 with
 |0=>kr.1=0
 |1=>kr.1=0 ∨ kr.1=1
 |2=>kr.1=0 ∨ ∃ (i:Nat) (s:SR KT) (blk base cap:Nat),h[i]?=some s∧s.root=k.2∧ν i=some (.at_ blk base cap)∧kr=(2,blk)
 |3=>∃ (i:Nat) (s:SR KT) (blk base cap:Nat),h[i]?=some s∧s.root=k.2∧s.ex=true∧ν i=some (.at_ blk base cap)∧kr=(3,blk)
 |4=>kr.1=0 ∨ kr.1=1 ∨ kr.1=4
 |5=>kr.1=0 ∨ kr.1=1 ∨ kr.1=4 ∨ (kr.1=5∧∀ b,kr.2.testBit b=true → ∃ (i:Nat) (s:SR KT) (base cap:Nat),h[i]?=some s∧s.ex=true∧k.2.testBit s.root=true∧ν i=some (.at_ b base cap))
 |_=>True
theorem KR.up {ν ν':Nu} {h h':List (SR KT)} (e:Ext ν ν') (x:HX h h') {k kr:Nat × Nat} (q:KR ν h k kr):KR ν' h' k kr:=by
 unfold KR at q ⊢
 split at q
 ·exact q
 ·exact q
 ·rcases q with q | ⟨i,s,blk,base,cap,q1,q2,q3,q4⟩
  ·exact .inl q
  ·obtain ⟨s',e1,e2,e3⟩:=x i s q1;exact .inr ⟨i,s',blk,base,cap,e1,e2.trans q2,e _ _ q3,q4⟩
 ·obtain ⟨i,s,blk,base,cap,q1,q2,q3,q4,q5⟩:=q;obtain ⟨s',e1,e2,e3⟩:=x i s q1;exact ⟨i,s',blk,base,cap,e1,e2.trans q2,e3.trans q3,e _ _ q4,q5⟩
 ·exact q
 ·rcases q with q | q | q | ⟨q1,q2⟩
  ·exact .inl q
  ·exact .inr (.inl q)
  ·exact .inr (.inr (.inl q))
  ·refine .inr (.inr (.inr ⟨q1,fun b hb=>?_⟩));obtain ⟨i,s,base,cap,r1,r2,r3,r4⟩:=q2 b hb;obtain ⟨s',e1,e2,e3⟩:=x i s r1;exact ⟨i,s',base,cap,e1,e3.trans r2,by rw [e2];exact r3,e _ _ r4⟩
 ·trivial
end Go.Proofs.Ytpbhkdamkbopkaa.Rs
namespace Go.Proofs.Ytpbhkdamkbopkaa.Rf
open Go
structure ME where
 blk:Nat
 base:Nat
 room:Nat
abbrev Mu:=Nat → Option ME
inductive AR (μ:Mu):Addr → Addr → Prop
 |at_ {a:Addr} {m:ME} (hs:a.spot=none) (h:μ a.block=some m):AR μ a ⟨m.blk,m.base+a.off,none⟩
 |opq {a a':Addr} {k:Nat} (hs:a.spot=some k):AR μ a a'
inductive VR (μ:Mu):Value → Value → Prop
 |bool (b:Bool):VR μ (.bool b) (.bool b)
 |int (k:IntKind) (n:Int):VR μ (.int k n) (.int k n)
 |string (s:ByteArray):VR μ (.string s) (.string s)
 |ptr0:VR μ (.pointer none) (.pointer none)
 |ptr {a a':Addr} (h:AR μ a a'):VR μ (.pointer (some a)) (.pointer (some a'))
 |slice0:VR μ (.slice none 0 0) (.slice none 0 0)
 |slice {a : Addr} {m : ME} {len cap cap' : Nat} (hs : a.spot = none) (h : μ a.block = some m) (hl : len ≤ cap') (hr : cap = 0 ∨ a.off + cap' * cap ≤ m.room) :
   VR μ (.slice (some a) len cap) (.slice (some ⟨m.blk,m.base+a.off,none⟩) len cap')
 |sliceO {a a':Addr} {k len cap cap':Nat} (hs:a.spot=some k) (hl:len≤cap') (hk:k=1 ∨ cap'=cap):VR μ (.slice (some a) len cap) (.slice (some a') len cap')
 |map0:VR μ (.map none) (.map none)
 |map {r:Nat} {m:ME} (h:μ r=some m):VR μ (.map (some r)) (.map (some m.blk))
 |func (f : Fn) {a a' b b' : Array Value} (ha : a.size = a'.size) (hb : b.size = b'.size) (h1 : ∀ (i : Nat) (v v' : Value), a[i]? = some v → a'[i]? = some v' → VR μ v v')
   (h2:∀ (i:Nat) (v v':Value),b[i]?=some v → b'[i]?=some v' → VR μ v v'):VR μ (.func f a b) (.func f a' b')
 |nilFunc:VR μ .nilFunc .nilFunc
 |nilIface:VR μ .nilIface .nilIface
 |agg {a a':Array Value} (ha:a.size=a'.size) (h:∀ (i:Nat) (v v':Value),a[i]?=some v → a'[i]?=some v' → VR μ v v'):VR μ (.agg a) (.agg a')
 |tuple {a a':Array Value} (ha:a.size=a'.size) (h:∀ (i:Nat) (v v':Value),a[i]?=some v → a'[i]?=some v' → VR μ v v'):VR μ (.tuple a) (.tuple a')
def Ext (μ μ':Mu):Prop:=∀ b m,μ b=some m → μ' b=some m
theorem Ext.refl (μ:Mu):Ext μ μ:=fun _ _ h=>h
theorem Ext.trans {μ μ' μ'':Mu} (h:Ext μ μ') (k:Ext μ' μ''):Ext μ μ'':=fun b m e=>k b m (h b m e)
theorem AR.mono {μ μ':Mu} (e:Ext μ μ') {a a':Addr} (h:AR μ a a'):AR μ' a a':=by
 cases h with
 |at_ hs h=>exact .at_ hs (e _ _ h)
 |opq hs=>exact .opq hs
theorem VR.mono {μ μ':Mu} (e:Ext μ μ') {v v':Value} (h:VR μ v v'):VR μ' v v':=by
 induction h with
 |bool b=>exact .bool b
 |int k n=>exact .int k n
 |string s=>exact .string s
 |ptr0=>exact .ptr0
 |ptr h=>exact .ptr (h.mono e)
 |slice0=>exact .slice0
 |slice hs h hl hr=>exact .slice hs (e _ _ h) hl hr
 |sliceO hs hl hk=>exact .sliceO hs hl hk
 |map0=>exact .map0
 |map h=>exact .map (e _ _ h)
 |func f ha hb _ _ i1 i2=>exact .func f ha hb i1 i2
 |nilFunc=>exact .nilFunc
 |nilIface=>exact .nilIface
 |agg ha _ i=>exact .agg ha i
 |tuple ha _ i=>exact .tuple ha i
def LR (μ:Mu) (l l':List Value):Prop:=l.length=l'.length∧∀ (i:Nat) (v v':Value),l[i]?=some v → l'[i]?=some v' → VR μ v v'
theorem LR.nil (μ:Mu):LR μ [] []:=⟨rfl,fun i v v' h=>by cases h⟩
theorem LR.mono {μ μ':Mu} (e:Ext μ μ') {l l':List Value} (h:LR μ l l'):LR μ' l l':=⟨h.1,fun i v v' a b=>(h.2 i v v' a b).mono e⟩
theorem LR.cons {μ:Mu} {v v':Value} {l l':List Value} (h:VR μ v v') (hl:LR μ l l'):LR μ (v :: l) (v' :: l'):=by
 refine ⟨by simp [hl.1],fun i u u' a b=>?_⟩;cases i with
 |zero=>simp at a b;subst a;subst b;exact h
 |succ i=>exact hl.2 i u u' (by simpa using a) (by simpa using b)
theorem LR.get {μ:Mu} {l l':List Value} (h:LR μ l l') {i:Nat} {v:Value} (hv:l[i]?=some v):∃ v',l'[i]?=some v'∧VR μ v v':=by
 have hi:i < l.length:=(List.getElem?_eq_some_iff.1 hv).1;have hi':i < l'.length:=by rw [← h.1];exact hi
 exact ⟨l'[i],List.getElem?_eq_getElem hi',h.2 i v _ hv (List.getElem?_eq_getElem hi')⟩
theorem LR.none {μ:Mu} {l l':List Value} (h:LR μ l l') {i:Nat} (hv:l[i]?=Option.none):l'[i]?=Option.none:=by
 rw [List.getElem?_eq_none_iff] at *;rw [← h.1];exact hv
theorem LR.append {μ:Mu} {a a' b b':List Value} (h:LR μ a a') (k:LR μ b b'):LR μ (a ++ b) (a' ++ b'):=by
 refine ⟨by simp [h.1,k.1],fun i v v' x y=>?_⟩;by_cases hi:i < a.length
 ·rw [List.getElem?_append_left hi] at x;rw [List.getElem?_append_left (by rw [← h.1];exact hi)] at y;exact h.2 i v v' x y
 ·rw [List.getElem?_append_right (by omega)] at x;rw [List.getElem?_append_right (by rw [← h.1];omega),← h.1] at y;exact k.2 _ v v' x y
theorem VR.agg' {μ:Mu} {a a':Array Value} (h:LR μ a.toList a'.toList):VR μ (.agg a) (.agg a') :=
 .agg (by simpa using h.1) fun i v v' x y=>h.2 i v v' (by simpa using x) (by simpa using y)
theorem VR.agg_inv {μ:Mu} {a:Array Value} {v':Value} (h:VR μ (.agg a) v'):∃ a',v'=.agg a'∧LR μ a.toList a'.toList:=by
 cases h with
 |agg ha h=>exact ⟨_,rfl,by simpa using ha,fun i v v' x y=>h i v v' (by simpa using x) (by simpa using y)⟩
theorem VR.tuple' {μ:Mu} {a a':Array Value} (h:LR μ a.toList a'.toList):VR μ (.tuple a) (.tuple a') :=
 .tuple (by simpa using h.1) fun i v v' x y=>h.2 i v v' (by simpa using x) (by simpa using y)
theorem VR.tuple_inv {μ:Mu} {a:Array Value} {v':Value} (h:VR μ (.tuple a) v'):∃ a',v'=.tuple a'∧LR μ a.toList a'.toList:=by
 cases h with
 |tuple ha h=>exact ⟨_,rfl,by simpa using ha,fun i v v' x y=>h i v v' (by simpa using x) (by simpa using y)⟩
theorem VR.undef (μ:Mu):VR μ undef undef:=.tuple rfl fun i v v' h=>by simp at h
theorem VR.cells {μ:Mu} {v v':Value} (h:VR μ v v'):LR μ v.cells.toList v'.cells.toList:=by
 have one:∀ {x y:Value},VR μ x y → LR μ [x] [y]:=fun h=>LR.cons h (LR.nil μ);cases h with
 |agg ha h=>exact ⟨by simpa [Value.cells] using ha,fun i v v' x y=>h i v v' (by simpa [Value.cells] using x) (by simpa [Value.cells] using y)⟩
 |_=>exact one (by constructor <;> assumption)
theorem VR.flat {μ:Mu} {v v':Value} (h:VR μ v v'):flatCell v'=flatCell v:=by cases h <;> rfl
def live (h:Nat → Option AObj) (b:Nat):Prop:=(∃ r,h b=some (.row r)) ∨ (∃ es c,h b=some (.map es c)) ∨ (∃ m s n l,h b=some (.iter m s n l))
def FzOk (n:Nat) (fz:Nat × Nat):Prop:=fz.2≤fz.1 ∨ n≤fz.1
def MR (μ:Mu) (es:List MapEntry) (es':Array MapEntry):Prop:=es.length=es'.size∧∀ (i:Nat) (e e':MapEntry),es[i]?=some e → es'[i]?=some e' → VR μ e.key e'.key∧VR μ e.val e'.val∧e.born=e'.born
structure Rel (μ:Mu) (h:Nat → Option AObj) (w:World):Prop where
 blk:∀ b m,μ b=some m → m.blk < w.heap.size
 row:∀ b m r,μ b=some m → h b=some (.row r) → r.size≤m.room∧∃ C t fz,w.heap[m.blk]?=some (.cells C t fz)∧(r.ro=false → FzOk C.size fz)∧C.size=m.base+m.room ∧
  ∀ i v,i < r.size → r.cells.get i=some v → ∃ v',C[m.base+i]?=some v'∧VR μ v v'
 map:∀ b m es c,μ b=some m → h b=some (.map es c) → ∃ es',w.heap[m.blk]?=some (.map es' c)∧MR μ es es'
 iter:∀ b m im s n l,μ b=some m → h b=some (.iter im s n l) → ∃ mm,μ im=some mm∧w.heap[m.blk]?=some (.mapIter (some mm.blk) s n.toArray l)
 inj:∀ b b' m m',μ b=some m → μ b'=some m' → live h b → live h b' → m.blk=m'.blk → b=b'
def Tch (μ:Mu) (h:Nat → Option AObj) (β:Nat):Prop:=∃ b m,μ b=some m∧m.blk=β∧((∃ r,h b=some (.row r)∧r.ro=false) ∨ (∃ es c,h b=some (.map es c)) ∨ (∃ i s n l,h b=some (.iter i s n l)))
structure Post (μ:Mu) (A:AW) (w:World) (μ':Mu) (A':AW) (w':World):Prop where
 ext:Ext μ μ'
 rel:Rel μ' A'.heap.get w'
 os:w'.os=w.os
 tape:w'.tape=w.tape
 output:w'.output=w.output
 size:w.heap.size≤w'.heap.size
 fr:∀ β,β < w.heap.size → ¬ Tch μ A.heap.get β → w'.heap[β]?=w.heap[β]?
 tch:∀ β,β < w.heap.size → Tch μ' A'.heap.get β → Tch μ A.heap.get β
 fresh:∀ b m,μ' b=some m → μ b=some m ∨ (A.next≤b∧b < A'.next)
 next:A.next≤A'.next
theorem Post.refl {μ:Mu} {A:AW} {w:World} (h:Rel μ A.heap.get w):Post μ A w μ A w :=
 ⟨Ext.refl μ,h,rfl,rfl,rfl,Nat.le_refl _,fun _ _ _=>rfl,fun _ _ h=>h,fun _ _ h=>.inl h,Nat.le_refl _⟩
theorem Post.trans {μ μ1 μ2:Mu} {A A1 A2:AW} {w w1 w2:World} (h:Post μ A w μ1 A1 w1) (k:Post μ1 A1 w1 μ2 A2 w2):Post μ A w μ2 A2 w2 where
 ext:=h.ext.trans k.ext
 rel:=k.rel
 os:=k.os.trans h.os
 tape:=k.tape.trans h.tape
 output:=k.output.trans h.output
 size:=Nat.le_trans h.size k.size
 fr β hb ht:=(k.fr β (Nat.lt_of_lt_of_le hb h.size) fun t=>ht (h.tch β hb t)).trans (h.fr β hb ht)
 tch β hb t:=h.tch β hb (k.tch β (Nat.lt_of_lt_of_le hb h.size) t)
 fresh b m e:=by
  rcases k.fresh b m e with e1 | ⟨e1,e2⟩
  ·rcases h.fresh b m e1 with e3 | ⟨e3,e4⟩
   ·exact .inl e3
   ·exact .inr ⟨e3,Nat.lt_of_lt_of_le e4 k.next⟩
  ·exact .inr ⟨Nat.le_trans h.next e1,e2⟩
 next:=Nat.le_trans h.next k.next
end Go.Proofs.Ytpbhkdamkbopkaa.Rf
namespace Go.Proofs.Ytpbhkdamkbopkaa.Rf
open Go
theorem get_mkCells:∀ (l:List Value) (i:Nat) (t:Tr Value) (j:Nat),(mkCells l i t).get j=if i≤j∧j < i+l.length then l[j - i]? else t.get j
 |[],i,t,j=>by
  rw [if_neg (by simp only [List.length_nil];omega)];rfl
 |v :: l,i,t,j=>by
  show (mkCells l (i+1) (t.set i v)).get j=_;rw [get_mkCells l (i+1) (t.set i v) j,Tr.get_set];by_cases h:j=i
  ·subst h;rw [if_neg (by omega),if_pos rfl,if_pos (by simp)];simp
  ·by_cases h2:i+1≤j∧j < i+1+l.length
   ·rw [if_pos h2,if_pos (by simp;omega),show j - i=(j - (i+1))+1 by omega,List.getElem?_cons_succ]
   ·rw [if_neg h2,if_neg h,if_neg (by simp;omega)]
theorem readCells_spec (c:Tr Value):∀ (n off:Nat) (l:List Value),readCells c off n=some l → l.length=n∧∀ i,i < n → c.get (off+i)=l[i]?
 |0,off,l,h=>by
  simp only [readCells,Option.some.injEq] at h;subst h;exact ⟨rfl,fun i hi=>by omega⟩
 |n+1,off,l,h=>by
  unfold readCells at h;cases hv:c.get off with
  |none=>rw [hv] at h;cases h
  |some v =>
   rw [hv] at h;cases hr:readCells c (off+1) n with
   |none=>rw [hr] at h;cases h
   |some l1 =>
    rw [hr] at h;simp only [Option.some.injEq] at h;subst h;have ⟨h1,h2⟩:=readCells_spec c n (off+1) l1 hr;refine ⟨by simp [h1],fun i hi=>?_⟩;cases i with
    |zero=>simpa using hv
    |succ i=>rw [List.getElem?_cons_succ,← h2 i (by omega),show off+(i+1)=off+1+i by omega]
def upd (μ:Mu) (b:Nat) (m:ME):Mu:=fun x=>if x=b then some m else μ x
theorem upd_same (μ:Mu) (b:Nat) (m:ME):upd μ b m b=some m:=if_pos rfl
theorem upd_ne {μ:Mu} {b x:Nat} {m:ME} (h:x ≠ b):upd μ b m x=μ x:=if_neg h
theorem upd_ext {μ:Mu} {b:Nat} (m:ME) (h:μ b=none):Ext μ (upd μ b m):=fun x k e=>by
 by_cases hx:x=b
 ·subst hx;rw [h] at e;cases e
 ·rw [upd_ne hx];exact e
theorem heap_alloc (w:World) (o:Obj) (k:Nat):(w.alloc o).heap[k]?=if k=w.heap.size then some o else w.heap[k]?:=by
 show (w.heap.push o)[k]?=_;rw [Array.getElem?_push]
theorem size_alloc (w:World) (o:Obj):(w.alloc o).heap.size=w.heap.size+1:=by
 show (w.heap.push o).size=_;simp
def OR (μ:Mu) (m:ME):AObj → Obj → Prop
 |.row r,.cells C _ fz=>r.size≤m.room∧(r.ro=false → FzOk C.size fz)∧C.size=m.base+m.room∧∀ i v,i < r.size → r.cells.get i=some v → ∃ v',C[m.base+i]?=some v'∧VR μ v v'
 |.map es c,.map es' c'=>c=c'∧MR μ es es'
 |.iter im s n l,.mapIter im' s' n' l'=>(∃ mm,μ im=some mm∧im'=some mm.blk)∧s=s'∧n'=n.toArray∧l=l'
 |_,_=>False
theorem MR.mono {μ μ':Mu} (e:Ext μ μ') {es:List MapEntry} {es':Array MapEntry} (h:MR μ es es'):MR μ' es es' :=
 ⟨h.1,fun i x y a b=>⟨(h.2 i x y a b).1.mono e,(h.2 i x y a b).2.1.mono e,(h.2 i x y a b).2.2⟩⟩
theorem Rel.keep {μ:Mu} {h h':Nat → Option AObj} {w w':World} (R:Rel μ h w) (hs:w.heap.size≤w'.heap.size) (hh:∀ b o,μ b ≠ none → h' b=some o → o ≠ .dead → h b=some o∧∀ m,μ b=some m → w'.heap[m.blk]?=w.heap[m.blk]?):Rel μ h' w' where
 blk b m e:=Nat.lt_of_lt_of_le (R.blk b m e) hs
 row b m r e hr:=by
  obtain ⟨h1,h2⟩:=hh b _ (by rw [e];simp) hr (by simp);rw [h2 m e];exact R.row b m r e h1
 map b m es c e hr:=by
  obtain ⟨h1,h2⟩:=hh b _ (by rw [e];simp) hr (by simp);rw [h2 m e];exact R.map b m es c e h1
 iter b m im s n l e hr:=by
  obtain ⟨h1,h2⟩:=hh b _ (by rw [e];simp) hr (by simp);rw [h2 m e];exact R.iter b m im s n l e h1
 inj b b' m m' e e' l l' hb:=by
  have lv:∀ b m,μ b=some m → live h' b → live h b:=fun b m e l=>by
   rcases l with ⟨r,hr⟩ | ⟨es,c,hr⟩ | ⟨i,s,n,l,hr⟩
   ·exact .inl ⟨r,(hh b _ (by rw [e];simp) hr (by simp)).1⟩
   ·exact .inr (.inl ⟨es,c,(hh b _ (by rw [e];simp) hr (by simp)).1⟩)
   ·exact .inr (.inr ⟨i,s,n,l,(hh b _ (by rw [e];simp) hr (by simp)).1⟩)
  exact R.inj b b' m m' e e' (lv b m e l) (lv b' m' e' l') hb
theorem Rel.drew {μ:Mu} {h:Nat → Option AObj} {w:World} (R:Rel μ h w):Rel μ h w.drew:=⟨R.blk,R.row,R.map,R.iter,R.inj⟩
theorem post_drew {μ:Mu} {A:AW} {w:World} (h:Rel μ A.heap.get w):Post μ A w μ A w.drew :=
 ⟨Ext.refl μ,h.drew,rfl,rfl,rfl,Nat.le_refl _,fun _ _ _=>rfl,fun _ _ h=>h,fun _ _ h=>.inl h,Nat.le_refl _⟩
theorem Rel.one {μ : Mu} {h' : Nat → Option AObj} {w' : World} (b0 : Nat) (m0 : ME) (o : AObj) (o' : Obj) (hm : μ b0 = some m0) (h0 : h' b0 = some o) (hw : w'.heap[m0.blk]? = some o') (ho : OR μ m0 o o') (hlt : m0.blk < w'.heap.size)
  (R:Rel μ (fun b=>if b=b0 then none else h' b) w') (hi:∀ b m,b ≠ b0 → μ b=some m → live h' b → m.blk ≠ m0.blk):Rel μ h' w' where
 blk b m e:=by
  by_cases hb:b=b0
  ·subst hb;rw [hm] at e;cases e;exact hlt
  ·exact R.blk b m e
 row b m r e hr:=by
  by_cases hb:b=b0
  ·subst hb;rw [hm] at e;cases e;rw [h0] at hr;cases hr;(cases o' <;> try exact ho.elim);rename_i C t fz;obtain ⟨a2,a3,a4,a5⟩:=ho;exact ⟨a2,C,t,fz,hw,a3,a4,a5⟩
  ·exact R.row b m r e (by simp only [if_neg hb];exact hr)
 map b m es c e hr:=by
  by_cases hb:b=b0
  ·subst hb;rw [hm] at e;cases e;rw [h0] at hr;cases hr;(cases o' <;> try exact ho.elim);obtain ⟨rfl,a2⟩:=ho;exact ⟨_,hw,a2⟩
  ·exact R.map b m es c e (by simp only [if_neg hb];exact hr)
 iter b m im s n l e hr:=by
  by_cases hb:b=b0
  ·subst hb;rw [hm] at e;cases e;rw [h0] at hr;cases hr;(cases o' <;> try exact ho.elim);obtain ⟨⟨mm,a1,rfl⟩,rfl,rfl,rfl⟩:=ho;exact ⟨mm,a1,hw⟩
  ·exact R.iter b m im s n l e (by simp only [if_neg hb];exact hr)
 inj b b' m m' e e' l l' hb:=by
  by_cases h1:b=b0
  ·subst h1;rw [hm] at e;cases e;by_cases h2:b'=b
   ·exact h2.symm
   ·exact absurd hb.symm (hi b' m' h2 e' l')
  ·by_cases h2:b'=b0
   ·subst h2;rw [hm] at e';cases e';exact absurd hb (hi b m h1 e l)
   ·have q : ∀ b, b ≠ b0 → live h' b → live (fun b => if b = b0 then none else h' b) b := fun b hb l => by
     simpa only [live,if_neg hb] using l
    exact R.inj b b' m m' e e' (q b h1 l) (q b' h2 l') hb
theorem Rel.upd_none {μ:Mu} {h:Nat → Option AObj} {w:World} {b0:Nat} {m0:ME} (hn:μ b0=none) (hlt:m0.blk < w.heap.size) (R:Rel μ h w) (hb:h b0=none):Rel (upd μ b0 m0) h w:=by
 have e:=upd_ext m0 hn
 have key:∀ b m o,upd μ b0 m0 b=some m → h b=some o → μ b=some m:=fun b m o e1 e2=>by
  by_cases hx:b=b0
  ·subst hx;rw [hb] at e2;cases e2
  ·rwa [upd_ne hx] at e1
 refine ⟨fun b m e1=>?_,fun b m r e1 hr=>?_,fun b m es c e1 hr=>?_,fun b m im s n l e1 hr=>?_,fun b b' m m' e1 e2 l l' hx=>?_⟩
 ·by_cases hx:b=b0
  ·subst hx;rw [upd_same] at e1;cases e1;exact hlt
  ·rw [upd_ne hx] at e1;exact R.blk b m e1
 ·obtain ⟨a2,C,t,fz,a3,a4,a5,a6⟩:=R.row b m r (key b m _ e1 hr) hr;exact ⟨a2,C,t,fz,a3,a4,a5,fun i v hi hv=>(a6 i v hi hv).imp fun v' q=>⟨q.1,q.2.mono e⟩⟩
 ·obtain ⟨es',a1,a2⟩:=R.map b m es c (key b m _ e1 hr) hr;exact ⟨es',a1,a2.mono e⟩
 ·obtain ⟨mm,a1,a2⟩:=R.iter b m im s n l (key b m _ e1 hr) hr;exact ⟨mm,e _ _ a1,a2⟩
 ·have lv : ∀ b m, upd μ b0 m0 b = some m → live h b → μ b = some m := fun b m e1 l => by
   rcases l with ⟨r,hr⟩ | ⟨es,c,hr⟩ | ⟨i,s,n,l,hr⟩ <;> exact key b m _ e1 hr
  exact R.inj b b' m m' (lv b m e1 l) (lv b' m' e2 l') l l' hx
theorem get_new (A:AW) (o:AObj) (b:Nat):(A.new o).heap.get b=if b=A.next then some o else A.heap.get b:=Tr.get_set _ _ _ _
theorem get_turn (A:AW) (b0:Nat) (o:AObj) (b:Nat):(A.turn b0 o).heap.get b=if b=b0 then some o else A.heap.get b:=Tr.get_set _ _ _ _
theorem post_new {μ : Mu} {A : AW} {w : World} (R : Rel μ A.heap.get w) (hn : μ A.next = none) (m : ME) (o : AObj) (o' : Obj) (hm : m.blk = w.heap.size) (ho : OR μ m o o') :
  Post μ A w (upd μ A.next m) (A.new o) (w.alloc o'):=by
 have e:=upd_ext m hn
 have ho2:OR (upd μ A.next m) m o o':=by
  cases o <;> cases o' <;> try exact ho.elim
  ·obtain ⟨a2,a3,a4,a5⟩:=ho;exact ⟨a2,a3,a4,fun i v hi hv=>(a5 i v hi hv).imp fun v' q=>⟨q.1,q.2.mono e⟩⟩
  ·exact ⟨ho.1,ho.2.mono e⟩
  ·obtain ⟨⟨mm,a1,a2⟩,a3⟩:=ho;exact ⟨⟨mm,e _ _ a1,a2⟩,a3⟩
 have hsz:(w.alloc o').heap.size=w.heap.size+1:=size_alloc w o';have hold:∀ k,k < w.heap.size → (w.alloc o').heap[k]?=w.heap[k]?:=fun k hk=>by rw [heap_alloc,if_neg (by omega)]
 refine ⟨e,?_,rfl,rfl,rfl,by rw [hsz];omega,fun β hb _=>hold β hb,?_,?_,Nat.le_succ _⟩
 ·refine Rel.one A.next m o o' (upd_same _ _ _) (by rw [get_new,if_pos rfl]) (by rw [heap_alloc,if_pos hm]) ho2 (by rw [hsz,hm];omega) ?_ ?_
  ·refine Rel.upd_none hn (by rw [hsz,hm];omega) ?_ (by simp);refine R.keep (by rw [hsz];omega) fun b o e1 e2 _=>?_;by_cases hb:b=A.next
   ·simp [hb] at e2
   ·simp only [if_neg hb,get_new] at e2;exact ⟨e2,fun m1 h1=>hold _ (R.blk b m1 h1)⟩
  ·intro b m1 hb h1 _;rw [upd_ne hb] at h1;have:=R.blk b m1 h1;omega
 ·rintro β hb ⟨b,m1,h1,h2,h3⟩;by_cases hx:b=A.next
  ·subst hx;rw [upd_same] at h1;cases h1;omega
  ·rw [upd_ne hx] at h1;simp only [get_new,if_neg hx] at h3;exact ⟨b,m1,h1,h2,h3⟩
 ·intro b m1 h1;by_cases hx:b=A.next
  ·subst hx;exact .inr ⟨Nat.le_refl _,Nat.lt_succ_self _⟩
  ·rw [upd_ne hx] at h1;exact .inl h1
theorem post_turn {μ : Mu} {A : AW} {w w' : World} (R : Rel μ A.heap.get w) (b0 : Nat) (m0 : ME) (o1 : AObj) (o : AObj) (o' : Obj) (hm : μ b0 = some m0) (h1 : A.heap.get b0 = some o1) (hl : live A.heap.get b0) (ht : Tch μ A.heap.get m0.blk)
  (hw:w'.heap[m0.blk]?=some o') (ho:OR μ m0 o o') (hrest:∀ k,k ≠ m0.blk → w'.heap[k]?=w.heap[k]?) (hs:w'.heap.size=w.heap.size) (h3:w'.os=w.os∧w'.tape=w.tape∧w'.output=w.output) :
  Post μ A w μ (A.turn b0 o) w':=by
 refine ⟨Ext.refl μ,?_,h3.1,h3.2.1,h3.2.2,by omega,fun β hb hnt=>hrest β fun e=>hnt (e ▸ ht),?_,fun b m e=>.inl e,Nat.le_refl _⟩
 ·refine Rel.one b0 m0 o o' hm (by rw [get_turn,if_pos rfl]) hw ho (by rw [hs];exact R.blk _ _ hm) ?_ ?_
  ·refine R.keep (by omega) fun b o e1 e2 hd=>?_;by_cases hb:b=b0
   ·simp [hb] at e2
   simp only [if_neg hb,get_turn] at e2;refine ⟨e2,fun m1 hm1=>hrest _ fun e=>hb (R.inj b b0 m1 m0 hm1 hm ?_ hl e)⟩;cases o with
   |row r=>exact .inl ⟨r,e2⟩
   |map es c=>exact .inr (.inl ⟨es,c,e2⟩)
   |iter i s n l=>exact .inr (.inr ⟨i,s,n,l,e2⟩)
   |dead=>exact absurd rfl hd
  ·intro b m1 hb hm1 l e;refine hb (R.inj b b0 m1 m0 hm1 hm ?_ hl e)
   simpa only [live,get_turn,if_neg hb] using l
 ·rintro β hb ⟨b,m1,e1,e2,e3⟩;by_cases hx:b=b0
  ·subst hx;rw [hm] at e1;cases e1;subst e2;exact ht
  ·simp only [get_turn,if_neg hx] at e3;exact ⟨b,m1,e1,e2,e3⟩
end Go.Proofs.Ytpbhkdamkbopkaa.Rf
namespace Go.Proofs.Ytpbhkdamkbopkaa.Rs
open Go Go.RowKit Rf YtpbhkdamkbopkaaW.PrintWords
variable {KT:TypeId → KD} {Γ:Gh} {ν:Nu} {h:List (SR KT)} {A:AW}
def nup (ν:Nu) (n:Nat) (nv:NV):Nu:=fun i=>if i=n then some nv else ν i
theorem nup_ext (he:∀ i:Nat,h[i]?=none → ν i=none) (nv:NV):Ext ν (nup ν h.length nv):=fun i m e=>by
 unfold nup;rw [if_neg]
 ·exact e
 ·intro hi;rw [he i (by rw [hi];exact List.getElem?_eq_none (Nat.le_refl _))] at e;cases e
theorem nup_same (n:Nat) (nv:NV):nup ν n nv n=some nv:=if_pos rfl
theorem hx_app (x:SR KT):HX h (h ++ [x]):=fun i s e=>⟨s,by
 have hi:i < h.length:=(List.getElem?_eq_some_iff.1 e).1;rw [List.getElem?_append_left hi];exact e,rfl,rfl⟩
theorem app_get {x:SR KT} {i:Nat} {s:SR KT} (e:(h ++ [x])[i]?=some s):h[i]?=some s ∨ (i=h.length∧s=x):=by
 rcases Nat.lt_or_ge i h.length with hi | hi
 ·rw [List.getElem?_append_left hi] at e;exact .inl e
 ·rw [List.getElem?_append_right hi] at e;cases hj:i - h.length with
  |zero=>rw [hj] at e;simp at e;exact .inr ⟨by omega,e.symm⟩
  |succ n=>rw [hj] at e;simp at e
theorem SI.new (s : SI Γ ν h A) (r : Row) (hro : r.ro = false) (cap : Nat) (row : SRow KT)
  (hr:RowOk (nup ν h.length (.at_ A.next 0 cap)) (A.new (.row r)) row (.at_ A.next 0 cap)) :
  SI Γ (nup ν h.length (.at_ A.next 0 cap)) (h ++ [⟨row,h.length,true⟩]) (A.new (.row r)):=by
 have e:=nup_ext s.emb.out (.at_ A.next 0 cap);have hg:∀ b,(A.new (.row r)).heap.get b=if b=A.next then some (.row r) else A.heap.get b:=fun b=>nget_new A _ b;have old:∀ i,i ≠ h.length → nup ν h.length (.at_ A.next 0 cap) i=ν i:=fun i hi=>if_neg hi;have hlt:∀ i s',h[i]?=some s' → i ≠ h.length:=fun i s' e=>by have:=(List.getElem?_eq_some_iff.1 e).1;omega
 refine ⟨⟨?_,?_,?_,?_,?_⟩,?_,?_,?_,?_,?_,?_,?_⟩
 ·intro i s' q
  rcases app_get q with q | ⟨rfl,rfl⟩
  ·obtain ⟨nv,q1,q2⟩:=s.emb.row i s' q;refine ⟨nv,by rw [old i (hlt i s' q)];exact q1,q2.up e fun blk base cap q3=>?_⟩;have:=s.emb.lt i blk base cap (by rw [q1,q3]);rw [hg,if_neg (by omega)]
  ·exact ⟨_,nup_same _ _,hr⟩
 ·intro i q;rw [List.getElem?_eq_none_iff] at q;simp only [List.length_append,List.length_cons,List.length_nil] at q;rw [old i (by omega)];exact s.emb.out i (List.getElem?_eq_none (by omega))
 ·intro i blk base cap' q;show blk < A.next+1;by_cases hi:i=h.length
  ·subst hi;rw [nup_same] at q;cases q;omega
  ·rw [old i hi] at q;have:=s.emb.lt i blk base cap' q;omega
 ·intro i s1 i' s2 q1 q2 hne hex blk base cap1 blk' base' cap2 n1 n2
  rcases app_get q1 with q1 | ⟨rfl,rfl⟩
  ·have n1':=n1;rw [old i (hlt i s1 q1)] at n1;have l1:=s.emb.lt i _ _ _ n1
   rcases app_get q2 with q2 | ⟨rfl,rfl⟩
   ·rw [old i' (hlt i' s2 q2)] at n2;exact s.emb.inj i s1 i' s2 q1 q2 hne hex _ _ _ _ _ _ n1 n2
   ·rw [nup_same] at n2;cases n2;omega
  ·rw [nup_same] at n1;cases n1
   rcases app_get q2 with q2 | ⟨rfl,rfl⟩
   ·rw [old i' (hlt i' s2 q2)] at n2;have:=s.emb.lt i' _ _ _ n2;omega
   ·exact absurd rfl hne
 ·intro i s' q;simp only [List.length_append,List.length_cons,List.length_nil]
  rcases app_get q with q | ⟨rfl,rfl⟩
  ·have:=s.emb.rt i s' q;omega
  ·show h.length < h.length+1;omega
 ·exact (AStep.new s.wf (.row r) hro).wf
 ·intro b hb;obtain ⟨p1,p2⟩:=s.prot b hb;exact ⟨by show b < A.next+1;omega,by rw [hg,if_neg (by omega)];exact p2⟩
 ·intro i s' blk base cap' q hex n
  rcases app_get q with q | ⟨rfl,rfl⟩
  ·rw [old i (hlt i s' q)] at n;exact s.sep i s' blk base cap' q hex n
  ·rw [nup_same] at n;cases n;exact ⟨fun hf=>by have:=(s.prot _ hf).1;omega,s.lwn _ (Nat.le_refl _)⟩
 ·intro j hj;have:=s.npl;rw [old j (by omega)];exact s.pins j hj
 ·have:=s.npl;simp only [List.length_append];omega
 ·exact s.low
 ·exact fun b hb=>s.lwn b (Nat.le_of_succ_le hb)
theorem SI.turn (s : SI Γ ν h A) {i : Nat} {row : SRow KT} {root : Nat} (hi : h[i]? = some ⟨row, root, true⟩) {blk base cap : Nat} (hν : ν i = some (.at_ blk base cap)) {o1 : AObj} (h1 : A.heap.get blk = some o1) (o : AObj) (ho : notRo o) {row' : SRow KT} {h' : List (SR KT)}
  (hh:∀ (j:Nat) (x:SR KT),h[j]?=some x → h'[j]?=some (if j=i then ⟨row',root,true⟩ else if x.root=root then ⟨.dead,x.root,x.ex⟩ else x)) (hlen:h'.length=h.length)
  (hrow:RowOk ν (A.turn blk o) row' (.at_ blk base cap)):SI Γ ν h' (A.turn blk o)∧HX h h':=by
 have hg:∀ b,(A.turn blk o).heap.get b=if b=blk then some o else A.heap.get b:=fun b=>nget_turn A blk o b
 have hdr:HX h h':=fun j x e=>by
  refine ⟨_,hh j x e,?_⟩;by_cases hj:j=i
  ·subst hj;rw [hi] at e;cases e;rw [if_pos rfl];exact ⟨rfl,rfl⟩
  ·rw [if_neg hj];by_cases hr:x.root=root
   ·rw [if_pos hr];exact ⟨rfl,rfl⟩
   ·rw [if_neg hr];exact ⟨rfl,rfl⟩
 have back:∀ (j:Nat) (x':SR KT),h'[j]?=some x' → ∃ x:SR KT,h[j]?=some x∧x.root=x'.root∧x.ex=x'.ex:=fun j x' e=>by
  have hj:j < h.length:=by rw [← hlen];exact (List.getElem?_eq_some_iff.1 e).1
  obtain ⟨x2,e2,e3,e4⟩:=hdr j _ (List.getElem?_eq_getElem hj);rw [e] at e2;cases e2;exact ⟨_,List.getElem?_eq_getElem hj,e3.symm,e4.symm⟩
 obtain ⟨nf,hlw⟩:=s.sep i _ blk base cap hi rfl hν;have as_:=AStep.turn s.wf h1 o ho;refine ⟨⟨⟨?_,?_,?_,?_,?_⟩,as_.wf,?_,?_,s.pins,by rw [hlen];exact s.npl,?_,s.lwn⟩,hdr⟩
 ·intro j x' q;have hj:j < h.length:=by rw [← hlen];exact (List.getElem?_eq_some_iff.1 q).1
  have e:h[j]?=some h[j]:=List.getElem?_eq_getElem hj;have e2:=hh j _ e;rw [q] at e2;simp only [Option.some.injEq] at e2;subst e2;by_cases hji:j=i
  ·subst hji;rw [if_pos rfl];exact ⟨_,hν,hrow⟩
  rw [if_neg hji];obtain ⟨nv,q1,q2⟩:=s.emb.row j _ e;by_cases hr:h[j].root=root
  ·rw [if_pos hr];exact ⟨nv,q1,trivial⟩
  ·rw [if_neg hr];refine ⟨nv,q1,q2.up (Ext.refl ν) fun b1 m1 c1 q3=>?_⟩;have:=s.emb.inj j _ i _ e hi (by exact hr) (.inr rfl) _ _ _ _ _ _ (by rw [q1,q3]) hν;rw [hg,if_neg this]
 ·intro j q;rw [List.getElem?_eq_none_iff,hlen] at q;exact s.emb.out j (List.getElem?_eq_none q)
 ·exact s.emb.lt
 ·intro j s1 j' s2 q1 q2 hne hex;obtain ⟨x1,e1,r1,t1⟩:=back j s1 q1;obtain ⟨x2,e2,r2,t2⟩:=back j' s2 q2;exact s.emb.inj j x1 j' x2 e1 e2 (by rw [r1,r2];exact hne) (by rw [t1,t2];exact hex)
 ·intro j s1 q1;obtain ⟨x1,e1,r1,t1⟩:=back j s1 q1;rw [hlen,← r1];exact s.emb.rt j x1 e1
 ·intro b hb;obtain ⟨p1,p2⟩:=s.prot b hb;exact ⟨p1,by rw [hg,if_neg (fun q:b=blk=>nf (by rw [← q];exact hb))];exact p2⟩
 ·intro j s1 b1 m1 c1 q1 hex n1;obtain ⟨x1,e1,r1,t1⟩:=back j s1 q1;exact s.sep j x1 b1 m1 c1 e1 (by rw [t1];exact hex) n1
 ·intro b hb;have hb:(A.ts ||| 2 ^ blk).testBit b=true:=hb;rw [Nat.testBit_or,Nat.testBit_two_pow,Bool.or_eq_true] at hb
  rcases hb with hb | hb
  ·exact s.low b hb
  ·rw [← of_decide_eq_true hb];exact hlw
theorem kil_stay {i : Nat} {root : Nat} {row row' : SRow KT} (hi : h[i]? = some ⟨row, root, true⟩) (j : Nat) (x : SR KT) (e : h[j]? = some x) :
  ((h.mapIdx fun j x=>kil root i true (0+j) x).set i ⟨row',root,true⟩)[j]?=some (if j=i then ⟨row',root,true⟩ else if x.root=root then ⟨.dead,x.root,x.ex⟩ else x):=by
 have hj:j < h.length:=(List.getElem?_eq_some_iff.1 e).1;rw [List.getElem?_set];by_cases hji:j=i
 ·subst hji;rw [if_pos rfl,if_pos rfl,if_pos (by simpa using hj)]
 rw [if_neg (fun q=>hji q.symm),if_neg hji,List.getElem?_mapIdx,e];simp only [Option.map_some,Nat.zero_add];unfold kil;have e2:Nat.beq j i=false:=Tr.beqf hji;by_cases hr:x.root=root
 ·rw [if_pos hr,Tr.beqt hr,e2];rfl
 ·rw [if_neg hr,Tr.beqf hr];rfl
theorem kil_gone {i : Nat} {root : Nat} {row : SRow KT} (hi : h[i]? = some ⟨row, root, true⟩) (j : Nat) (x : SR KT) (e : h[j]? = some x) :
  (h.mapIdx fun j x=>kil root i false (0+j) x)[j]?=some (if j=i then ⟨.dead,root,true⟩ else if x.root=root then ⟨.dead,x.root,x.ex⟩ else x):=by
 rw [List.getElem?_mapIdx,e];simp only [Option.map_some,Nat.zero_add];unfold kil;by_cases hji:j=i
 ·subst hji;rw [hi] at e;cases e;rw [if_pos rfl,Tr.beqt (rfl:root=root)];rfl
 ·rw [if_neg hji];by_cases hr:x.root=root
  ·rw [if_pos hr,Tr.beqt hr];rfl
  ·rw [if_neg hr,Tr.beqf hr];rfl
theorem read_ok {c:Tr Value}:∀ (ys:List SC) (off:Nat),(∀ (j:Nat) (y:SC),ys[j]?=some y → ∃ v,c.get (off+j)=some v∧DC ν y v) → ∃ l,readCells c off ys.length=some l∧DL ν ys l
 |[],_,_=>⟨[],rfl,trivial⟩
 |y :: ys,off,k=>by
  obtain ⟨v,h1,h2⟩:=k 0 y rfl
  obtain ⟨l,h3,h4⟩:=read_ok ys (off+1) fun j z e=>by
   obtain ⟨u,q1,q2⟩:=k (j+1) z (by simpa using e);exact ⟨u,by rw [show off+1+j=off+(j+1) by omega];exact q1,q2⟩
  refine ⟨v :: l,?_,h2,h4⟩;show readCells c off (ys.length+1)=_;unfold readCells;rw [show c.get off=some v by simpa using h1];simp only;rw [h3]
theorem mk_cells (l:List Value) (j:Nat) (v:Value) (e:l[j]?=some v):(mkCells l 0 .e).get j=some v:=by
 rw [get_mkCells];have hj:j < l.length:=(List.getElem?_eq_some_iff.1 e).1;simp only [Nat.zero_le,true_and,Nat.zero_add,Nat.sub_zero];rw [if_pos hj];exact e
theorem CellsAt.mk {l:List SC} {m:List Value} (d:DL ν l m) (ro:Bool) (n:Nat):CellsAt ν ⟨mkCells m 0 .e,n,ro⟩ 0 l:=fun j c e=>by
 obtain ⟨v,h1,h2⟩:=d.get e;exact ⟨v,by rw [Nat.zero_add];exact mk_cells m j v h1,h2⟩
theorem arr_mk (K:KD):∀ (xs:List K.α) (m:List Value) ,DL ν (xs.flatMap K.enc) m → ∀ (ro:Bool) (n:Nat),ArrAt ν ⟨mkCells m 0 .e,n,ro⟩ 0 K xs:=by
 have key:∀ (xs:List K.α) (i:Nat) (x:K.α),xs[i]?=some x → ∀ (j:Nat) (c:SC),(K.enc x)[j]?=some c → (xs.flatMap K.enc)[i*K.sz+j]?=some c:=by
  intro xs
  induction xs with
  |nil=>intro i x e;simp at e
  |cons y xs ih =>
   intro i x e j c q;rw [List.flatMap_cons];have hl:=K.len y;cases i with
   |zero =>
    simp at e;subst e;have hj:j < (K.enc y).length:=(List.getElem?_eq_some_iff.1 q).1;rw [Nat.zero_mul,Nat.zero_add,List.getElem?_append_left hj];exact q
   |succ i =>
    rw [List.getElem?_append_right (by rw [hl,Nat.add_mul];omega),hl,show (i+1)*K.sz+j - K.sz=i*K.sz+j by rw [Nat.add_mul];omega];exact ih i x (by simpa using e) j c q
 intro xs m d ro n i x e j c q;obtain ⟨v,h1,h2⟩:=d.get (key xs i x e j c q);exact ⟨v,by rw [Nat.zero_add];exact mk_cells m _ v h1,h2⟩
theorem flat_len (K:KD) (xs:List K.α):(xs.flatMap K.enc).length=xs.length*K.sz:=by
 induction xs with
 |nil=>simp
 |cons x xs ih=>rw [List.flatMap_cons,List.length_append,ih,K.len,List.length_cons,Nat.add_mul];omega
theorem flat_free (K:KD) (xs:List K.α):∀ c ∈ xs.flatMap K.enc,c.free=true:=fun c hc=>by
 rw [List.mem_flatMap] at hc;obtain ⟨x,_,hx⟩:=hc;exact List.all_eq_true.1 (K.fr x) c hx
theorem arr_read {K:KD} {r:Row} {base:Nat} {xs:List K.α} (a:ArrAt ν r base K xs):∃ l,readCells r.cells base (xs.length*K.sz)=some l∧DL ν (xs.flatMap K.enc) l:=by
 have key:∀ (ys zs:List K.α),(∃ pre,xs=pre ++ ys∧zs=pre) → ∃ l,readCells r.cells (base+zs.length*K.sz) (ys.length*K.sz)=some l∧DL ν (ys.flatMap K.enc) l:=by
  intro ys
  induction ys with
  |nil=>intro zs _;exact ⟨[],by simp [readCells],trivial⟩
  |cons y ys ih =>
   rintro zs ⟨pre,e,rfl⟩;obtain ⟨l,h1,h2⟩:=ih (zs ++ [y]) ⟨zs ++ [y],by simp [e],rfl⟩;(have hy:xs[zs.length]?=some y:=by rw [e];simp);obtain ⟨l0,h3,h4⟩:=read_ok (K.enc y) (base+zs.length*K.sz) (fun j c q=>a zs.length y hy j c q);rw [K.len] at h3
   have app:∀ (n m off:Nat) (p q:List Value),readCells r.cells off n=some p → readCells r.cells (off+n) m=some q → readCells r.cells off (n+m)=some (p ++ q):=by
    intro n
    induction n with
    |zero=>intro m off p q e1 e2;unfold readCells at e1;cases e1;simpa using e2
    |succ n ih2 =>
     intro m off p q e1 e2;unfold readCells at e1
     split at e1
     ·rename_i v hv
      split at e1
      ·rename_i l' hl';cases e1;rw [show n+1+m=(n+m)+1 by omega];unfold readCells;rw [hv];simp only;rw [ih2 m (off+1) l' q hl' (by rw [show off+1+n=off+(n+1) by omega];exact e2)];rfl
      ·cases e1
     ·cases e1
   refine ⟨l0 ++ l,?_,?_⟩
   ·rw [show (y :: ys).length*K.sz=K.sz+ys.length*K.sz by rw [List.length_cons,Nat.add_mul];omega];refine app _ _ _ _ _ h3 ?_;rw [show base+zs.length*K.sz+K.sz=base+(zs ++ [y]).length*K.sz by rw [List.length_append,List.length_cons,List.length_nil,Nat.add_mul];omega];exact h1
   ·rw [List.flatMap_cons]
    have dapp:∀ (l1:List SC) (m1:List Value),DL ν l1 m1 → ∀ (l2:List SC) (m2:List Value),DL ν l2 m2 → DL ν (l1 ++ l2) (m1 ++ m2):=by
     intro l1
     induction l1 with
     |nil=>intro m1 d1 l2 m2 d2;cases m1 with
      |nil=>exact d2
      |cons _ _=>exact d1.elim
     |cons c l1 ih3=>intro m1 d1 l2 m2 d2;cases m1 with
      |nil=>exact d1.elim
      |cons v m1=>exact ⟨d1.1,ih3 m1 d1.2 l2 m2 d2⟩
    exact dapp _ _ h4 _ _ h2
 obtain ⟨l,h1,h2⟩:=key xs [] ⟨[],rfl,rfl⟩;exact ⟨l,by simpa using h1,h2⟩
theorem DL.app:∀ {l1:List SC} {m1:List Value},DL ν l1 m1 → ∀ {l2:List SC} {m2:List Value},DL ν l2 m2 → DL ν (l1 ++ l2) (m1 ++ m2)
 |[],[],_,_,_,d=>d
 |[],_ :: _,d,_,_,_=>d.elim
 |_ :: _,[],d,_,_,_=>d.elim
 |_ :: _,_ :: _,d,_,_,e=>⟨d.1,d.2.app e⟩
end Go.Proofs.Ytpbhkdamkbopkaa.Rs
namespace Go.Proofs.Ytpbhkdamkbopkaa.Rf
open Go
theorem flat_one (v:Value):v.oneCell'=flatCell v:=by cases v <;> rfl
def writeL:Array Value → Nat → List Value → Array Value
 |C,_,[]=>C
 |C,i,v :: l=>writeL (C.setIfInBounds i v) (i+1) l
theorem size_writeL:∀ (l:List Value) (C:Array Value) (i:Nat),(writeL C i l).size=C.size
 |[],_,_=>rfl
 |v :: l,C,i=>by show (writeL _ _ l).size=_;rw [size_writeL l];simp
theorem get_writeL:∀ (l:List Value) (C:Array Value) (i j:Nat),i+l.length≤C.size → (writeL C i l)[j]?=if i≤j∧j < i+l.length then l[j - i]? else C[j]?
 |[],C,i,j,_=>by rw [if_neg (by simp only [List.length_nil];omega)];rfl
 |v :: l,C,i,j,h=>by
  show (writeL (C.setIfInBounds i v) (i+1) l)[j]?=_;simp only [List.length_cons] at h;rw [get_writeL l _ _ j (by simp;omega)];by_cases hj:j=i
  ·subst hj;rw [if_neg (by omega),if_pos (by simp),Array.getElem?_setIfInBounds_self];simp;omega
  ·by_cases h2:i+1≤j∧j < i+1+l.length
   ·rw [if_pos h2,if_pos (by simp;omega),show j - i=(j - (i+1))+1 by omega,List.getElem?_cons_succ]
   ·rw [if_neg h2,if_neg (by simp;omega),Array.getElem?_setIfInBounds_ne (by omega)]
structure Only (w w':World) (g:Nat) (o:Obj):Prop where
 here:w'.heap[g]?=some o
 rest:∀ k,k ≠ g → w'.heap[k]?=w.heap[k]?
 size:w'.heap.size=w.heap.size
 out:w'.os=w.os∧w'.tape=w.tape∧w'.output=w.output
theorem Only.refl {w:World} {g:Nat} {o:Obj} (h:w.heap[g]?=some o):Only w w g o:=⟨h,fun _ _=>rfl,rfl,rfl,rfl,rfl⟩
theorem only_setCell {w:World} {g i:Nat} {C:Array Value} {t:TypeId} {fz:Nat × Nat} (h:w.heap[g]?=some (.cells C t fz)) (v:Value):Only w (w.setCell ⟨g,i,none⟩ v) g (.cells (C.setIfInBounds i v) t fz):=by
 refine ⟨?_,fun k hk=>?_,?_,rfl,rfl,rfl⟩
 ·simp [World.setCell,Array.getElem?_modify,h]
 ·simp only [World.setCell,Array.getElem?_modify];rw [if_neg (fun e=>hk e.symm)]
 ·simp [World.setCell]
theorem Only.trans {w w1 w2:World} {g:Nat} {o o2:Obj} (h:Only w w1 g o) (k:Only w1 w2 g o2):Only w w2 g o2 :=
 ⟨k.here,fun i hi=>(k.rest i hi).trans (h.rest i hi),k.size.trans h.size,k.out.1.trans h.out.1,k.out.2.1.trans h.out.2.1,k.out.2.2.trans h.out.2.2⟩
theorem fz_off {n:Nat} {fz:Nat × Nat} (h:FzOk n fz) {i:Nat} (hi:i < n):(decide (fz.1≤i) && decide (i < fz.2))=false:=by
 unfold FzOk at h
 rcases h with h | h
 ·by_cases h1:fz.1≤i
  ·have:¬ i < fz.2:=by omega
   simp [this]
  ·simp [h1]
 ·have:¬ fz.1≤i:=by omega
  simp [this]
theorem add_off (g o j:Nat):(⟨g,o,none⟩:Addr).add j=⟨g,o+j,none⟩:=by unfold Addr.add;split <;> simp_all
theorem run_storeL (P : Program) (g : Nat) (t : TypeId) (fz : Nat × Nat) : ∀ (l : List Value) (o i : Nat) (C : Array Value) (w : World), w.heap[g]? = some (.cells C t fz) → FzOk C.size fz → o + i + l.length ≤ C.size → l.all flatCell = true →
  ∃ w',(storeCells ⟨g,o,none⟩ l i).run P w=.ok () w'∧Only w w' g (.cells (writeL C (o+i) l) t fz)
 |[],o,i,C,w,hg,_,_,_=>⟨w,rfl,Only.refl hg⟩
 |v :: l,o,i,C,w,hg,hf,hl,h1=>by
  simp only [List.length_cons] at hl;simp only [List.all_cons,Bool.and_eq_true] at h1;have hi:o+i < C.size:=by omega
  have hcell:w.cell? ⟨g,o+i,none⟩=some C[o+i]:=by simp [World.cell?,hg,hi]
  have hfro:w.frozen? ⟨g,o+i,none⟩=false:=by
   have:=fz_off hf hi;simp only [World.frozen?,hg];exact this
  have o1:=only_setCell (i:=o+i) hg v
  have hst:(store ((⟨g,o,none⟩:Addr).add i) v).run P w=.ok () (w.setCell ⟨g,o+i,none⟩ v):=by
   rw [add_off,run_store P w _ v _ (by rw [flat_one];exact h1.1),hcell];simp [hfro]
  obtain ⟨w2,r2,o2⟩:=run_storeL P g t fz l o (i+1) _ _ o1.here (by simpa using hf) (by simp;omega) h1.2;refine ⟨w2,?_,o1.trans o2⟩;simp only [storeCells,Sem.run_bind,hst,Result.andThen_ok];exact r2
variable {P:Program} {μ:Mu} {A:AW} {w:World}
theorem row_of {b:Nat} {r:Row} (h:A.row? b=some r):A.heap.get b=some (.row r):=by
 unfold AW.row? at h
 split at h
 ·rename_i r' e;cases h;exact e
 ·cases h
theorem cells_sim (R:Rel μ A.heap.get w) {a a':Addr} (ha:AR μ a a') {n:Nat} {l:List Value} (h:A.cells? a n=some l):∃ l',LR μ l l'∧l.length=n∧∀ j v,l'[j]?=some v → w.cell? (a'.add j)=some v:=by
 unfold AW.cells? at h;cases ha with
 |opq hs=>rw [hs] at h;simp at h
 |at_ hs hm =>
  rename_i m;rw [hs] at h;cases hr:A.row? a.block with
  |none=>rw [hr] at h;simp at h
  |some r =>
   rw [hr] at h;simp only at h;cases hb:Nat.ble (a.off+n) r.size with
   |false=>rw [hb] at h;cases h
   |true =>
    rw [hb] at h;simp only [cond_true] at h;have hle:a.off+n≤r.size:=Nat.le_of_ble_eq_true hb;obtain ⟨h1,h2⟩:=readCells_spec r.cells n a.off l h;obtain ⟨_,C,t,fz,hC,_,_,hcell⟩:=R.row a.block m r hm (row_of hr)
    have ex:∀ i,i < n → ∃ v v',l[i]?=some v∧C[m.base+(a.off+i)]?=some v'∧VR μ v v':=fun i hi=>by
     obtain ⟨v,hv⟩:∃ v,l[i]?=some v:=⟨_,List.getElem?_eq_getElem (by omega)⟩;obtain ⟨v',q1,q2⟩:=hcell (a.off+i) v (by omega) (by rw [h2 i hi];exact hv);exact ⟨v,v',hv,q1,q2⟩
    have hle2:m.base+a.off+n≤C.size ∨ n=0:=by
     rcases Nat.eq_zero_or_pos n with h0 | h0
     ·exact .inr h0
     ·obtain ⟨_,v',_,q,_⟩:=ex (n - 1) (by omega);have:=(Array.getElem?_eq_some_iff.1 q).1;exact .inl (by omega)
    refine ⟨(List.range n).map fun i=>C.getD (m.base+(a.off+i)) undef,⟨by simp [h1],fun i v v' e1 e2=>?_⟩,h1,fun j v e=>?_⟩
    ·have hi:i < n:=by rw [← h1];exact (List.getElem?_eq_some_iff.1 e1).1
     obtain ⟨u,u',q1,q2,q3⟩:=ex i hi;rw [q1] at e1;cases e1;rw [List.getElem?_map,List.getElem?_range hi] at e2;simp only [Option.map_some,Option.some.injEq,Array.getD_eq_getD_getElem?,q2,Option.getD_some] at e2;subst e2;exact q3
    ·have hj:j < n:=by have:=(List.getElem?_eq_some_iff.1 e).1;simpa using this
     obtain ⟨u,u',q1,q2,q3⟩:=ex j hj;rw [List.getElem?_map,List.getElem?_range hj] at e;simp only [Option.map_some,Option.some.injEq,Array.getD_eq_getD_getElem?,q2,Option.getD_some] at e;subst e;rw [add_off];simp only [World.cell?,hC];simp only [Option.isSome_none,Bool.false_eq_true,if_false];rw [Nat.add_assoc];exact q2
def isAggD:TypeDesc → Bool
 |.struct _ | .array _ _=>true
 |_=>false
theorem lay_spec {t:TypeId} {b:Bool} {n:Nat} (h:lay P t=some (b,n)):∃ i d,P.info? t=some i∧P.underlying t=some d∧i.size=n∧b=isAggD d:=by
 unfold lay at h
 split at h <;> cases h
 ·rename_i i fs e1 e2;exact ⟨i,_,e1,e2,rfl,rfl⟩
 ·rename_i i n e e1 e2;exact ⟨i,_,e1,e2,rfl,rfl⟩
 ·rename_i i d h1 h2 e1 e2;refine ⟨i,d,e1,e2,rfl,?_⟩;cases d <;> first | rfl | exact absurd rfl (h1 _) | exact absurd rfl (h2 _ _)
theorem run_isAgg {t:TypeId} {d:TypeDesc} (h:P.underlying t=some d) (w:World):(isAgg t).run P w=.ok (isAggD d) w:=by
 unfold isAgg;simp only [Sem.run_bind,run_underlying h,Result.andThen_ok];cases d <;> rfl
theorem run_sz {t:TypeId} {i:TypeInfo} (h:P.info? t=some i) (w:World):(sizeOf t).run P w=.ok i.size w:=by
 simp [sizeOf,typeInfo,h]
theorem load_sim (R:Rel μ A.heap.get w) {a a':Addr} (ha:AR μ a a') {t:TypeId} {v:Value} (h:A.load P t a=some v):∃ v',(loadVar t a').run P w=.ok v' w∧VR μ v v':=by
 unfold AW.load at h;cases hl:lay P t with
 |none=>rw [hl] at h;cases h
 |some x =>
  obtain ⟨b,n⟩:=x;obtain ⟨i,d,hi,hd,hn,hb⟩:=lay_spec hl;rw [hl] at h;unfold loadVar;simp only [Sem.run_bind,run_isAgg hd,Result.andThen_ok,← hb];cases b with
  |true =>
   simp only at h;cases hc:A.cells? a n with
   |none=>rw [hc] at h;cases h
   |some l =>
    rw [hc] at h;simp only [Option.map_some,Option.some.injEq] at h;subst h;obtain ⟨l',h1,h2,h3⟩:=cells_sim R ha hc;have hr:=run_loadCells_list (P:=P) w a' l' h3;rw [← h1.1,h2] at hr;exact ⟨.agg l'.toArray,by simp [run_sz hi,hn,hr],VR.agg' (by simpa using h1)⟩
  |false =>
   simp only at h;cases hc:A.cells? a 1 with
   |none=>rw [hc] at h;cases h
   |some l =>
    rw [hc] at h;obtain ⟨l',h1,h2,h3⟩:=cells_sim R ha hc
    match l,h2,h with
    |[x],_,h =>
     simp only [Option.some.injEq] at h;subst h;obtain ⟨v',e1,e2⟩:=h1.get (i:=0) (v:=x) rfl;have h4:=h3 0 v' e1;rw [Addr.add_zero'] at h4;exact ⟨v',by simp [h4],e2⟩
theorem write_sim (R:Rel μ A.heap.get w) {a a':Addr} (ha:AR μ a a') {l l':List Value} (hl:LR μ l l') {A':AW} (h:A.write a l=some A'):∃ w',(storeCells a' l').run P w=.ok () w'∧Post μ A w μ A' w':=by
 unfold AW.write at h;cases ha with
 |opq hs=>rw [hs] at h;simp at h
 |at_ hs hm =>
  rename_i m;rw [hs] at h;cases hr:A.row? a.block with
  |none=>rw [hr] at h;simp at h
  |some r =>
   rw [hr] at h;simp only at h;cases hb:(Nat.ble (a.off+l.length) r.size && !r.ro && l.all flatCell) with
   |false=>rw [hb] at h;cases h
   |true =>
    rw [hb] at h;simp only [cond_true,Option.some.injEq] at h;simp only [Bool.and_eq_true,Bool.not_eq_true'] at hb;obtain ⟨⟨hle,hro⟩,hfl⟩:=hb;have hle:a.off+l.length≤r.size:=Nat.le_of_ble_eq_true hle;obtain ⟨hroom,C,t,fz,hC,hfz,hsz,hcell⟩:=R.row a.block m r hm (row_of hr);have hfz:=hfz hro
    have hfl':l'.all flatCell=true:=by
     rw [List.all_eq_true] at hfl ⊢;intro v' hv';obtain ⟨i,hi⟩:=List.getElem?_of_mem hv';(have hlt:i < l.length:=by rw [hl.1];exact (List.getElem?_eq_some_iff.1 hi).1);rw [(hl.2 i _ v' (List.getElem?_eq_getElem hlt) hi).flat];exact hfl _ (List.getElem_mem hlt)
    obtain ⟨w',r',o'⟩:=run_storeL P m.blk t fz l' (m.base+a.off) 0 C w hC hfz (by rw [← hl.1];omega) hfl';refine ⟨w',r',?_⟩;subst h;refine post_turn R a.block m _ _ _ hm (row_of hr) (.inl ⟨r,row_of hr⟩) ⟨a.block,m,hm,rfl,.inl ⟨r,row_of hr,hro⟩⟩ o'.here ?_ o'.rest o'.size o'.out;refine ⟨hroom,fun _=>by rw [size_writeL];exact hfz,by rw [size_writeL];exact hsz,fun i v hi hv=>?_⟩;simp only [Nat.add_zero];rw [get_writeL l' C _ _ (by rw [← hl.1];omega),← hl.1];rw [get_mkCells] at hv;by_cases hx:a.off≤i∧i < a.off+l.length
    ·rw [if_pos hx] at hv;rw [if_pos (by omega),show m.base+i - (m.base+a.off)=i - a.off by omega];exact hl.get hv
    ·rw [if_neg hx] at hv;rw [if_neg (by omega)];exact hcell i v hi hv
theorem sz_spec {t:TypeId} {n:Nat} (h:sz P t=some n):∃ i,P.info? t=some i∧i.size=n:=by
 unfold sz at h;cases hi:P.info? t with
 |none=>rw [hi] at h;cases h
 |some i=>rw [hi] at h;simp at h;exact ⟨i,rfl,h⟩
theorem store_sim (R:Rel μ A.heap.get w) {a a':Addr} (ha:AR μ a a') {v v':Value} (hv:VR μ v v') {t:TypeId} {A':AW} (h:A.store P t a v=some A'):∃ w',(storeVar t a' v').run P w=.ok () w'∧Post μ A w μ A' w':=by
 unfold AW.store at h;cases hs:sz P t with
 |none=>rw [hs] at h;cases h
 |some n =>
  rw [hs] at h;obtain ⟨i,hi,hn⟩:=sz_spec hs;simp only at h;cases hb:Nat.beq v.cells.size n with
  |false=>rw [hb] at h;cases h
  |true =>
   rw [hb] at h;have hb:=Nat.eq_of_beq_eq_true hb;obtain ⟨w',h1,h2⟩:=write_sim (P:=P) R ha hv.cells h;refine ⟨w',?_,h2⟩;(have e:v'.cells.size=n:=by have:=hv.cells.1;simp at this;omega);unfold storeVar;simp [run_sz hi,hn,e,h1]
theorem flat_LR {l l':List Value} (hl:LR μ l l') (hfl:l.all flatCell=true):l'.all flatCell=true:=by
 rw [List.all_eq_true] at hfl ⊢;intro v' hv';obtain ⟨i,hi⟩:=List.getElem?_of_mem hv';have hlt:i < l.length:=by rw [hl.1];exact (List.getElem?_eq_some_iff.1 hi).1
 rw [(hl.2 i _ v' (List.getElem?_eq_getElem hlt) hi).flat];exact hfl _ (List.getElem_mem hlt)
theorem newRow_sim (R : Rel μ A.heap.get w) (hn : μ A.next = none) {l l' : List Value} (hl : LR μ l l') (t : TypeId) (more : List Value) (fz : Nat × Nat) (hfz : FzOk (l' ++ more).length fz) :
  Post μ A w (upd μ A.next ⟨w.heap.size,0,(l' ++ more).length⟩) (A.newRow l) (w.alloc (.cells (l' ++ more).toArray t fz)):=by
 refine post_new R hn _ _ _ rfl ⟨by simp [hl.1],fun _=>by simpa using hfz,by simp,fun i v hi hv=>?_⟩;rw [get_mkCells] at hv;simp only [Nat.zero_le,Nat.zero_add,true_and,Nat.sub_zero] at hv;rw [if_pos hi] at hv;obtain ⟨v',h1,h2⟩:=hl.get hv;exact ⟨v',by simp only [Nat.zero_add,List.getElem?_toArray];rw [List.getElem?_append_left (by rw [← hl.1];exact hi)];exact h1,h2⟩
end Go.Proofs.Ytpbhkdamkbopkaa.Rf
namespace Go.Proofs.Ytpbhkdamkbopkaa.Rf
open Go
variable {P:Program} {μ:Mu} {A:AW} {w:World}
theorem clean1_VR {v:Value} (h:clean1 v=true):VR μ v v:=by
 unfold clean1 at h
 split at h
 ·exact .bool _
 ·exact .int _ _
 ·exact .string _
 ·exact .ptr0
 ·exact .slice0
 ·exact .map0
 ·exact .nilFunc
 ·exact .nilIface
 ·cases h
theorem clean_VR {v:Value} (h:clean v=true):VR μ v v:=by
 unfold clean at h
 split at h
 ·rename_i cs;refine VR.agg' ⟨rfl,fun i v v' a b=>?_⟩;rw [a] at b;cases b;rw [List.all_eq_true] at h;exact clean1_VR (h _ (List.mem_of_getElem? a))
 ·exact clean1_VR h
theorem zeroOf_spec {t:TypeId} {z:Value} (h:zeroOf P t=some z):∃ i,P.info? t=some i∧i.zero=some z∧∀ μ,VR μ z z:=by
 unfold zeroOf at h;cases hi:P.info? t with
 |none=>rw [hi] at h;cases h
 |some i =>
  rw [hi] at h;simp only at h;cases hz:i.zero with
  |none=>rw [hz] at h;cases h
  |some z' =>
   rw [hz] at h;simp only at h;cases hc:clean z' with
   |false=>rw [hc] at h;cases h
   |true=>rw [hc] at h;cases h;exact ⟨i,rfl,hz,fun μ=>clean_VR hc⟩
theorem run_zero {t:TypeId} {i:TypeInfo} {z:Value} (h:P.info? t=some i) (hz:i.zero=some z) (w:World):(zeroValue t).run P w=.ok z w:=by
 simp [zeroValue,typeInfo,h,hz]
theorem LR.extract {xs ys:Array Value} (h:LR μ xs.toList ys.toList) (i j:Nat):LR μ (xs.extract i j).toList (ys.extract i j).toList:=by
 have hs:xs.size=ys.size:=by simpa using h.1
 refine ⟨by simp [hs],fun k v v' a b=>?_⟩;simp only [Array.getElem?_toList,Array.getElem?_extract] at a b
 split at a <;> try cases a
 split at b <;> try cases b
 exact h.2 (i+k) v v' (by simpa using a) (by simpa using b)
theorem part_sim {t:TypeId} {cs cs':Array Value} {off:Nat} {v:Value} (hl:LR μ cs.toList cs'.toList) (h:apart P t cs off=some v):∃ v',(part t cs' off).run P w=.ok v' w∧VR μ v v':=by
 unfold apart at h;cases he:lay P t with
 |none=>rw [he] at h;cases h
 |some x =>
  obtain ⟨b,n⟩:=x;obtain ⟨i,d,hi,hd,hn,hb⟩:=lay_spec he;rw [he] at h;unfold part;simp only [Sem.run_bind,run_isAgg hd,Result.andThen_ok,← hb];cases b with
  |true =>
   simp only [Option.some.injEq] at h;subst h;exact ⟨.agg (cs'.extract off (off+n)),by simp [run_sz hi,hn],VR.agg' (hl.extract _ _)⟩
  |false =>
   simp only at h;obtain ⟨v',h1,h2⟩:=hl.get (i:=off) (v:=v) (by simpa using h);exact ⟨v',by simp only [Bool.false_eq_true,if_false];rw [show cs'[off]?=some v' by simpa using h1];rfl,h2⟩
theorem ieq_spec (x y:Int):ieq x y=(x == y):=by
  cases x <;> cases y <;> simp only [ieq]
  · rename_i a b;cases h:Nat.beq a b with
    | true=>have:=Nat.eq_of_beq_eq_true h;subst this;simp
    | false => have : a ≠ b := fun e => by subst e; simp at h
               symm;simp;omega
  · rfl
  · rfl
  · rename_i a b;cases h:Nat.beq a b with
    | true=>have:=Nat.eq_of_beq_eq_true h;subst this;simp
    | false => have : a ≠ b := fun e => by subst e; simp at h
               symm;simp;omega
theorem ilt_spec (x y:Int):ilt x y=decide (x < y):=by
  cases x <;> cases y <;> simp only [ilt]
  · rename_i a b;cases h:Nat.blt a b with
    | true=>have:=Nat.le_of_ble_eq_true h;symm;simp;omega
    | false => have : ¬ a < b := fun e => by rw [show Nat.blt a b = true from Nat.ble_eq_true_of_le e] at h; cases h
               symm;simp;omega
  · symm;simp;omega
  · symm;simp;omega
  · rename_i a b;cases h:Nat.blt b a with
    | true=>have:=Nat.le_of_ble_eq_true h;symm;simp;omega
    | false => have : ¬ b < a := fun e => by rw [show Nat.blt b a = true from Nat.ble_eq_true_of_le e] at h; cases h
               symm;simp;omega
theorem wrap_small (k:IntKind) (n:Int) (h0:0≤n) (h1:n < 2 ^ k.bits) (h2:k.signed=true → n < 2 ^ (k.bits - 1)):k.wrap n=n:=by
 unfold IntKind.wrap;simp only [Int.emod_eq_of_lt h0 h1];rw [if_neg];simp only [Bool.and_eq_true,decide_eq_true_eq,not_and];intro hs;have:=h2 hs;omega
theorem wr_spec (k:IntKind) (n:Int):wr k n=k.wrap n:=by
 unfold wr
 split
 ·rename_i m;cases h:Nat.blt m (lim k) with
  |false=>rfl
  |true =>
   have hm:m < lim k:=Nat.le_of_ble_eq_true h;simp only [cond_true];refine (wrap_small k _ (Int.natCast_nonneg m) ?_ ?_).symm
   ·cases k <;> simp only [lim] at hm <;> simp only [IntKind.bits,Int.ofNat_eq_natCast] <;> omega
   ·cases k <;> simp only [lim] at hm <;> simp only [IntKind.bits,Int.ofNat_eq_natCast,IntKind.signed] <;> first | omega | (intro e;cases e)
 ·rfl
theorem keq_spec {k k':IntKind} (h:keq k k'=true):k=k':=by cases k <;> cases k' <;> first | rfl | cases h
end Go.Proofs.Ytpbhkdamkbopkaa.Rf
namespace Go.Proofs.Ytpbhkdamkbopkaa.Rs
open Go Go.RowKit Rf YtpbhkdamkbopkaaW.PrintWords
def val1:Value → SC → Bool
 |.int k n,.int k' m=>keq k k' && ieq n m
 |.bool a,.bool b=>a == b
 |.string a,.str b=>a.data.toList == b.data.toList
 |.pointer none,.nilp=>true
 |.slice none 0 0,.nils=>true
 |.map none,.raw (.map none)=>true
 |.nilFunc,.raw .nilFunc=>true
 |_,_=>false
def vals:List Value → List SC → Bool
 |[],[]=>true
 |v :: l,x :: m=>val1 v x && vals l m
 |_,_=>false
def fchk (P:Program):List Field → List (Nat × Nat × Bool) → Bool
 |[],[]=>true
 |f :: l,(o,n,a) :: m=>Nat.beq f.offset o && (match lay P f.type,sz P f.type with | some (a',n'),some n2=>(a == a') && Nat.beq n n' && Nat.beq n n2 | _,_=>false) && fchk P l m
 |_,_=>false
def echk (P:Program) (KT:TypeId → KD) (el:TypeId):Bool:=match P.info? el,sz P el with
 |some i,some n=>Nat.beq n (KT el).sz && Nat.beq i.size n && !(Nat.beq i.bytes 0) && zeroFits P el n && Nat.ble (2*(KT el).lim*i.bytes) 281474976710656 && Nat.ble (KT el).lim 281474976710656
 |_,_=>false
def tchk (P:Program) (KT:TypeId → KD) (T:TypeId → Option TE) (t:TypeId) (e:TE):Bool :=
 (match lay P t,sz P t with | some (a,n),some m=>(a == e.agg) && Nat.beq n e.size && Nat.beq m e.size | _,_=>false) &&
 (match zeroOf P t with | some z=>vals z.cells.toList e.zero | none=>false) &&
 match e.ti,P.underlying t with
 |.int k,some (.int k')=>keq k k'
 |.bool,some .bool=>true
 |.str,some .string=>true
 |.ptr,some (.pointer _)=>true
 |.fn,some (.func _ _ _)=>true
 |.mp a b,some (.map a' b')=>Nat.beq a a' && Nat.beq b b'
 |.slice el,some (.slice el')=>Nat.beq el el' && echk P KT el
 |.struct fs,some (.struct F)=>fchk P F.toList fs
 |.array n el,some (.array n' el')=>Nat.beq n n' && Nat.beq el el' && echk P KT el && (match T el,zeroOf P t with | some f,some z=>vals z.cells.toList (List.replicate n f.zero).flatten | _,_=>false)
 |_,_=>false
def TOK (P:Program) (KT:TypeId → KD) (T:TypeId → Option TE):Prop:=∀ t e,T t=some e → tchk P KT T t e=true
theorem val1_is {ν:Nu} {v:Value} {x:SC} (h:val1 v x=true):DC ν x v∧x.flat=true:=by
 unfold val1 at h
 split at h
 ·simp only [Bool.and_eq_true] at h;obtain rfl:=keq_spec h.1;have h2:=h.2;rw [ieq_spec] at h2;obtain rfl:=eq_of_beq h2;exact ⟨rfl,rfl⟩
 ·obtain rfl:=eq_of_beq h;exact ⟨rfl,rfl⟩
 ·rename_i a b;refine ⟨?_,rfl⟩;have h:=eq_of_beq h;obtain ⟨⟨a⟩⟩:=a;obtain ⟨⟨b⟩⟩:=b;have h:a=b:=h;subst h;rfl
 ·exact ⟨rfl,rfl⟩
 ·exact ⟨rfl,rfl⟩
 ·exact ⟨rfl,rfl⟩
 ·exact ⟨rfl,rfl⟩
 ·cases h
theorem vals_is {ν:Nu}:∀ {l:List Value} {m:List SC},vals l m=true → DL ν m l∧∀ x ∈ m,x.flat=true
 |[],[],_=>⟨trivial,fun x h=>by cases h⟩
 |[],_ :: _,h=>by cases h
 |_ :: _,[],h=>by cases h
 |v :: l,x :: m,h=>by
  unfold vals at h;simp only [Bool.and_eq_true] at h;obtain ⟨d1,f1⟩:=val1_is (ν:=ν) h.1;obtain ⟨d2,f2⟩:=vals_is (ν:=ν) h.2
  exact ⟨⟨d1,d2⟩,fun y hy=>by
   cases hy with
   |head=>exact f1
   |tail _ hy=>exact f2 y hy⟩
variable {P:Program} {KT:TypeId → KD} {T:TypeId → Option TE}
theorem TOK.lay (k:TOK P KT T) {t:TypeId} {e:TE} (h:T t=some e):lay P t=some (e.agg,e.size)∧sz P t=some e.size:=by
 have:=k t e h;unfold tchk at this;simp only [Bool.and_eq_true] at this;have:=this.1.1
 split at this
 ·rename_i a n m h1 h2;simp only [Bool.and_eq_true] at this;obtain ⟨⟨q1,q2⟩,q3⟩:=this;rw [h1,h2,eq_of_beq q1,Nat.eq_of_beq_eq_true q2,Nat.eq_of_beq_eq_true q3];exact ⟨rfl,rfl⟩
 ·cases this
theorem TOK.zero (k:TOK P KT T) {t:TypeId} {e:TE} (h:T t=some e):∃ z,zeroOf P t=some z∧(∀ ν,DL ν e.zero z.cells.toList)∧∀ x ∈ e.zero,x.flat=true:=by
 have:=k t e h;unfold tchk at this;simp only [Bool.and_eq_true] at this;have:=this.1.2
 split at this
 ·rename_i z h1;exact ⟨z,h1,fun ν=>(vals_is this).1,(vals_is (ν:=fun _=>none) this).2⟩
 ·cases this
theorem TOK.ti (k:TOK P KT T) {t:TypeId} {e:TE} (h:T t=some e):(match e.ti,P.underlying t with
 |.int k,some (.int k')=>keq k k'
 |.bool,some .bool=>true
 |.str,some .string=>true
 |.ptr,some (.pointer _)=>true
 |.fn,some (.func _ _ _)=>true
 |.mp a b,some (.map a' b')=>Nat.beq a a' && Nat.beq b b'
 |.slice el,some (.slice el')=>Nat.beq el el' && echk P KT el
 |.struct fs,some (.struct F)=>fchk P F.toList fs
 |.array n el,some (.array n' el')=>Nat.beq n n' && Nat.beq el el' && echk P KT el && (match T el,zeroOf P t with | some f,some z=>vals z.cells.toList (List.replicate n f.zero).flatten | _,_=>false)
 |_,_=>false)=true:=by
 have:=k t e h;unfold tchk at this;simp only [Bool.and_eq_true] at this;exact this.2
theorem TOK.int (k:TOK P KT T) {t:TypeId} {e:TE} (h:T t=some e) {q:IntKind} (he:e.ti=.int q):P.underlying t=some (.int q):=by
 have:=k.ti h;rw [he] at this
 split at this <;> first | (rename_i h1 h2;cases h1;rw [h2,keq_spec this];done) | (rename_i h1 h2;cases h1;done) | cases this
theorem TOK.str (k:TOK P KT T) {t:TypeId} {e:TE} (h:T t=some e) (he:e.ti=.str):P.underlying t=some .string:=by
 have:=k.ti h;rw [he] at this
 split at this <;> first | (rename_i h1 h2;cases h1;exact h2) | (rename_i h1 h2;cases h1;done) | cases this
structure Elem (P:Program) (KT:TypeId → KD) (el:TypeId):Prop where
 ex:∃ i,P.info? el=some i∧i.size=(KT el).sz∧i.bytes ≠ 0∧2*(KT el).lim*i.bytes≤281474976710656
 sz:Rf.sz P el=some (KT el).sz
 fits:zeroFits P el (KT el).sz=true
 lim:(KT el).lim≤281474976710656
theorem echk_is {el:TypeId} (h:echk P KT el=true):Elem P KT el:=by
 unfold echk at h
 split at h
 ·rename_i i n h1 h2;simp only [Bool.and_eq_true] at h;obtain ⟨⟨⟨⟨⟨q1,q2⟩,q3⟩,q4⟩,q5⟩,q6⟩:=h;have q1:=Nat.eq_of_beq_eq_true q1;have q2:=Nat.eq_of_beq_eq_true q2;subst q1;refine ⟨⟨i,h1,q2,fun e=>?_,Nat.le_of_ble_eq_true q5⟩,h2,q4,Nat.le_of_ble_eq_true q6⟩;rw [e] at q3;cases q3
 ·cases h
theorem TOK.slice (k:TOK P KT T) {t:TypeId} {e:TE} (h:T t=some e) {el:TypeId} (he:e.ti=.slice el):P.underlying t=some (.slice el)∧Elem P KT el:=by
  have:=k.ti h;rw [he] at this
  split at this <;> first
    | (rename_i h1 h2; cases h1
       simp only [Bool.and_eq_true] at this;rw [h2,Nat.eq_of_beq_eq_true this.1];exact ⟨rfl,(Nat.eq_of_beq_eq_true this.1) ▸ echk_is this.2⟩)
    | (rename_i h1 h2;cases h1;done) | cases this
theorem TOK.array (k:TOK P KT T) {t:TypeId} {e:TE} (h:T t=some e) {n:Nat} {el:TypeId} (he:e.ti=.array n el):P.underlying t=some (.array n el)∧Elem P KT el∧∀ f,T el=some f → ∃ z,zeroOf P t=some z∧(∀ ν,DL ν (List.replicate n f.zero).flatten z.cells.toList)∧∀ x ∈ (List.replicate n f.zero).flatten,x.flat=true:=by
  have:=k.ti h;rw [he] at this
  split at this <;> first
    | (rename_i h1 h2; cases h1
       simp only [Bool.and_eq_true] at this;obtain ⟨⟨⟨q1,q2⟩,q3⟩,q4⟩:=this;rw [h2,Nat.eq_of_beq_eq_true q1,Nat.eq_of_beq_eq_true q2];refine ⟨rfl,(Nat.eq_of_beq_eq_true q2) ▸ echk_is q3,fun f hf=>?_⟩;rw [← Nat.eq_of_beq_eq_true q2] at hf;rw [hf] at q4
       split at q4
       · rename_i f' z e1 e2;cases e1;rw [← Nat.eq_of_beq_eq_true q1];exact ⟨z,e2,fun ν=>(vals_is q4).1,(vals_is (ν:=fun _=>none) q4).2⟩
       · cases q4)
    | (rename_i h1 h2;cases h1;done) | cases this
theorem fchk_is : ∀ {l : List Field} {m : List (Nat × Nat × Bool)}, fchk P l m = true → ∀ i, match l[i]?, fsAt m i with
  |some f,some (o,n,a)=>f.offset=o∧Rf.lay P f.type=some (a,n)∧Rf.sz P f.type=some n
  |none,none=>True
  |_,_=>False
 |[],[],_,i=>by simp [fsAt]
 |[],_ :: _,h,_=>by cases h
 |_ :: _,[],h,_=>by cases h
 |f :: l,(o,n,a) :: m,h,i=>by
  unfold fchk at h;simp only [Bool.and_eq_true] at h;cases i with
  |zero =>
   simp only [List.getElem?_cons_zero,fsAt];have h2:=h.1.2
   split at h2
   ·rename_i a' n' n2 e1 e2;simp only [Bool.and_eq_true] at h2;obtain ⟨⟨q1,q2⟩,q3⟩:=h2;rw [e1,e2,eq_of_beq q1,← Nat.eq_of_beq_eq_true q2,← Nat.eq_of_beq_eq_true q3];exact ⟨Nat.eq_of_beq_eq_true h.1.1,rfl,rfl⟩
   ·cases h2
  |succ i =>
   simp only [List.getElem?_cons_succ,fsAt];exact fchk_is h.2 i
theorem TOK.struct (k:TOK P KT T) {t:TypeId} {e:TE} (h:T t=some e) {fs:List (Nat × Nat × Bool)} (he:e.ti=.struct fs):∃ F,P.underlying t=some (.struct F)∧fchk P F.toList fs=true:=by
 have:=k.ti h;rw [he] at this
 split at this <;> first | (rename_i h1 h2;cases h1;exact ⟨_,h2,this⟩) | (rename_i h1 h2;cases h1;done) | cases this
end Go.Proofs.Ytpbhkdamkbopkaa.Rs
namespace Go.Proofs.Ytpbhkdamkbopkaa.Rf
open Go
variable {P:Program} {μ:Mu} {A:AW} {w:World}
theorem asN_spec {v:Value} {n:Nat} (h:asN v=some n):∃ k,v=.int k (n:Int):=by
 unfold asN at h
 split at h
 ·rename_i k m;cases h;exact ⟨k,rfl⟩
 ·cases h
theorem VR.int_inv {k:IntKind} {n:Int} {v':Value} (h:VR μ (.int k n) v'):v'=.int k n:=by cases h;rfl
theorem VR.bool_inv {b:Bool} {v':Value} (h:VR μ (.bool b) v'):v'=.bool b:=by cases h;rfl
theorem VR.str_inv {s:ByteArray} {v':Value} (h:VR μ (.string s) v'):v'=.string s:=by cases h;rfl
theorem VR.ptr_inv {a:Addr} {v':Value} (h:VR μ (.pointer (some a)) v'):∃ a',v'=.pointer (some a')∧AR μ a a':=by
 cases h with
 |ptr h=>exact ⟨_,rfl,h⟩
theorem scalar_VR {v v':Value} (hs:scalar v=true) (h:VR μ v v'):v'=v:=by
 cases h <;> first | rfl | cases hs
theorem ibin_sim {op:BinOp} {k k':IntKind} {x y:Int} {v:Value} (t:TypeId) (h:ibin P op k k' x y=some v):(binOp op t (.int k x) (.int k' y)).run P w=.ok v w∧VR μ v v:=by
  have hb:∀ {o:BinOp} {r:Value},pureRun P (Op.intBits o k x y)=some r → (Op.intBits o k x y).run P w=.ok r w∧VR μ r r:=fun {o r} h=>by
    unfold pureRun at h;cases o <;> simp [Op.intBits,stuck,Sem.run] at h ⊢ <;> (subst h;exact ⟨rfl,.int _ _⟩)
  unfold ibin at h
  have hneg:∀ {b:Bool} {r:Value},(bif b then (none:Option Value) else some r)=some v → b=false∧r=v:=fun {b r} h=>by
    cases b <;> simp at h;exact ⟨rfl,h⟩
  cases op <;> simp only at h
  case shl =>
    obtain ⟨h1,rfl⟩:=hneg h;rw [ilt_spec] at h1;(have:¬ y < 0:=by simpa using h1);exact ⟨by simp [binOp,Op.shift,this],.int _ _⟩
  case shr =>
    obtain ⟨h1,rfl⟩:=hneg h;rw [ilt_spec] at h1;(have:¬ y < 0:=by simpa using h1);exact ⟨by simp [binOp,Op.shift,this],.int _ _⟩
  all_goals
    cases hk:keq k k' with
    | false=>rw [hk] at h;simp at h
    | true =>
      rw [hk] at h;have hk:=keq_spec hk;subst hk;simp only [Bool.not_true,cond_false] at h;first
      | (simp at h;done)
      | (simp only [Option.some.injEq] at h; subst h
         first
         | (refine ⟨?_,.int _ _⟩;rw [wr_spec];simp [binOp,Op.intArith];done)
         | (refine ⟨?_,.bool _⟩;rw [ieq_spec];simp only [binOp,Op.intCmp,ne_eq,not_true_eq_false,if_false];first | rfl | (simp only [bne];rfl))
         | (refine ⟨?_,.bool _⟩;rw [ilt_spec];simp only [binOp,Op.intCmp,ne_eq,not_true_eq_false,if_false];first | rfl | (simp only [Sem.run_pure];congr 2;simp only [← decide_not];congr 1;simp)))
      | (obtain ⟨h1, rfl⟩ := hneg h
         rw [ieq_spec] at h1;(have hy:y ≠ 0:=by simpa using h1);refine ⟨?_,.int _ _⟩;(first | rw [wr_spec] | skip);simp [binOp,Op.intDiv,hy])
      | (have:=hb h;simpa [binOp] using this)
theorem aeq_sim:∀ (d:Nat) (D:Nat) (t:TypeId) (x y x' y':Value) (b:Bool),d≤D → VR μ x x' → VR μ y y' → aeq P d t x y=some b → (Op.equalIn D t x' y').run P w=.ok b w:=by
 intro d
 induction d with
 |zero=>intro D t x y x' y' b _ _ _ h;simp [aeq] at h
 |succ d ih =>
  intro D t x y x' y' b hD hx hy h;obtain ⟨D,rfl⟩:∃ E,D=E+1:=⟨D - 1,by omega⟩;unfold aeq at h
  split at h
  ·rename_i hu;cases hx;cases hy;simp at h;simp [Op.equalIn,run_underlying hu,h]
  ·rename_i k i a i' a' hu;cases hx;cases hy
   split at h
   ·rename_i hk;subst hk;simp at h;simp [Op.equalIn,run_underlying hu,h]
   ·cases h
  ·rename_i a a' hu;cases hx;cases hy;simp only [Option.some.injEq] at h;subst h;rw [run_equalIn_string w D t a a' hu,ByteArray.toList_eq,ByteArray.toList_eq]
  ·rename_i e a hu;cases hx;cases hy <;> (simp only [Option.some.injEq] at h;subst h;simp [Op.equalIn,run_underlying hu])
  ·rename_i e a hu;cases hx;cases hy;simp only [Option.some.injEq] at h;subst h;simp [Op.equalIn,run_underlying hu]
  ·rename_i e l c a l' c' hu;cases hx;cases hy <;> (simp only [Option.some.injEq] at h;subst h;simp [Op.equalIn,run_underlying hu])
  ·rename_i e a l c l' c' hu;cases hy;cases hx <;> (simp only [Option.some.injEq] at h;subst h;simp [Op.equalIn,run_underlying hu])
  ·rename_i p r v hu;cases hx;cases hy;simp only [Option.some.injEq] at h;subst h;simp [Op.equalIn,run_underlying hu]
  ·rename_i p r v f a c hu;cases hx;cases hy;simp only [Option.some.injEq] at h;subst h;simp [Op.equalIn,run_underlying hu]
  ·rename_i p r v f a c hu;cases hx;cases hy;simp only [Option.some.injEq] at h;subst h;simp [Op.equalIn,run_underlying hu]
  ·rename_i fs xs ys hu;obtain ⟨xs',rfl,hxl⟩:=hx.agg_inv;obtain ⟨ys',rfl,hyl⟩:=hy.agg_inv;cases hst : (P.stoodInHeld t || !(fs.toList.all fun f => f.name != "_")) with
   |true=>rw [hst] at h;cases h
   |false =>
    rw [hst] at h;simp only [cond_false] at h;simp only [Bool.or_eq_false_iff,Bool.not_eq_false'] at hst;(have hf:P.fieldsOf t=fs:=by simp [Program.fieldsOf,hu]);rw [run_equalIn_struct (P:=P) w D t xs' ys' (by rw [hf];exact hu) hst.1,hf]
    have key : ∀ (l : List Field) (b : Bool), (l.all fun f => f.name != "_") = true → aeqL P (aeq P d) xs ys (l.map fun f => (f.type, f.offset)) = some b → (Op.eqFields D xs' ys' l).run P w = .ok b w := by
     intro l
     induction l with
     |nil=>intro b _ h;simp [aeqL] at h;subst h;simp [Op.eqFields]
     |cons f l ihl =>
      intro b hall h;simp only [List.all_cons,Bool.and_eq_true] at hall;(have hn' : f.name ≠ "_" := by simpa using hall.1);simp only [List.map_cons,aeqL] at h;cases e1:apart P f.type xs f.offset with
      |none=>rw [e1] at h;simp at h
      |some a =>
       cases e2:apart P f.type ys f.offset with
       |none=>rw [e1,e2] at h;simp at h
       |some c =>
        rw [e1,e2] at h;simp only at h;obtain ⟨a',p1,q1⟩:=part_sim (w:=w) hxl e1;obtain ⟨c',p2,q2⟩:=part_sim (w:=w) hyl e2;cases e3:aeq P d f.type a c with
        |none=>rw [e3] at h;simp at h
        |some r =>
         have p3:=ih D f.type a c a' c' r (by omega) q1 q2 e3;rw [e3] at h;rw [Op.eqFields];simp only [if_pos hn',Sem.run_bind,p1,p2,p3,Result.andThen_ok];cases r with
         |true=>simp only at h;simpa using ihl b hall.2 h
         |false=>simp only [Option.some.injEq] at h;subst h;simp
    exact key fs.toList b hst.2 h
  ·rename_i len e xs ys hu;obtain ⟨xs',rfl,hxl⟩:=hx.agg_inv;obtain ⟨ys',rfl,hyl⟩:=hy.agg_inv;cases hs:sz P e with
   |none=>rw [hs] at h;cases h
   |some n =>
    rw [hs] at h;simp only at h;obtain ⟨i,hi,hn⟩:=sz_spec hs;(have hc:P.cellsOf e=n:=by simp [Program.cellsOf,hi,hn]);rw [run_equalIn_array w D xs' ys' hu hi,hc]
    have key:∀ (l:List Nat) (b:Bool),aeqL P (aeq P d) xs ys (l.map fun i=>(e,i*n))=some b → (Op.eqItems D e n xs' ys' l).run P w=.ok b w:=by
     intro l
     induction l with
     |nil=>intro b h;simp [aeqL] at h;subst h;simp [Op.eqItems]
     |cons f l ihl =>
      intro b h;simp only [List.map_cons,aeqL] at h;cases e1:apart P e xs (f*n) with
      |none=>rw [e1] at h;simp at h
      |some a =>
       cases e2:apart P e ys (f*n) with
       |none=>rw [e1,e2] at h;simp at h
       |some c =>
        rw [e1,e2] at h;simp only at h;obtain ⟨a',p1,q1⟩:=part_sim (w:=w) hxl e1;obtain ⟨c',p2,q2⟩:=part_sim (w:=w) hyl e2;cases e3:aeq P d e a c with
        |none=>rw [e3] at h;simp at h
        |some r =>
         have p3:=ih D e a c a' c' r (by omega) q1 q2 e3;rw [e3] at h;rw [Op.eqItems];simp only [Sem.run_bind,p1,p2,p3,Result.andThen_ok];cases r with
         |true=>simp only at h;simpa using ihl b h
         |false=>simp only [Option.some.injEq] at h;subst h;simp
    exact key (List.range len) b h
  ·cases h
end Go.Proofs.Ytpbhkdamkbopkaa.Rf
namespace Go.Proofs.Ytpbhkdamkbopkaa.Rs
open Go Go.RowKit Rf YtpbhkdamkbopkaaW.PrintWords
variable {P:Program} {KT:TypeId → KD} {T:TypeId → Option TE} {Γ:Gh} {ν:Nu} {h h':List (SR KT)} {A:AW} {ρe:Operand → Value} {o:Op} {v:SV} {k:Nat × Nat} {cs:List Prop}
theorem con1_is (ν:Nu) (v:Value):DC ν (con1 v) v:=by
 unfold con1
 split <;> rfl
theorem con_is (ν:Nu) (v:Value):DV ν (con v) v:=by
 unfold con
 split
 ·rename_i cs;refine ⟨cs,rfl,?_⟩;generalize cs.toList=l
  induction l with
  |nil=>trivial
  |cons x l ih=>exact ⟨con1_is ν x,ih⟩
 ·exact con1_is ν _
theorem sev_ok {ρ:Nat → SV} {tm:Tr Value} (sl:SL ν ρ tm) (x:Operand):DV ν (sev ρ x) (ev tm x):=by
 cases x with
 |tmp t=>exact sl t
 |const v=>exact con_is ν v
 |global g=>rfl
 |func f=>exact ⟨#[],#[],rfl,trivial,trivial⟩
def OpOk (P:Program) (Γ:Gh) (ν:Nu) (h:List (SR KT)) (A:AW) (ρe:Operand → Value) (o:Op) (v:SV) (h':List (SR KT)) (k:Nat × Nat):Prop :=
 ∃ r u A' ν',(∀ x:Oper,x.op=o → aop P ρe x A=some r)∧(r=.val u A' ∨ (r=.skip A'∧u=undef))∧DV ν' v u∧SI Γ ν' h' A'∧Rs.Ext ν ν'∧HX h h'∧(A.ts=0 → KR ν' h' k (kindOf ρe o A A'))
theorem OpOk.pure {u:Value} (s:SI Γ ν h A) (e:∀ x:Oper,x.op=o → aop P ρe x A=some (.val u A)) (d:DV ν v u) (hp:pureOp o=true):OpOk P Γ ν h A ρe o v h (0,0) :=
 ⟨_,u,A,ν,e,.inl rfl,d,s,Rs.Ext.refl ν,HX.refl h,fun _=>by unfold kindOf;rw [hp];rfl⟩
theorem fsv_is.{v} {β:Type v} (x:SV) (k:SV → β):fsv x k=k x:=by
 cases x with
 |v x=>cases x <;> rfl
 |_=>rfl
theorem sout_inv {v v':SV} {k:Nat × Nat} {cs:List Prop} (e:sout v h=some (v',h',k,cs)):v'=v∧h'=h∧k=(0,0)∧cs=[]:=by
 unfold sout at e;simp only [Option.some.injEq,Prod.mk.injEq] at e;obtain ⟨rfl,rfl,rfl,rfl⟩:=e;exact ⟨rfl,rfl,rfl,rfl⟩
theorem move_ok {x:SV} {y:Operand} (s:SI Γ ν h A) (d:DV ν x (ρe y)) (ho:o=.move y ∨ o=.assign y) (e:(fsv x fun v=>sout v h)=some (v,h',k,cs)):OpOk P Γ ν h A ρe o v h' k:=by
 rw [fsv_is] at e;obtain ⟨rfl,rfl,rfl,rfl⟩:=sout_inv e
 rcases ho with rfl | rfl <;> exact OpOk.pure s (fun x hx=>by unfold aop;rw [hx]) d rfl
theorem pick_ok {c a b : Operand} {ρ : Nat → SV} (s : SI Γ ν h A) (d : ∀ x, DV ν (sev ρ x) (ρe x)) (e : (match sev ρ c with
  |.v (.c (.bool true))=>fsv (sev ρ a) fun v=>sout v h
  |.v (.c (.bool false))=>fsv (sev ρ b) fun v=>sout v h
  |_=>none)=some (v,h',k,cs)):OpOk P Γ ν h A ρe (.pick c a b) v h' k:=by
 split at e
 ·rename_i hc;rw [fsv_is] at e;obtain ⟨rfl,rfl,rfl,rfl⟩:=sout_inv e;have q:ρe c=.bool true:=by have:=d c;rw [hc] at this;exact this
  exact OpOk.pure s (fun x hx=>by unfold aop;rw [hx];simp only [q];rfl) (d a) rfl
 ·rename_i hc;rw [fsv_is] at e;obtain ⟨rfl,rfl,rfl,rfl⟩:=sout_inv e;have q:ρe c=.bool false:=by have:=d c;rw [hc] at this;exact this
  exact OpOk.pure s (fun x hx=>by unfold aop;rw [hx];simp only [q];rfl) (d b) rfl
 ·cases e
theorem nil_ok {x : Operand} {ρ : Nat → SV} (s : SI Γ ν h A) (d : ∀ x, DV ν (sev ρ x) (ρe x)) (e : (match sev ρ x with
  |.v (.c (.ptr b i sz j))=>one (.ptr b i sz j) h
  |_=>none)=some (v,h',k,cs)):OpOk P Γ ν h A ρe (.nilCheck x) v h' k:=by
 split at e
 ·rename_i b i sz j hc;obtain ⟨rfl,rfl,rfl,rfl⟩:=sout_inv e;have q:DC ν (.ptr b i sz j) (ρe x):=by have:=d x;rw [hc] at this;exact this
  have q':=q;obtain ⟨blk,base,cap,q1,q2⟩:=q;exact OpOk.pure s (u:=.pointer (some ⟨blk,base+(i.toNat*sz+j),none⟩)) (fun x hx=>by unfold aop;rw [hx];simp only [q2]) (by rw [← q2];exact q') rfl
 ·cases e
theorem wrap_i64 (n:Int):IntKind.i64.wrap n=wrap64 n:=by unfold wrap64;exact IntKind.wrap_i64 n
theorem wrap_u8 (n:Int):IntKind.u8.wrap n=n % 256:=by simp [IntKind.wrap,IntKind.bits,IntKind.signed]
theorem wrap_u16 (n:Int):IntKind.u16.wrap n=n % 65536:=by simp [IntKind.wrap,IntKind.bits,IntKind.signed]
theorem wrap_u32 (n:Int):IntKind.u32.wrap n=n % 4294967296:=by simp [IntKind.wrap,IntKind.bits,IntKind.signed]
theorem sint_inv {q:IntKind} {n:Int} (e:sint q n h=some (v,h',k,cs)):v=c1 (.int q (q.wrap n))∧h'=h∧k=(0,0)∧cs=[]:=by
 unfold sint at e
 split at e
 ·obtain ⟨rfl,rfl,rfl,rfl⟩:=sout_inv e;refine ⟨?_,rfl,rfl,rfl⟩;rw [wrap_i64]
 ·obtain ⟨rfl,rfl,rfl,rfl⟩:=sout_inv e;refine ⟨?_,rfl,rfl,rfl⟩;rw [wrap_u8]
 ·obtain ⟨rfl,rfl,rfl,rfl⟩:=sout_inv e;refine ⟨?_,rfl,rfl,rfl⟩;rw [wrap_u16]
 ·obtain ⟨rfl,rfl,rfl,rfl⟩:=sout_inv e;refine ⟨?_,rfl,rfl,rfl⟩;rw [wrap_u32]
 ·obtain ⟨rfl,rfl,rfl,rfl⟩:=sout_inv e;exact ⟨rfl,rfl,rfl,rfl⟩
theorem binI_ok {op:BinOp} {q q':IntKind} {a b:Int} (e:sbinI op q q' a b h=some (v,h',k,cs)) (hc:AllP cs):∃ u,ibin P op q q' a b=some u∧DV ν v u∧h'=h∧k=(0,0):=by
 unfold sbinI at e
 split at e
 ·split at e
  ·simp only [Option.some.injEq,Prod.mk.injEq] at e;obtain ⟨rfl,rfl,rfl,rfl⟩:=e;have hc:0≤b:=hc;refine ⟨.int .i64 (IntKind.i64.wrap (a*2 ^ (min b.toNat 64))),?_,by rw [wrap_i64];rfl,rfl,rfl⟩;unfold ibin;rw [ilt_spec,decide_eq_false (by omega)];rfl
  ·simp only [Option.some.injEq,Prod.mk.injEq] at e;obtain ⟨rfl,rfl,rfl,rfl⟩:=e;have hc:0≤b:=hc;refine ⟨_,?_,rfl,rfl,rfl⟩;unfold ibin;rw [ilt_spec,decide_eq_false (by omega)];rfl
 ·simp only [Option.some.injEq,Prod.mk.injEq] at e;obtain ⟨rfl,rfl,rfl,rfl⟩:=e;have hc:0≤b:=hc;refine ⟨_,?_,rfl,rfl,rfl⟩;unfold ibin;rw [ilt_spec,decide_eq_false (by omega),← Int.fdiv_eq_ediv_of_nonneg a (Int.le_of_lt (Int.pow_pos (by decide)))];rfl
 ·cases hk:keq q q' with
  |false =>
   rw [hk] at e
   split at e <;> first | (cases e;done) | (simp_all;done)
  |true =>
   rw [hk] at e;(have hz:∀ b:Int,b ≠ 0 → ieq b 0=false:=fun b hb=>by rw [ieq_spec];exact beq_eq_false_iff_ne.2 hb)
   split at e
   ·obtain ⟨rfl,rfl,rfl,rfl⟩:=sint_inv e;exact ⟨.int q (wr q (a+b)),by unfold ibin;simp only [hk,Bool.not_true,cond_false],by rw [wr_spec];rfl,rfl,rfl⟩
   ·obtain ⟨rfl,rfl,rfl,rfl⟩:=sint_inv e;exact ⟨.int q (wr q (a - b)),by unfold ibin;simp only [hk,Bool.not_true,cond_false],by rw [wr_spec];rfl,rfl,rfl⟩
   ·obtain ⟨rfl,rfl,rfl,rfl⟩:=sint_inv e;exact ⟨.int q (wr q (a*b)),by unfold ibin;simp only [hk,Bool.not_true,cond_false],by rw [wr_spec];rfl,rfl,rfl⟩
   ·split at e
    ·simp only [Option.some.injEq,Prod.mk.injEq] at e;obtain ⟨rfl,rfl,rfl,rfl⟩:=e;have hb:b ≠ 0:=hc;exact ⟨.int .i64 (wr .i64 (Int.tdiv a b)),by unfold ibin;simp only [hk,Bool.not_true,cond_false,hz b hb],by rw [wr_spec,wrap_i64];rfl,rfl,rfl⟩
    ·simp only [Option.some.injEq,Prod.mk.injEq] at e;obtain ⟨rfl,rfl,rfl,rfl⟩:=e;obtain ⟨h0,h1,h2⟩:0≤a∧0 < b∧a < 4294967296:=hc;(have hb:b ≠ 0:=by omega);refine ⟨.int .u32 (wr .u32 (Int.tdiv a b)),by unfold ibin;simp only [hk,Bool.not_true,cond_false,hz b hb],?_,rfl,rfl⟩;rw [wr_spec,wrap_u32,Int.tdiv_eq_ediv_of_nonneg h0,Int.emod_eq_of_lt (Int.ediv_nonneg h0 (Int.le_of_lt h1)) (Int.lt_of_le_of_lt (Int.ediv_le_self b h0) h2)];rfl
    ·simp only [Option.some.injEq,Prod.mk.injEq] at e;obtain ⟨rfl,rfl,rfl,rfl⟩:=e;have hb:b ≠ 0:=hc;exact ⟨.int q (wr q (Int.tdiv a b)),by unfold ibin;simp only [hk,Bool.not_true,cond_false,hz b hb],by rw [wr_spec];rfl,rfl,rfl⟩
   ·split at e
    ·simp only [Option.some.injEq,Prod.mk.injEq] at e;obtain ⟨rfl,rfl,rfl,rfl⟩:=e;obtain ⟨h0,h1⟩:0≤a∧0 < b:=hc;(have hb:b ≠ 0:=by omega);refine ⟨.int .u32 (Int.tmod a b),by unfold ibin;simp only [hk,Bool.not_true,cond_false,hz b hb],?_,rfl,rfl⟩;rw [Int.tmod_eq_emod_of_nonneg h0];rfl
    ·simp only [Option.some.injEq,Prod.mk.injEq] at e;obtain ⟨rfl,rfl,rfl,rfl⟩:=e;have hb:b ≠ 0:=hc;exact ⟨.int q (Int.tmod a b),by unfold ibin;simp only [hk,Bool.not_true,cond_false,hz b hb],rfl,rfl,rfl⟩
   ·obtain ⟨rfl,rfl,rfl,rfl⟩:=sout_inv e;exact ⟨.bool (ieq a b),by unfold ibin;simp only [hk,Bool.not_true,cond_false],by rw [ieq_spec];rfl,rfl,rfl⟩
   ·obtain ⟨rfl,rfl,rfl,rfl⟩:=sout_inv e;exact ⟨.bool (!ieq a b),by unfold ibin;simp only [hk,Bool.not_true,cond_false],by rw [ieq_spec];rfl,rfl,rfl⟩
   ·obtain ⟨rfl,rfl,rfl,rfl⟩:=sout_inv e;exact ⟨.bool (ilt a b),by unfold ibin;simp only [hk,Bool.not_true,cond_false],by rw [ilt_spec];rfl,rfl,rfl⟩
   ·obtain ⟨rfl,rfl,rfl,rfl⟩:=sout_inv e;refine ⟨.bool (!ilt b a),by unfold ibin;simp only [hk,Bool.not_true,cond_false],?_,rfl,rfl⟩;rw [ilt_spec];show Value.bool _=Value.bool _
    congr 1
    by_cases hab:a≤b
    ·rw [decide_eq_true hab,decide_eq_false (by omega)];rfl
    ·rw [decide_eq_false hab,decide_eq_true (by omega)];rfl
   ·obtain ⟨rfl,rfl,rfl,rfl⟩:=sout_inv e;exact ⟨.bool (ilt b a),by unfold ibin;simp only [hk,Bool.not_true,cond_false],by rw [ilt_spec];rfl,rfl,rfl⟩
   ·obtain ⟨rfl,rfl,rfl,rfl⟩:=sout_inv e;refine ⟨.bool (!ilt a b),by unfold ibin;simp only [hk,Bool.not_true,cond_false],?_,rfl,rfl⟩;rw [ilt_spec];show Value.bool _=Value.bool _
    congr 1
    by_cases hab:a ≥ b
    ·rw [decide_eq_true hab,decide_eq_false (by omega)];rfl
    ·rw [decide_eq_false hab,decide_eq_true (by omega)];rfl
   ·obtain ⟨rfl,rfl,rfl,rfl⟩:=sout_inv e;exact ⟨.int q (Go.bits .and q a b),by unfold ibin;simp only [hk,Bool.not_true,cond_false];rfl,rfl,rfl,rfl⟩
   ·obtain ⟨rfl,rfl,rfl,rfl⟩:=sout_inv e;exact ⟨.int q (Go.bits .or q a b),by unfold ibin;simp only [hk,Bool.not_true,cond_false];rfl,rfl,rfl,rfl⟩
   ·obtain ⟨rfl,rfl,rfl,rfl⟩:=sout_inv e;exact ⟨.int q (Go.bits .xor q a b),by unfold ibin;simp only [hk,Bool.not_true,cond_false];rfl,rfl,rfl,rfl⟩
   ·cases e
theorem bin_ok {op:BinOp} {t t':TypeId} {x y:Operand} {ρ:Nat → SV} (s:SI Γ ν h A) (d:∀ x,DV ν (sev ρ x) (ρe x)) (e:sbin op (sev ρ x) (sev ρ y) h=some (v,h',k,cs)) (hc:AllP cs):OpOk P Γ ν h A ρe (.binOp op t x y t') v h' k:=by
 unfold sbin at e
 split at e
 ·rename_i q a q' b hx hy;have ex:ρe x=.int q a:=by have:=d x;rw [hx] at this;exact this
  have ey:ρe y=.int q' b:=by have:=d y;rw [hy] at this;exact this
  obtain ⟨u,e1,e2,rfl,rfl⟩:=binI_ok (P:=P) (ν:=ν) e hc;refine OpOk.pure s (fun z hz=>?_) e2 rfl;unfold aop;rw [hz];simp only [ex,ey]
  have:abin P op t (.int q a) (.int q' b)=some u:=by
   cases op <;> exact e1
  rw [this];rfl
 ·rename_i a b hx hy;have ex:ρe x=.string a:=by have:=d x;rw [hx] at this;exact this
  have ey:ρe y=.string b:=by have:=d y;rw [hy] at this;exact this
  split at e
  ·simp only [Option.some.injEq,Prod.mk.injEq] at e;obtain ⟨rfl,rfl,rfl,rfl⟩:=e;have hc:a.size+b.size≤140737488351232:=hc;refine OpOk.pure s (fun z hz=>?_) (show DV ν (c1 (.str (a ++ b))) (.string (a ++ b)) from rfl) rfl;unfold aop;rw [hz];simp only [ex,ey]
   have:abin P .add t (.string a) (.string b)=some (.string (a ++ b)):=by
    unfold abin;simp only [Nat.ble_eq_true_of_le hc,cond_true]
   rw [this];rfl
  ·cases e
 ·cases e
theorem un_ok {op:UnOp} {t:TypeId} {x:Operand} {ρ:Nat → SV} (s:SI Γ ν h A) (d:∀ x,DV ν (sev ρ x) (ρe x)) (e:sun op (sev ρ x) h=some (v,h',k,cs)):OpOk P Γ ν h A ρe (.unOp op t x) v h' k:=by
 unfold sun at e
 split at e
 ·rename_i b hx;have ex:ρe x=.bool b:=by have:=d x;rw [hx] at this;exact this
  obtain ⟨rfl,rfl,rfl,rfl⟩:=sout_inv e;refine OpOk.pure s (fun z hz=>?_) (show DV ν (c1 (.bool (!b))) (.bool (!b)) from rfl) rfl;unfold aop;rw [hz];simp only [ex];rfl
 ·cases e
theorem sext_is:∀ (l:List SV1) (i:Nat),sext l i=l[i]?
 |[],_=>by simp [sext]
 |_ :: _,0=>by simp [sext]
 |_ :: l,i+1=>by simp [sext,sext_is l i]
theorem D1L.get:∀ {l:List SV1} {m:List Value},D1L ν l m → ∀ {j:Nat} {x:SV1},l[j]?=some x → ∃ v,m[j]?=some v∧D1 ν x v
 |[],[],_,_,_,h=>by simp at h
 |[],_ :: _,h,_,_,_=>h.elim
 |_ :: _,[],h,_,_,_=>h.elim
 |_ :: _,w :: _,h,0,_,e=>by simp at e;subst e;exact ⟨w,rfl,h.1⟩
 |_ :: _,_ :: _,h,j+1,_,e=>by simpa using h.2.get (j:=j) (by simpa using e)
theorem extract_ok {x : Operand} {i : Nat} {ρ : Nat → SV} (s : SI Γ ν h A) (d : ∀ x, DV ν (sev ρ x) (ρe x)) (e : (match sev ρ x with
  |.t l=>match sext l i with
   |some y=>sout (.v y) h
   |none=>none
  |_=>none)=some (v,h',k,cs)):OpOk P Γ ν h A ρe (.extract x i) v h' k:=by
 split at e
 ·rename_i l hx
  split at e
  ·rename_i y hy;obtain ⟨rfl,rfl,rfl,rfl⟩:=sout_inv e;have dx:=d x;rw [hx] at dx;obtain ⟨vs,h1,h2⟩:=dx;rw [sext_is] at hy;obtain ⟨u,h3,h4⟩:=h2.get hy;refine OpOk.pure s (fun z hz=>?_) (show DV ν (.v y) u from h4) rfl;unfold aop;rw [hz];simp only [h1];rw [show vs[i]?=some u by simpa using h3];rfl
  ·cases e
 ·cases e
theorem svs1_ok {ρ:Nat → SV} (d:∀ x,DV ν (sev ρ x) (ρe x)):∀ (l:List Operand) (m:List SV1),svs1 ρ l=some m → D1L ν m (l.map ρe)
 |[],m,e=>by unfold svs1 at e;cases e;trivial
 |x :: l,m,e=>by
  unfold svs1 at e
  split at e
  ·rename_i y m' hx hm;cases e;refine ⟨?_,svs1_ok d l m' hm⟩;have:=d x;rw [hx] at this;exact this
  ·cases e
theorem func_ok {g : FuncId} {a b : Array Operand} {ρ : Nat → SV} (s : SI Γ ν h A) (d : ∀ x, DV ν (sev ρ x) (ρe x)) (e : (match svs1 ρ a.toList, svs1 ρ b.toList with
  |some x,some y=>sout (.f g x y) h
  |_,_=>none)=some (v,h',k,cs)):OpOk P Γ ν h A ρe (.makeFunc (.func g) a b) v h' k:=by
 split at e
 ·rename_i x y h1 h2;obtain ⟨rfl,rfl,rfl,rfl⟩:=sout_inv e;refine OpOk.pure s (fun z hz=>by unfold aop;rw [hz]) ⟨_,_,rfl,?_,?_⟩ rfl
  ·rw [Array.toList_map];exact svs1_ok d _ _ h1
  ·rw [Array.toList_map];exact svs1_ok d _ _ h2
 ·cases e
theorem index_ok (tk:TOK P KT T) {t:TypeId} {x i:Operand} {ρ:Nat → SV} (s:SI Γ ν h A) (d:∀ x,DV ν (sev ρ x) (ρe x)) (e:sindex T t (sev ρ x) (sev ρ i) h=some (v,h',k,cs)) (hc:AllP cs):OpOk P Γ ν h A ρe (.index t x i) v h' k:=by
 unfold sindex at e
 split at e
 ·rename_i b q n hT hx hi;have hu:=tk.str hT rfl;simp only [Option.some.injEq,Prod.mk.injEq] at e;obtain ⟨rfl,rfl,rfl,rfl⟩:=e;obtain ⟨h0,h1⟩:0≤n∧n < (b.size:Int):=hc;have ex:ρe x=.string b:=by have:=d x;rw [hx] at this;exact this
  have ei:ρe i=.int q n:=by have:=d i;rw [hi] at this;exact this
  obtain ⟨m,rfl⟩:∃ m:Nat,n=m:=⟨n.toNat,by omega⟩;have hm:m < b.size:=by omega
  refine OpOk.pure s (u:=.int .u8 (bt b m)) (fun z hz=>?_) rfl rfl;unfold aop;rw [hz];simp only [ex,ei];unfold aindex;simp only [hu];have e1:asN (.int q (m:Int))=some m:=rfl;rw [e1];simp only
  have e2:b.data.toList[m]?=some b[m]:=by
   rw [Array.getElem?_toList];exact Array.getElem?_eq_getElem hm
  rw [e2]
  have e3:bt b m=(b[m].toNat:Int):=by
   unfold bt;rw [dif_pos (by simpa using hm)];rfl
  rw [e3];rfl
 ·rename_i nn el sz1 z1 l q n hT hx hi
  split at e
  ·rename_i kk z2 hel;rw [cints_is,if_pos (Nat.zero_le _),List.drop_zero] at e;simp only [hlen_is,Nat.zero_add] at e;cases hm:Nat.beq (dynI l).length nn with
   |false=>rw [hm] at e;cases e
   |true =>
    rw [hm,cond_true] at e;have hm:=Nat.eq_of_beq_eq_true hm;simp only [Option.some.injEq,Prod.mk.injEq] at e;obtain ⟨rfl,rfl,rfl,rfl⟩:=e;obtain ⟨h0,h1⟩:0≤n∧n < (nn:Int):=hc;obtain ⟨hu,hE,_⟩:=tk.array hT rfl;have hl:=tk.lay hel;(obtain ⟨c,ec,dc⟩:∃ c:Array Value,ρe x=.agg c∧DL ν l c.toList:=by have:=d x;rw [hx] at this;exact this);(have ei:ρe i=.int q n:=by have:=d i;rw [hi] at this;exact this);obtain ⟨m,rfl⟩:∃ m:Nat,n=m:=⟨n.toNat,by omega⟩;(have hlt:m < (dynI l).length:=by omega);obtain ⟨w,w1,w2⟩:=dc.get (dynI_get l m _ (List.getElem?_eq_getElem hlt))
    have er:rd (dynI l) (m:Int)=(dynI l)[m]:=by
     rw [show rd (dynI l) (m:Int)=(dynI l).getD m 0 from rfl,List.getD_eq_getElem?_getD,List.getElem?_eq_getElem hlt];rfl
    refine OpOk.pure s (u:=w) (fun z hz=>?_) (by rw [er];exact w2) rfl;unfold aop;rw [hz];simp only [ec,ei];unfold aindex;have e1:asN (.int q (m:Int))=some m:=rfl;simp only [hu,e1,hl.2];rw [show Nat.blt m nn=true from Nat.ble_eq_true_of_le (by omega),cond_true];unfold apart;rw [hl.1];show (c[m*1]?).map _=_;rw [Nat.mul_one,← Array.getElem?_toList,w1];rfl
  ·cases e
 ·cases e
theorem str_slice {t:TypeId} {b:ByteArray} {lo hi:Option Operand} (hu:P.underlying t=some .string) {l u:Nat} (e1:optN 0 ρe lo=some l) (e2:optN b.size ρe hi=some u) (h1:l≤u) (h2:u≤b.size):aslice P t (.string b) ρe lo hi none=some (.string (b.extract l u)):=by
 unfold aslice;simp only [hu,e1,e2,Nat.ble_eq_true_of_le h1,Nat.ble_eq_true_of_le h2,Bool.and_true,cond_true]
theorem fieldAddr_ok (tk:TOK P KT T) {t:TypeId} {x:Operand} {f:Nat} {ρ:Nat → SV} (s:SI Γ ν h A) (d:∀ x,DV ν (sev ρ x) (ρe x)) (e:sfieldAddr T t (sev ρ x) f h=some (v,h',k,cs)):OpOk P Γ ν h A ρe (.fieldAddr t x f) v h' k:=by
 unfold sfieldAddr at e
 split at e
 ·rename_i te b i sz j hT hx
  split at e
  ·rename_i fs hs;obtain ⟨F,hu,hF⟩:=tk.struct hT hs;have hf:=fchk_is hF f
   split at e
   ·rename_i off n a hfs;rw [hfs] at hf
    split at hf
    ·rename_i fd o n2 a2 e1 e2;cases e2;obtain ⟨g1,g2,g3⟩:=hf;cases hn:Nat.beq n 0 with
     |true=>rw [hn] at e;cases e
     |false =>
      rw [hn] at e;obtain ⟨rfl,rfl,rfl,rfl⟩:=sout_inv e;(have q:DC ν (.ptr b i sz j) (ρe x):=by have:=d x;rw [hx] at this;exact this);obtain ⟨blk,base,cap,q1,q2⟩:=q;refine OpOk.pure s (u:=.pointer (some ⟨blk,base+(i.toNat*sz+j)+off,none⟩)) (fun z hz=>?_) ⟨blk,base,cap,q1,by rw [Nat.add_assoc,Nat.add_assoc]⟩ rfl;unfold aop;rw [hz];simp only [q2,hu];rw [show F[f]?=some fd by simpa using e1];simp only [g3,hn,cond_false,g1]
    ·rename_i h1;cases h1
    ·exact hf.elim
   ·cases e
  ·cases e
 ·cases e
theorem field_ok (tk:TOK P KT T) {t:TypeId} {x:Operand} {f:Nat} {ρ:Nat → SV} (s:SI Γ ν h A) (d:∀ x,DV ν (sev ρ x) (ρe x)) (e:sfield T t (sev ρ x) f h=some (v,h',k,cs)):OpOk P Γ ν h A ρe (.field t x f) v h' k:=by
 unfold sfield at e
 split at e
 ·rename_i te l hT hx;have q:=d x;rw [hx] at q;obtain ⟨cs0,q1,q2⟩:=q
  split at e
  ·rename_i fs hs;obtain ⟨F,hu,hF⟩:=tk.struct hT hs;have hf:=fchk_is hF f
   have fin:∀ (fd:Field) (u:Value),F.toList[f]?=some fd → apart P fd.type cs0 fd.offset=some u → DV ν v u → h'=h → k=(0,0) → OpOk P Γ ν h A ρe (.field t x f) v h' k:=fun fd u e1 e2 e3 e4 e5=>by
    subst e4;subst e5;refine OpOk.pure s (fun z hz=>?_) e3 rfl;unfold aop;rw [hz];simp only [q1,hu];rw [show F[f]?=some fd by simpa using e1];simp only [e2];rfl
   split at e
   ·rename_i off n hfs;rw [hfs] at hf
    split at hf
    ·rename_i fd o n2 a2 e1 e2;cases e2;obtain ⟨g1,g2,g3⟩:=hf;rw [ctake_is] at e
     split at e
     ·rename_i hle;obtain ⟨rfl,rfl,rfl,rfl⟩:=sout_inv e;refine fin fd (.agg (cs0.extract off (off+n))) e1 ?_ ⟨_,rfl,?_⟩ rfl rfl
      ·unfold apart;rw [g2,g1]
      ·have hlen:=q2.len;rw [Array.toList_extract];refine DL.of ?_ fun j y w a1 a2=>?_
       ·simp only [List.length_take,List.length_drop,List.extract_eq_take_drop];omega
       ·rw [List.extract_eq_take_drop] at a2;rw [List.getElem?_take] at a1 a2
        split at a1
        ·rename_i hj;rw [if_pos (by omega)] at a2;rw [List.getElem?_drop] at a1 a2;exact q2.at a1 a2
        ·cases a1
     ·cases e
    ·rename_i h1;cases h1
    ·exact hf.elim
   ·rename_i off n hfs;rw [hfs] at hf
    split at hf
    ·rename_i fd o n2 a2 e1 e2;cases e2;obtain ⟨g1,g2,g3⟩:=hf;rw [ctake_is] at e
     split at e
     ·rename_i hle
      split at e
      ·rename_i y hy;obtain ⟨rfl,rfl,rfl,rfl⟩:=sout_inv e
       have hy2:l[off]?=some y:=by
        (have:((l.drop off).take 1)[0]?=some y:=by rw [hy];rfl);rw [List.getElem?_take,if_pos (by omega),List.getElem?_drop] at this;exact this
       obtain ⟨u,u1,u2⟩:=q2.get hy2;refine fin fd u e1 ?_ u2 rfl rfl;unfold apart;rw [g2,g1];show cs0[off]?=some u
       simpa using u1
      ·cases e
     ·cases e
    ·rename_i h1;cases h1
    ·exact hf.elim
   ·cases e
  ·cases e
 ·cases e
theorem indexAddr_ok (tk:TOK P KT T) {t:TypeId} {x i:Operand} {ρ:Nat → SV} (s:SI Γ ν h A) (d:∀ x,DV ν (sev ρ x) (ρe x)) (e:sindexAddr T t (sev ρ x) (sev ρ i) h=some (v,h',k,cs)) (hc:AllP cs):OpOk P Γ ν h A ρe (.indexAddr t x i) v h' k:=by
 unfold sindexAddr at e
 have at_:∀ (q:IntKind) (n:Int),sev ρ i=.v (.c (.int q n)) → 0≤n → asN (ρe i)=some n.toNat:=fun q n hy h0=>by
  have ey:ρe i=.int q n:=by have:=d i;rw [hy] at this;exact this
  rw [ey];obtain ⟨m,rfl⟩:∃ m:Nat,n=m:=⟨n.toNat,by omega⟩;rfl
 split at e
 ·rename_i te b n q m hT hx hi
  split at e
  ·rename_i el hs;obtain ⟨hu,hE⟩:=tk.slice hT hs;(have ek:∀ K:KD,(ksz K fun sz=>some (c1 (.ptr b m sz 0),h,(0,0),[0≤m,m < (n:Int)]))=some (c1 (.ptr b m K.sz 0),h,(0,0),[0≤m,m < (n:Int)]):=fun K=>by cases K;rfl);rw [ek] at e;simp only [Option.some.injEq,Prod.mk.injEq] at e;obtain ⟨rfl,rfl,rfl,rfl⟩:=e;obtain ⟨h0,h1⟩:0≤m∧m < (n:Int):=hc;(have dx:DC ν (.sl b n) (ρe x):=by have:=d x;rw [hx] at this;exact this)
   rcases dx with ⟨_,rfl,_⟩ | ⟨_,_,_,rfl,_⟩ | ⟨blk,base,cap,q1,q2⟩
   ·omega
   ·omega
   ·refine OpOk.pure s (u:=.pointer (some ⟨blk,base+m.toNat*(KT el).sz,none⟩)) (fun z hz=>?_) ⟨blk,base,cap,q1,by rw [Nat.add_zero]⟩ rfl;unfold aop;rw [hz];simp only [q2];unfold aindexAddr;simp only [hu,at_ q m hi h0,hE.sz];rw [show Nat.blt m.toNat n=true from Nat.ble_eq_true_of_le (by omega)];rfl
  ·cases e
 ·rename_i te b sz j q m hT hx hi
  split at e
  ·rename_i n el hs;obtain ⟨hu,hE,_⟩:=tk.array hT hs;(have dx:DC ν (.ptr b (Int.ofNat 0) sz j) (ρe x):=by have:=d x;rw [hx] at this;exact this);obtain ⟨blk,base,cap,q1,q3⟩:=dx;(have q2:ρe x=.pointer (some ⟨blk,base+j,none⟩):=by rw [q3];simp);clear q3;cases hsz:(Nat.beq sz (KT el).sz && Nat.beq j 0) with
   |false =>
    rw [hsz,cond_false] at e;cases hs1:(Nat.beq sz 0 && Nat.beq (KT el).sz 1) with
    |false=>rw [hs1] at e;cases e
    |true =>
     rw [hs1] at e;simp only [cond_true,Option.some.injEq,Prod.mk.injEq] at e;obtain ⟨rfl,rfl,rfl,rfl⟩:=e;simp only [Bool.and_eq_true] at hs1;have hk:=Nat.eq_of_beq_eq_true hs1.2;obtain ⟨h0,h1⟩:0≤m∧m < (n:Int):=hc;refine OpOk.pure s (u:=.pointer (some ⟨blk,base+j+m.toNat*(KT el).sz,none⟩)) (fun z hz=>?_) ⟨blk,base,cap,q1,by rw [hk,Nat.add_assoc,Nat.add_comm j]⟩ rfl;unfold aop;rw [hz];simp only [q2];unfold aindexAddr;simp only [hu,at_ q m hi h0,hE.sz];rw [show Nat.blt m.toNat n=true from Nat.ble_eq_true_of_le (by omega)];rfl
   |true =>
    rw [hsz] at e;simp only [cond_true,Option.some.injEq,Prod.mk.injEq] at e;obtain ⟨rfl,rfl,rfl,rfl⟩:=e;simp only [Bool.and_eq_true] at hsz;obtain rfl:=Nat.eq_of_beq_eq_true hsz.1;obtain rfl:=Nat.eq_of_beq_eq_true hsz.2;rw [Nat.add_zero] at q2;obtain ⟨h0,h1⟩:0≤m∧m < (n:Int):=hc;refine OpOk.pure s (u:=.pointer (some ⟨blk,base+m.toNat*(KT el).sz,none⟩)) (fun z hz=>?_) ⟨blk,base,cap,q1,by rw [Nat.add_zero]⟩ rfl;unfold aop;rw [hz];simp only [q2];unfold aindexAddr;simp only [hu,at_ q m hi h0,hE.sz];rw [show Nat.blt m.toNat n=true from Nat.ble_eq_true_of_le (by omega)];rfl
  ·cases e
 ·cases e
end Go.Proofs.Ytpbhkdamkbopkaa.Rs
