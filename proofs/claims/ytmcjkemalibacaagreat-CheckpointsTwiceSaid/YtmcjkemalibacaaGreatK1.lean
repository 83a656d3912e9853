/-
  Part 1 of the proof: an evaluator of programs, its soundness, and what functions of this program compute.
-/
import Derived.WalkKit
import Derived.Laws.AppendOwn
import Derived.Laws.StructEq
import Derived.DeepKeys
import Derived.Laws.Cover3
import Derived.Laws.Tables
import Derived.Laws.OwnMore
import Derived.Great.BuildSlice
set_option linter.all false
set_option maxRecDepth 20000
set_option maxHeartbeats 40000000
section
namespace Go.Ab
open Classical
inductive AV where
 | v (x:Value)
 | agg (cs:List AV)
 | sl (n:Nat) (cs:List AV)
 | cl (n:Nat) (cs:List AV)
 | ip (cs:List AV) (o:Nat)
 | ptr (s g off:Nat)
 | own (s g:Nat)
 | mp (s g:Nat)
 | rW (f:Nat) (mJ:List AV)
 | eG (vs:List AV)
 | uniq (e sz n:Nat) (cs:List AV)
 | vw (s g o n:Nat)
class Ext where
 mv:Nat→Bool
 qL:Nat→Bool
 eat:Nat→Option Nat→Bool
 inl:Nat→Option Nat→Bool
 dyn:Nat→Nat→Option Nat→List (Nat × Nat)
 pa:Nat→Nat→Bool
 va:Nat→Nat→Bool
 ext:Nat→List AV→Option AV
inductive nP where
 | cells (cs:List AV)
 | row (e sz n:Nat) (cs:List AV)
 | map (es:List (AV × AV))
structure St where
 env:Nat→AV
 heap:Nat→Nat→Option nP
 aU:Nat→Nat
def St.put (st:St) (d:Option Nat) (x:AV):St :=
 match d with
 | none=>st
 | some d=>{ st with env:=fun t=>if t=d then x else st.env t }
def St.jC (st:St) (s g:Nat) (e:Option nP):St :=
 { st with heap:=fun s' g'=>if s'=s∧g'=g then e else st.heap s' g' }
def St.news (st:St) (d:Nat) (es:List nP):St :=
 { st with heap:=fun s' g'=>if s'=d∧st.aU d≤g'∧g' - st.aU d<es.length then es[g' - st.aU d]? else st.heap s' g',aU:=fun s=>if s=d then st.aU d+es.length else st.aU s }
def St.new (st:St) (d:Nat) (e:nP):St :=
 { st with heap:=fun s' g'=>if s'=d∧g'=st.aU d then some e else st.heap s' g',aU:=fun s=>if s=d then st.aU d+1 else st.aU s }
def St.ev (st:St):Operand→AV
 | .tmp t=>st.env t
 | .const x=>.v x
 | .global g=>.v (.pointer (some ⟨g,0,none⟩))
 | .func f=>.v (.func (.func f) #[] #[])
structure rX where
 dst:Option Nat
 val:AV
 dS:Option (Nat × Nat × Option nP):=none
 new:Option (Nat × List nP):=none
def rX.apply (e:rX) (st:St):St :=
 let s1:=match e.dS with
  | some (s,g,x)=>st.jC s g x
  | none=>st
 let s2:=match e.new with
  | some (d,x)=>s1.news d x
  | none=>s1
 s2.put e.dst e.val
def AV.cells:AV→List AV
 | .agg cs=>cs
 | x=>[x]
inductive Flat:AV→Prop
 | v (x:Value):Flat (.v x)
 | agg (cs:List AV) (h:∀x∈cs,Flat x):Flat (.agg cs)
 | sl (n:Nat) (cs:List AV) (h:∀x∈cs,Flat x):Flat (.sl n cs)
 | cl (n:Nat) (cs:List AV) (h:∀x∈cs,Flat x):Flat (.cl n cs)
 | ip (cs:List AV) (o:Nat) (h:∀x∈cs,Flat x):Flat (.ip cs o)
 | rW (f:Nat) (cs:List AV) (h:∀x∈cs,Flat x):Flat (.rW f cs)
 | eG (cs:List AV) (h:∀x∈cs,Flat x):Flat (.eG cs)
inductive iD:AV→Prop
 | v (x:Value):iD (.v x)
 | agg (cs:List AV) (h:∀x∈cs,iD x):iD (.agg cs)
 | eG (cs:List AV) (h:∀x∈cs,iD x):iD (.eG cs)
def cT {α β:Type} (x:Option α) (f:α→Option β):Option β :=
 match x with
 | some a=>f a
 | none=>none
section tables
variable (P:Program)
def aY (T f:Nat):Option Nat :=
 match P.underlying T with
 | some (.struct fs) =>
   match fs[f]? with
   | some fd=>if P.cellsOf fd.type=0 then none else some fd.offset
   | none=>none
 | _=>none
def jK (T:Nat):Option (Nat × Nat) :=
 match P.underlying T with
 | some (.array n e)=>if P.cellsOf e=0 then none else some (n,P.cellsOf e)
 | _=>none
def dT (T:Nat):Option (Nat × Nat × Nat) :=
 match P.underlying T with
 | some (.slice e) =>
   match P.info? e with
   | some i =>
     match i.zero with
     | some z=>if i.size=0∨z.cells.size≠i.size then none else some (e,i.size,i.bytes)
     | none=>none
   | none=>none
 | _=>none
def fS (T:Nat):Option (Bool × Nat) :=
 match P.info? T with
 | none=>none
 | some i =>
   match P.underlying T with
   | some (.struct _)=>some (true,i.size)
   | some (.array _ _)=>some (true,i.size)
   | some _=>some (false,i.size)
   | none=>none
def eH (T:Nat):Option (List Value) :=
 match P.info? T with
 | some i =>
   match i.zero with
   | some z=>if (z.cells.toList.all fun y=>y.oneCell')=true then some z.cells.toList else none
   | none=>none
 | none=>none
def intKind (T:Nat):Option IntKind :=
 match P.underlying T with
 | some (.int k)=>some k
 | _=>none
def dF (t:Nat):Bool :=
 match P.underlying t with
 | some (.struct _)=>true
 | some (.array _ _)=>true
 | _=>false
def Kf (f:Nat→Option (List Bool)):List Field→Nat→Option (List Bool)
 | [],_=>some []
 | fd :: r,off =>
   match f fd.type with
   | some m =>
     if fd.name ≠ "_" ∧ fd.offset = off ∧ P.cellsOf fd.type = m.length ∧ (P.info? fd.type).isSome = true then (Kf f r (off + m.length)).map (m ++ ·) else none
   | none=>none
def fC:Nat→Nat→Option (List Bool)
 | 0,_=>none
 | d+1,t =>
   match P.underlying t with
   | some .bool=>some [false]
   | some (.int _)=>some [true]
   | some (.struct fs)=>if P.stoodInHeld t=true then none else Kf P (fC d) fs.toList 0
   | some (.array n e) =>
     match fC d e with
     | some m=>if P.cellsOf e=m.length∧(P.info? e).isSome=true then some ((List.range n).flatMap fun _=>m) else none
     | none=>none
   | _=>none
end tables
def iR:List Bool→List AV→List AV→Prop
 | [],[],[]=>True
 | true :: l,.v (.int k _) :: xs,.v (.int k' _) :: ys=>k=k'∧iR l xs ys
 | false :: l,.v (.bool _) :: xs,.v (.bool _) :: ys=>iR l xs ys
 | _,_,_=>False
section ops
variable (P:Program)
noncomputable def wV (T:Nat) (xs ys:List AV):Option Bool :=
 match fC P 20 T with
 | some l=>if dF P T=true∧P.eqGuardType P.depth T=false∧iR l xs ys then some (decide (xs=ys)) else none
 | none=>none
def tZ (op:BinOp) (T:Nat) (b:Bool):Option AV :=
 match P.underlying T with
 | some (.slice _) =>
   match op with
   | .eql=>some (.v (.bool b))
   | .neq=>some (.v (.bool (!b)))
   | _=>none
 | _=>none
noncomputable def gM (op:BinOp) (T:Nat) (x y:AV):Option AV :=
 match x,y with
 | .v (.int k a),.v (.int k' b) =>
   match op with
   | .shl=>if b<0 then none else some (.v (.int k (k.wrap (a * 2 ^ (min b.toNat k.bits)))))
   | .shr=>if b<0 then none else some (.v (.int k (a.fdiv (2 ^ (min b.toNat k.bits)))))
   | .add=>if k=k' then some (.v (.int k (k.wrap (a+b)))) else none
   | .sub=>if k=k' then some (.v (.int k (k.wrap (a-b)))) else none
   | .mul=>if k=k' then some (.v (.int k (k.wrap (a * b)))) else none
   | .quo=>if k=k'∧b≠0 then some (.v (.int k (k.wrap (a.tdiv b)))) else none
   | .rem=>if k=k'∧b≠0 then some (.v (.int k (a.tmod b))) else none
   | .and=>if k=k' then some (.v (.int k (k.wrap (BitVec.ofInt k.bits a &&& BitVec.ofInt k.bits b).toNat))) else none
   | .or=>if k=k' then some (.v (.int k (k.wrap (BitVec.ofInt k.bits a ||| BitVec.ofInt k.bits b).toNat))) else none
   | .xor=>if k=k' then some (.v (.int k (k.wrap (BitVec.ofInt k.bits a ^^^ BitVec.ofInt k.bits b).toNat))) else none
   | .andNot=>if k=k' then some (.v (.int k (k.wrap (BitVec.ofInt k.bits a &&& ~~~ BitVec.ofInt k.bits b).toNat))) else none
   | .eql=>if k=k' then some (.v (.bool (a == b))) else none
   | .neq=>if k=k' then some (.v (.bool (a != b))) else none
   | .lss=>if k=k' then some (.v (.bool (decide (a<b)))) else none
   | .leq=>if k=k' then some (.v (.bool (decide (a≤b)))) else none
   | .gtr=>if k=k' then some (.v (.bool (decide (a > b)))) else none
   | .geq=>if k=k' then some (.v (.bool (decide (a≥b)))) else none
 | .v (.bool a),.v (.bool b) =>
   match P.underlying T with
   | some .bool =>
     match op with
     | .eql=>some (.v (.bool (a == b)))
     | .neq=>some (.v (.bool (!(a == b))))
     | _=>none
   | _=>none
 | .agg xs,.agg ys =>
   match op with
   | .eql=>(wV P T xs ys).map fun b=>.v (.bool b)
   | .neq=>(wV P T xs ys).map fun b=>.v (.bool (!b))
   | _=>none
 | .sl _ (_ :: _),.v (.slice none 0 0)=>tZ P op T false
 | .v (.slice p 0 _),.v (.slice none 0 0)=>tZ P op T p.isNone
 | _,_=>none
def unA (op:UnOp) (x:AV):Option AV :=
 match op,x with
 | .not,.v (.bool b)=>some (.v (.bool (!b)))
 | .neg,.v (.int k n)=>some (.v (.int k (k.wrap (0-n))))
 | .xor,.v (.int k n)=>some (.v (.int k (k.wrap (BitVec.ofInt k.bits (if k.signed then -1 else k.max) ^^^ BitVec.ofInt k.bits n).toNat)))
 | _,_=>none
def vJ (x:AV) (k:Nat):Option AV :=
 match x with
 | .ptr s g o=>some (.ptr s g (o+k))
 | .ip cs o=>if o+k≤cs.length then some (.ip cs (o+k)) else none
 | _=>none
def qO (st:St) (x:AV):Option (List AV) :=
 match x with
 | .ip cs o=>some (cs.drop o)
 | .ptr s g o =>
   match st.heap s g with
   | some (.cells cs)=>some (cs.drop o)
   | some (.row _ _ _ cs)=>some (cs.drop o)
   | _=>none
 | _=>none
def yQ (T:Nat) (cs:List AV):Option AV :=
 match fS P T with
 | some (true,k)=>if 0<k∧k≤cs.length then some (.agg (cs.take k)) else none
 | some (false,_)=>cs.head?
 | none=>none
def aX (st:St) (x:AV):Option (Nat × List AV) :=
 match x with
 | .sl n cs=>some (n,cs)
 | .cl n cs=>some (n,cs)
 | .own s g =>
   match st.heap s g with
   | some (.row _ _ n cs)=>some (n,cs)
   | _=>none
 | .vw s g o n =>
   match st.heap s g with
   | some (.row _ sz _ cs)=>if o+n * sz≤cs.length then some (n,(cs.drop o).take (n * sz)) else none
   | some (.cells cs)=>if o+n≤cs.length then some (n,(cs.drop o).take n) else none
   | _=>none
 | .v (.slice _ 0 _)=>some (0,[])
 | _=>none
def bH (st:St) (T:Nat) (x i:AV):Option AV :=
 match i with
 | .v (.int _ i) =>
   match jK P T with
   | some (n,sz)=>if 0≤i∧i<n then vJ x (i.toNat * sz) else none
   | none =>
     match dT P T with
     | some (e,sz,_) =>
       match x with
       | .sl n cs=>if 0≤i∧i<n∧i.toNat * sz+sz≤cs.length then some (.ip ((cs.drop (i.toNat * sz)).take sz) 0) else none
       | .own s g =>
         match st.heap s g with
         | some (.row e' tU n _)=>if 0≤i∧i<n∧e'=e∧tU=sz then some (.ptr s g (i.toNat * sz)) else none
         | _=>none
       | .vw s g o n=>if 0≤i∧i<n then some (.ptr s g (o+i.toNat * sz)) else none
       | _=>none
     | none=>none
 | _=>none
def gT (place:Nat→Option (Nat × Nat)) (cells:List AV):List (Nat × AV)→Option (List AV)
 | []=>some cells
 | (i,x) :: rest =>
   match place i with
   | none=>none
   | some (off,size) =>
     if x.cells.length=size∧off+size≤cells.length then gT place (cells.take off++x.cells++cells.drop (off+size)) rest else none
def placeOf (T:Nat):Option (Nat→Option (Nat × Nat)) :=
 match P.underlying T with
 | some (.struct fs)=>if fs.all (fun f=>(P.info? f.type).isSome) then some fun i=>(fs[i]?).map fun f=>(f.offset,P.cellsOf f.type) else none
 | some (.array _ e)=>if (P.info? e).isSome then some fun i=>some (i * P.cellsOf e,P.cellsOf e) else none
 | _=>none
def AV.jE:AV→Bool
 | .v x=>x.oneCell'
 | .eG _=>false
 | .uniq _ _ _ _=>false
 | _=>true
def iW (st:St) (T:Nat) (parts:List (Nat × Operand)):Option AV :=
 match eH P T,placeOf P T with
 | some z,some place =>
   if (parts.all fun p=>(st.ev p.2).jE)=true then (gT place (z.map .v) (parts.map fun p=>(p.1,st.ev p.2))).map .agg else none
 | _,_=>none
def dB (st:St) (T:Nat) (x:AV) (lo hi:Option Operand):Option AV :=
 match dT P T with
 | some (_,sz,_) =>
   match x with
   | .sl n cs =>
     match (match hi with|some h=>st.ev h|none=>.v (.int .i64 n)),(match lo with|some l=>st.ev l|none=>.v (.int .i64 0)) with
     | .v (.int _ h),.v (.int _ l) =>
       if 0≤l∧l≤h∧h≤n∧cs.length=n * sz then some (.sl (h-l).toNat ((cs.drop (l.toNat * sz)).take ((h-l).toNat * sz))) else none
     | _,_=>none
   | .v (.slice none 0 0) =>
     match (match hi with|some h=>st.ev h|none=>.v (.int .i64 0)),(match lo with|some l=>st.ev l|none=>.v (.int .i64 0)) with
     | .v (.int _ h),.v (.int _ l)=>if l=0∧h=0 then some x else none
     | _,_=>none
   | .own s g =>
     match st.heap s g with
     | some (.row _ _ n _) =>
       match (match hi with|some h=>st.ev h|none=>.v (.int .i64 n)),(match lo with|some l=>st.ev l|none=>.v (.int .i64 0)) with
       | .v (.int _ h),.v (.int _ l)=>if 0≤l∧l≤h∧h≤n then (if l=h∧¬(l=0∧0<n) then some (.sl 0 []) else some (.vw s g (l.toNat * sz) (h-l).toNat)) else none
       | _,_=>none
     | _=>none
   | .vw s g 0 _ =>
     match st.heap s g,hi,lo with
     | some (.row _ _ n _),some hi,some lo =>
       match st.ev hi,st.ev lo with
       | .v (.int _ h),.v (.int _ l)=>if 0≤l∧l<h∧h≤n then some (.vw s g (l.toNat * sz) (h-l).toNat) else none
       | _,_=>none
     | _,_,_=>none
   | _=>none
 | none =>
   match jK P T,x,lo,hi with
   | some (n,_),.ptr s g o,none,none =>
     match st.heap s g with
     | some (.cells _)=>some (.vw s g o n)
     | _=>none
   | _,_,_,_=>none
def Bo (st:St) (T:Nat) (x:AV) (lo:Option Operand) (hi mx:Operand):Option AV :=
 match dT P T with
 | some (_,sz,_) =>
   match st.ev hi,st.ev mx,(match lo with|some l=>st.ev l|none=>.v (.int .i64 0)) with
   | .v (.int _ h),.v (.int _ m),.v (.int _ l) =>
     match x with
     | .sl n cs=>if 0≤l∧l≤h∧h=m∧h≤n∧cs.length=n * sz then some (.cl (h-l).toNat ((cs.drop (l.toNat * sz)).take ((h-l).toNat * sz))) else none
     | .v (.slice none 0 0)=>if l=0∧h=0∧m=0 then some x else none
     | .own s g =>
       match st.heap s g with
       | some (.row _ _ n _)=>if 0≤l∧l≤h∧h≤m∧m≤n then some (.sl (h-l).toNat []) else none
       | _=>none
     | _=>none
   | _,_,_=>none
 | none=>none
def Dk (l:List Bool) (k:Nat):Bool :=
 match P.underlying k with
 | some (.int _)=>true
 | some .bool=>true
 | some (.array n e) =>
   match P.underlying e with
   | some (.int _)=>decide (P.cellsOf e=1) && decide (l.length=n) && (P.info? e).isSome && decide (n≤10000)
   | _=>false
 | _=>false
def aE0 (T:Nat):Option AV :=
 match P.info? T with
 | some i =>
   match i.zero with
   | some (.agg cs)=>if (cs.toList.all fun y=>y.oneCell')=true then some (.agg (cs.toList.map .v)) else none
   | some y=>if y.oneCell'=true then some (.v y) else none
   | none=>none
 | none=>none
def Xo (T:Nat):Option (Nat × AV) :=
 match P.underlying T with
 | some (.map k e) =>
   match fC P 20 k,aE0 P e with
   | some l,some z=>if Dk P l k=true then some (k,z) else none
   | _,_=>none
 | _=>none
def Fs (k:Nat) (x y:AV):Prop :=
 match fC P 20 k with
 | some l=>iR l x.cells y.cells∧(dF P k=true→(∃cs,x=.agg cs)∧∃cs,y=.agg cs)∧(dF P k=false→(∃u,x=.v u)∧∃u,y=.v u)
 | none=>False
noncomputable def R3:List (AV × AV)→AV→Option AV
 | [],_=>none
 | p :: r,x=>if p.1=x then some p.2 else R3 r x
noncomputable def R4:List (AV × AV)→AV→AV→List (AV × AV)
 | [],x,y=>[(x,y)]
 | p :: r,x,y=>if p.1=x then (x,y) :: r else p :: R4 r x y
noncomputable def Vj (st:St) (T:Nat) (m x:AV) (ok:Bool):Option AV :=
 match m with
 | .mp s g =>
   match st.heap s g,Xo P T with
   | some (.map es),some (k,z) =>
     if Fs P k x x∧∀p∈es,Fs P k x p.1 then
      match R3 es x with
      | some v=>some (if ok=true then .eG [v,.v (.bool true)] else v)
      | none=>some (if ok=true then .eG [z,.v (.bool false)] else z)
     else none
   | _,_=>none
 | _=>none
noncomputable def uA (st:St) (T:Nat) (m x y:AV):Option (Nat × Nat × nP) :=
 match m with
 | .mp s g =>
   match st.heap s g,Xo P T with
   | some (.map es),some (k,_)=>if (Fs P k x x∧∀p∈es,Fs P k x p.1)∧y.jE=true then some (s,g,.map (R4 es x y)) else none
   | _,_=>none
 | _=>none
def fieldInfo (T f:Nat):Option (Nat × Bool × Nat) :=
 match P.underlying T with
 | some (.struct fs) =>
   match fs[f]? with
   | some fd =>
     match fS P fd.type with
     | some (b,k)=>if b=true∨k=1 then some (fd.offset,b,k) else none
     | none=>none
   | none=>none
 | _=>none
def Cq (T f:Nat) (x:AV):Option AV :=
 match x with
 | .agg cs =>
   match fieldInfo P T f with
   | some (off,true,k)=>if off+k≤cs.length then some (.agg ((cs.drop off).take k)) else none
   | some (off,false,_)=>cs[off]?
   | none=>none
 | _=>none
noncomputable def iX (st:St):Op→Option AV
 | .move x=>some (st.ev x)
 | .assign x=>some (st.ev x)
 | .pick c a b =>
   match st.ev c with
   | .v (.bool t)=>some (if t=true then st.ev a else st.ev b)
   | _=>none
 | .binOp op T x y _=>gM P op T (st.ev x) (st.ev y)
 | .unOp op _ x=>unA op (st.ev x)
 | .convert src dst x =>
   match st.ev x,intKind P dst,intKind P src with
   | .v (.int _ n),some k,some _=>some (.v (.int k (k.wrap n)))
   | _,_,_=>none
 | .nilCheck x =>
   match st.ev x with
   | .ptr s g o=>some (.ptr s g o)
   | .ip cs o=>some (.ip cs o)
   | _=>none
 | .field T x f=>Cq P T f (st.ev x)
 | .fieldAddr T x f =>
   match aY P T f with
   | some k=>vJ (st.ev x) k
   | none=>none
 | .indexAddr T x i=>bH P st T (st.ev x) (st.ev i)
 | .load T a=>cT (qO st (st.ev a)) (yQ P T)
 | .extract t i =>
   match st.ev t with
   | .eG vs=>vs[i]?
   | _=>none
 | .build T parts=>iW P st T parts.toList
 | .slice T x lo hi none=>dB P st T (st.ev x) lo hi
 | .slice T x lo (some h) (some m)=>Bo P st T (st.ev x) lo h m
 | .lookup T x i ok=>Vj P st T (st.ev x) (st.ev i) ok
 | .makeFunc (.func f) first captured=>if first=#[] then some (.rW f (captured.toList.map st.ev)) else none
 | _=>none
def qA (st:St) (T:Nat) (a x:AV):Option (Nat × Nat × nP) :=
 match a with
 | .ptr s g o =>
   match fS P T with
   | some (_,k) =>
     if x.cells.length=k∧x.jE=true then
      match st.heap s g with
      | some (.cells cs)=>if o+k≤cs.length then some (s,g,.cells (cs.take o++x.cells++cs.drop (o+k))) else none
      | some (.row e sz n cs)=>if o+k≤cs.length then some (s,g,.row e sz n (cs.take o++x.cells++cs.drop (o+k))) else none
      | _=>none
     else none
   | none=>none
 | _=>none
def dH (st:St) (T:Nat) (s x:AV):Option (Option (Nat × Nat) × nP) :=
 match dT P T with
 | some (e,sz,by_) =>
   match aX st x with
   | some (m,news) =>
     if news.length=m * sz then
      match s with
      | .v (.slice none 0 0) =>
        if m * by_≤140737488355328∧m≤maxLen then some (none,.row e sz m news) else none
      | .own s' g' =>
        match st.heap s' g' with
        | some (.row e' tU n cs) =>
          if e'=e∧tU=sz∧(n+m) * by_≤140737488355328∧n+m≤maxLen then
           some (some (s',g'),.row e sz (n+m) (cs++news))
          else none
        | _=>none
      | .cl n cs =>
        if cs.length=n * sz∧(n=0∨0<m)∧(n+m) * by_≤140737488355328∧n+m≤maxLen then some (none,.row e sz (n+m) (cs++news)) else none
      | _=>none
     else none
   | none=>none
 | none=>none
def nX (st:St) (T:Nat) (s x:AV):Option (Nat × Nat × nP × Nat) :=
 match dT P T,aX st x,s with
 | some (e,sz,_),some (m,news),.vw s' g' 0 k =>
   match st.heap s' g' with
   | some (.row e' tU n cs) =>
     if e'=e∧tU=sz∧news.length=m * sz∧k+m≤n then some (s',g',.row e' tU n (cs.take (k * sz)++news++cs.drop (k * sz+m * sz)),k+m) else none
   | _=>none
 | _,_,_=>none
def sE (st:St) (T:Nat) (x:AV):Option (Option (Nat × Nat × nP)) :=
 match dT P T,x with
 | some (e,sz,_),.vw s g o k =>
   match eH P e,st.heap s g with
   | some z,some (.row e' tU n cs)=>if e'=e∧tU=sz∧o+k * sz≤cs.length then some (some (s,g,.row e' tU n (cs.take o++((List.range k).flatMap fun _=>z.map .v)++cs.drop (o+k * sz)))) else none
   | _,_=>none
 | some _,.sl 0 _=>some none
 | some _,.v (.slice none 0 0)=>some none
 | _,_=>none
def Hy (st:St) (T:Nat) (s x:AV):Prop:=s=.v (.slice none 0 0)∧(dT P T).isSome=true∧(aX st x).map Prod.fst=some 0
noncomputable def wW (st:St) (x:AV):Option AV :=
 if Flat x then some x else
 match x with
 | .own s g =>
   match st.heap s g with
   | some (.row _ _ n cs)=>if ∀c∈cs,Flat c then some (.sl n cs) else none
   | _=>none
 | .vw s g o n =>
   match st.heap s g with
   | some (.row _ sz _ cs)=>if (∀c∈cs,Flat c)∧o+n * sz≤cs.length then some (.sl n ((cs.drop o).take (n * sz))) else none
   | _=>none
 | _=>none
def cM {α:Type}:List (Option α)→Option (List α)
 | []=>some []
 | some x :: r=>(cM r).map (x :: ·)
 | none :: _=>none
noncomputable def cJ (st:St) (x:AV):Option AV :=
 if Flat x then some x else
 match x with
 | .own s g =>
   match st.heap s g with
   | some (.row _ _ n cs)=>if ∀c∈cs,Flat c then some (.sl n cs) else none
   | _=>none
 | .vw s g o n =>
   match st.heap s g with
   | some (.row _ sz _ cs)=>if (∀c∈cs,Flat c)∧o+n * sz≤cs.length then some (.sl n ((cs.drop o).take (n * sz))) else none
   | _=>none
 | .ptr s g o =>
   match st.heap s g with
   | some (.cells cs)=>(cM (cs.map (wW st))).map fun ds=>.ip ds o
   | _=>none
 | _=>none
noncomputable def fP (st:St) (x:AV):Option AV :=
 if Flat x then some x else
 match x with
 | .agg cs=>(cM (cs.map (cJ st))).map .agg
 | .rW f mJ=>(cM (mJ.map (cJ st))).map (.rW f)
 | x=>cJ st x
def IN:AV→Option (Nat × List AV)
 | .v (.func (.func f) first mJ)=>if first=#[]∧mJ=#[] then some (f,[]) else none
 | .rW f mJ=>some (f,mJ)
 | _=>none
def xZ (d c:Nat):AV→AV × List nP
 | .uniq e sz n cs=>(.own d c,[.row e sz n cs])
 | x=>(x,[])
def pM (f:Nat→AV→AV × List nP):Nat→List AV→List AV × List nP
 | _,[]=>([],[])
 | c,x :: xs=>((f c x).1 :: (pM f (c+(f c x).2.length) xs).1,(f c x).2++(pM f (c+(f c x).2.length) xs).2)
def Wk (d c:Nat):AV→AV × List nP
 | .agg cs=>(.agg (pM (xZ d) c cs).1,(pM (xZ d) c cs).2)
 | x=>xZ d c x
def l6 (d c:Nat):AV→AV × List nP
 | .eG vs=>(.eG (pM (Wk d) c vs).1,(pM (Wk d) c vs).2)
 | x=>Wk d c x
def VC:AV→Prop
 | .uniq _ _ _ cs=>∀c∈cs,iD c
 | x=>iD x
def VD:AV→Prop
 | .agg cs=>∀c∈cs,VC c
 | x=>VC x
def Yj:AV→Prop
 | .eG vs=>∀x∈vs,VD x
 | x=>VD x
noncomputable def jD (r:AV) (st:St) (dst:Option Nat):Option rX :=
 if Flat r then some { dst:=dst,val:=r } else
 match dst with
 | some d=>some { dst:=some d,val:=(l6 d (st.aU d) r).1,new:=some (d,(l6 d (st.aU d) r).2)}
 | none=>none
noncomputable def aO (call:Nat→List AV→Option AV) (g:Nat) (args:List AV) (st:St) (dst:Option Nat):Option rX :=
 if ∀x∈args,Flat x then cT (call g args) fun r=>jD r st dst
 else
  match cM (args.map (fP st)) with
  | some xs=>cT (call g xs) fun r=>if Yj r then jD r st dst else none
  | none=>none
noncomputable def lN (call:Nat→List AV→Option AV) (g:Nat) (args:List AV) (st:St) (dst:Option Nat):Option rX :=
 match args with
 | .own s k :: rest =>
   match st.heap s k with
   | some (.row e sz n cs) =>
     if (∀c∈cs,Flat c)∧∀x∈rest,Flat x then
      match call g (.uniq e sz n cs :: rest) with
      | some (.uniq e' tU n' Fq) =>
        match dst with
        | some d=>some { dst:=some d,val:=.own d (st.aU d),dS:=some (s,k,none),new:=some (d,[.row e' tU n' Fq])}
        | none=>none
      | some (.eG [.uniq e' tU n' Fq])=>some { dst:=dst,val:=.eG [],dS:=some (s,k,some (.row e' tU n' Fq))}
      | _=>none
     else none
   | _=>none
 | args=>if ∀x∈args,Flat x then aO call g args st dst else none
def gQ:AV→List (Nat × Nat)
 | .own s g=>[(s,g)]
 | _=>[]
def jF:AV→List (Nat × Nat)
 | .agg cs=>cs.flatMap gQ
 | x=>gQ x
def lW:AV→List (Nat × Nat)
 | .eG vs=>vs.flatMap jF
 | x=>jF x
def l7 (x:AV):Prop:=Flat x∨(∃s k,x=.own s k)∨∃cs,x=.agg cs∧∀c∈cs,Flat c∨∃s k,c=.own s k
noncomputable def Ft (r:AV) (st:St) (dst:Option Nat) (s k:Nat):Option rX :=
 if Flat r then some { dst:=dst,val:=r,dS:=some (s,k,none)} else
 match r,dst with
 | .uniq e sz n cs,some d=>if ∀c∈cs,iD c then some { dst:=some d,val:=.own d (st.aU d),dS:=some (s,k,none),new:=some (d,[.row e sz n cs])} else none
 | _,_=>none
noncomputable def fG (call:Nat→List AV→Option AV) (g:Nat) (args:List AV) (st:St) (dst:Option Nat):Option rX :=
 match args.flatMap jF with
 | [(s,k)] =>
   if ∀x∈args,l7 x then
    match cM (args.map (fP st)) with
    | some xs=>cT (call g xs) fun r=>Ft r st dst s k
    | none=>none
   else none
 | _=>aO call g args st dst
section ext
variable [Ext]
noncomputable def nY (call:Nat→List AV→Option AV) (f:Operand) (args:List AV) (st:St) (dst:Option Nat):Option rX :=
 match f with
 | .func g=>if Ext.mv g=true then lN call g args st dst else if Ext.eat g dst=true then fG call g args st dst else aO call g args st dst
 | f =>
   match IN (st.ev f) with
   | some (g,mJ)=>aO call g (args++mJ) st dst
   | none=>none
noncomputable def iS (call:Nat→List AV→Option AV) (c:Call) (dst:Option Nat) (st:St):Option rX :=
 match c.callee with
 | .value f=>nY call f (c.args.toList.map st.ev) st dst
 | .builtin .len =>
   match c.args.toList,c.argTypes.toList with
   | [x],[T] =>
     match dT P T,aX st (st.ev x) with
     | some _,some (n,_)=>some { dst:=dst,val:=.v (.int .i64 n)}
     | _,_=>none
   | _,_=>none
 | .builtin .min =>
   match c.args.toList with
   | [x,y] =>
     match st.ev x,st.ev y with
     | .v (.int k a),.v (.int _ b)=>some { dst:=dst,val:=.v (.int k (if b<a then b else a))}
     | _,_=>none
   | _=>none
 | .builtin .max =>
   match c.args.toList with
   | [x,y] =>
     match st.ev x,st.ev y with
     | .v (.int k a),.v (.int _ b)=>some { dst:=dst,val:=.v (.int k (if b > a then b else a))}
     | _,_=>none
   | _=>none
 | .builtin .append =>
   cT dst fun d =>
    match c.args.toList,c.argTypes.toList with
    | [s,x],[T,T'] =>
      if T=T' then
       if Ext.va T d=true then (nX P st T (st.ev s) (st.ev x)).map fun u=>{ dst:=some d,val:=.vw u.1 u.2.1 0 u.2.2.2,dS:=some (u.1,u.2.1,some u.2.2.1)} else
       if Ext.pa T d=true∧Hy P st T (st.ev s) (st.ev x) then some { dst:=some d,val:=.v (.slice none 0 0)} else
       cT (dH P st T (st.ev s) (st.ev x)) fun ur=>some { dst:=some d,val:=.own d (st.aU d),dS:=ur.1.map fun p=>(p.1,p.2,none),new:=some (d,[ur.2])}
      else none
    | _,_=>none
 | .builtin .clear =>
   match c.args.toList,c.argTypes.toList with
   | [x],[T]=>(sE P st T (st.ev x)).map fun u=>{ dst:=dst,val:=.eG [],dS:=u.map fun p=>(p.1,p.2.1,some p.2.2)}
   | _,_=>none
 | _=>none
noncomputable def dP (call:Nat→List AV→Option AV) (o:Oper) (st:St):Option rX :=
 match o.op with
 | .alloc T =>
   cT o.dst fun d=>cT (eH P T) fun z=>some { dst:=some d,val:=.ptr d (st.aU d) 0,new:=some (d,[.cells (z.map .v)])}
 | .box _ x =>
   cT o.dst fun d=>if (st.ev x).jE=true then some { dst:=some d,val:=.ptr d (st.aU d) 0,new:=some (d,[.cells (st.ev x).cells])} else none
 | .buildSlice T n parts =>
   cT o.dst fun d=>cT (dT P T) fun t=>cT (eH P t.1) fun z =>
    if (0<n∨parts=#[])∧n * t.2.1≤2 ^ 24∧(parts.toList.all fun p=>(st.ev p.2).jE)=true then
     cT (gT (fun i=>some (i * t.2.1,t.2.1)) ((List.range n).flatMap fun _=>z.map .v) (parts.toList.map fun p=>(p.1,st.ev p.2))) fun cs =>
      some { dst:=some d,val:=.own d (st.aU d),new:=some (d,[.row t.1 t.2.1 n cs])}
    else none
 | .makeSlice T l c =>
   cT o.dst fun d=>cT (dT P T) fun t=>cT (eH P t.1) fun z =>
    match st.ev l,st.ev c with
    | .v (.int .i64 n),.v (.int .i64 m) =>
      if 0≤n∧n=m∧n * t.2.2≤140737488355328∧n≤maxLen then
       some { dst:=some d,val:=.own d (st.aU d),new:=some (d,[.row t.1 t.2.1 n.toNat ((List.range n.toNat).flatMap fun _=>z.map .v)])}
      else none
    | _,_=>none
 | .store T a x=>(qA P st T (st.ev a) (st.ev x)).map fun u=>{ dst:=o.dst,val:=.v undef,dS:=some (u.1,u.2.1,some u.2.2)}
 | .makeMap _ none=>cT o.dst fun d=>some { dst:=some d,val:=.mp d (st.aU d),new:=some (d,[.map []])}
 | .mapUpdate T m x y=>(uA P st T (st.ev m) (st.ev x) (st.ev y)).map fun u=>{ dst:=o.dst,val:=.v undef,dS:=some (u.1,u.2.1,some u.2.2)}
 | .call c=>iS P call c o.dst st
 | op=>(iX P st op).map fun x=>{ dst:=o.dst,val:=x }
def gv (ops:Array Oper) (st:St) (g:Option (Nat × Bool)):Option Bool :=
 match g with
 | none=>some true
 | some (j,want) =>
   match (ops[j]?).bind (·.dst) with
   | some d =>
     match st.env d with
     | .v x=>match x with
       | .bool b=>some (b == want)
       | _=>some false
     | _=>none
   | none=>some false
noncomputable def cH (call:Nat→List AV→Option AV) (ops:Array Oper) (o:Oper) (st:St):Option St :=
 match gv ops st o.guard with
 | some b=>if b=true then (dP P call o st).map fun e=>e.apply st else some (st.put o.dst (.v undef))
 | none=>none
noncomputable def Pg (call:Nat→List AV→Option AV) (ops:Array Oper):List Oper→St→Option St
 | [],st=>some st
 | o :: r,st=>cT (cH P call ops o st) (Pg call ops r)
def Gv (o:Oper):Option (Nat × List Operand) :=
 match o.op with
 | .call { callee:=.value (.func g),args,.. }=>if Ext.inl g o.dst=true then some (g,args.toList) else none
 | _=>none
def l8 (o:Oper):Bool:=(Gv o).isNone
def aJP (ops:Array Oper):Bool:=ops.all l8
def sI (ops:Array Oper):Option Nat:=(ops[0]?).bind (·.dst)
def St.back (st:St) (s:St):St:=⟨st.env,s.heap,s.aU⟩
noncomputable def gU (b:Bool) (call:Nat→List AV→Option AV) (inl:Nat→List AV→St→Option (AV × St)) (ops:Array Oper) (o:Oper) (st:St):Option St :=
 match (if b=true then Gv o else none) with
 | some (g,args) =>
   match gv ops st o.guard with
   | some t=>if t=true then (inl g (args.map st.ev) st).map fun r=>(st.back r.2).put o.dst r.1 else some (st.put o.dst (.v undef))
   | none=>none
 | none=>cH P call ops o st
noncomputable def mK (b:Bool) (call:Nat→List AV→Option AV) (inl:Nat→List AV→St→Option (AV × St)) (ops:Array Oper):List Oper→St→Option St
 | [],st=>some st
 | o :: r,st=>cT (gU P b call inl ops o st) (mK b call inl ops r)
def iA (o:Oper):Option (List Nat) :=
 match o.guard with
 | some _=>none
 | none =>
   match o.op with
   | .load _ (.tmp a)=>some [a]
   | .store _ (.tmp a) _=>some [a]
   | .indexAddr _ (.tmp a) _=>some [a]
   | .slice _ (.tmp a) _ _ _=>some [a]
   | .call { callee:=.builtin .len,args,.. } =>
     match args.toList with
     | [.tmp a]=>some [a]
     | _=>none
   | .call { callee:=.builtin .append,args,.. } =>
     match args.toList with
     | [.tmp a,.tmp b]=>some [a,b]
     | _=>none
   | .call { callee:=.value (.func g),args,.. } =>
     match args.toList with
     | .tmp a :: _=>if Ext.mv g=true then some [a] else none
     | _=>none
   | _=>none
def keyOf:AV→Option (Option (Nat × Nat))
 | .ptr s g _=>some (some (s,g))
 | .own s g=>some (some (s,g))
 | .vw s g _ _=>some (some (s,g))
 | .v _=>some none
 | .sl _ _=>some none
 | .cl _ _=>some none
 | .ip _ _=>some none
 | _=>none
def aCs:Option (Option (Nat × Nat))→Option (Option (Nat × Nat))→Prop
 | some (some k),some (some k')=>k≠k'
 | some _,some _=>True
 | _,_=>False
def fK (x y:AV):Prop:=aCs (keyOf x) (keyOf y)
def Mz (s:St) (aS bs:List Nat):Prop:=∀a∈aS,∀b∈bs,fK (s.env a) (s.env b)
def Yk (ops:Array Oper) (s:St) (p:Nat × Nat):Prop :=
 match (ops[p.1]?).bind iA,(ops[p.2]?).bind iA with
 | some aS,some bs=>Mz s aS bs
 | _,_=>False
def qG (ops:Array Oper) (s:St):List (Nat × Nat)→Prop
 | []=>True
 | p :: l=>Yk ops s p∧qG ops s l
inductive Ex where
 | normal
 | exit (id:Nat)
 | ret
def Ex.inBlock (id:Nat):Ex→Ex
 | .exit i=>if i=id then .normal else .exit i
 | e=>e
noncomputable def uY (bi:Bool) (call:Nat→List AV→Option AV) (inl:Nat→List AV→St→Option (AV × St)):Nat→Code→St→Option (Ex × St)
 | 0,_,_=>none
 | n+1,c,st =>
   match c with
   | .skip=>some (.normal,st)
   | .region id ops _=>cT (mK P bi call inl ops ops.toList st) fun s=>if bi=true∧¬qG ops s (Ext.dyn id ops.size (sI ops)) then none else some (.normal,s)
   | .seq a b=>cT (uY bi call inl n a st) fun r=>match r.1 with
     | .normal=>uY bi call inl n b r.2
     | e=>some (e,r.2)
   | .cond c a b =>
     match st.ev c with
     | .v (.bool t)=>if t=true then uY bi call inl n a st else uY bi call inl n b st
     | _=>none
   | .block id b=>cT (uY bi call inl n b st) fun r=>some (r.1.inBlock id,r.2)
   | .loop b=>cT (uY bi call inl n b st) fun r=>match r.1 with
     | .normal=>uY bi call inl n (.loop b) r.2
     | e=>some (e,r.2)
   | .exit id=>some (.exit id,st)
   | .ret=>some (.ret,st)
   | _=>none
def lP (st:St):ResultVar→Option AV
 | .tmp t=>some (st.env t)
 | .cell a T=>cT (qO st (st.env a)) (yQ P T)
noncomputable def Vk (st:St) (x:AV):Option AV :=
 match x with
 | .own s g =>
   match st.heap s g with
   | some (.row e sz n cs)=>if ∀c∈cs,Flat c then some (.uniq e sz n cs) else none
   | _=>none
 | x=>fP st x
noncomputable def Dl (st:St) (x:AV):Option AV :=
 match x with
 | .own s g =>
   match st.heap s g with
   | some (.row _ _ n cs)=>(cM (cs.map (cJ st))).map (.sl n)
   | _=>none
 | x=>cJ st x
noncomputable def Ph (st:St) (x:AV):Option AV :=
 match x with
 | .agg cs=>(cM (cs.map (Dl st))).map .agg
 | x=>Dl st x
noncomputable def Dm (st:St) (x:AV):Option AV :=
 match fP st x with
 | some y=>some y
 | none=>Ph st x
noncomputable def wM (fn:Func) (st:St):Option AV :=
 match fn.results.toList with
 | [r]=>cT (lP P st r) (Vk st)
 | rs=>(cM (rs.map fun r=>cT (lP P st r) (Dm st))).map .eG
noncomputable def kM (st:St) (x:AV):Option AV :=
 if Flat x then some x else
 match x with
 | .own s g =>
   match st.heap s g with
   | some (.row e sz n cs)=>if ∀c∈cs,Flat c then some (.uniq e sz n cs) else none
   | _=>none
 | _=>none
noncomputable def sF (st:St):AV→Option AV
 | .agg cs=>(cM (cs.map (kM st))).map .agg
 | x=>kM st x
noncomputable def Dn (st:St):AV→Option AV
 | .eG vs=>(cM (vs.map (sF st))).map .eG
 | x=>sF st x
noncomputable def Pj (fn:Func) (st:St):Option AV :=
 match fn.results.toList with
 | [r]=>cT (lP P st r) fun x=>if (lW x).Nodup then Dn st x else none
 | rs=>cT (cM (rs.map fun r=>lP P st r)) fun xs=>if (lW (.eG xs)).Nodup then Dn st (.eG xs) else none
noncomputable def jT (f:Nat) (fn:Func) (st:St):Option AV:=if Ext.qL f=true then Pj P fn st else wM P fn st
def St.init (xs:List AV):St:=⟨fun t=>(xs[t]?).getD (.v undef),fun _ _=>none,fun _=>0⟩
def mR (ops:Array Oper) (o:Oper):Nat:= -- 0: touches no memory · 1: reads · 2: makes memory · 3: writes
 match o.op with
 | .load ..=>1
 | .indexAddr ..=>1
 | .slice ..=>1
 | .alloc _|.box .. | .buildSlice .. | .makeSlice .. | .makeMap ..=>2
 | .store ..=>3
 | .mapUpdate ..=>3
 | .lookup ..=>1
 | .call { callee:=.builtin .append,args,.. }=>match args.toList with
   | .const (.slice none 0 0) :: _=>1
   | _=>3
 | .call { callee:=.builtin .len,.. }=>1
 | .call { callee:=.builtin .clear,.. }=>3
 | .call { callee:=.value (.func g),args,.. }=>if Ext.eat g o.dst=true then 3 else if Ext.mv g=true then (match args.toList with
   | .const (.slice none 0 0) :: _=>1
   | _=>3) else 1
 | .call _=>1
 | .select ..=>4
 | _=>if ops.size=0 then 0 else 0
def sQ (ops:Array Oper) (x y:Oper):Bool :=
 Oper.apart ops x y &&
 (match mR ops x,mR ops y with
  | 4,_=>false
  | _,4=>false
  | 3,1=>false
  | 1,3=>false
  | 3,3=>false
  | _,_=>true)
def VE (acc:Array Nat) (o:Oper):Nat :=
 o.after.toList.foldl (fun s e=>if Region.binds .any e=true then s ||| 2 ^ e.on ||| acc.getD e.on 0 else s) 0
def forced {α:Type} (n:Nat) (k:Nat→α):α :=
 match n with
 | 0=>k 0
 | m+1=>k (m+1)
def GD:List Oper→Array Nat→Array Nat
 | [],acc=>acc
 | o :: r,acc=>forced (VE acc o) fun n=>GD r (acc.push n)
def wX (b:Array Nat) (i:Nat) (aS:List Nat):List Oper→Nat→Bool
 | [],_=>true
 | o :: r,m=>((match o.dst with | some d=>!aS.contains d | none=>true) || (b.getD i 0).testBit m) && wX b i aS r (m+1)
def IP (ops:Array Oper) (b:Array Nat) (i:Nat) (oi:Oper) (j:Nat) (oj:Oper):Bool :=
 match iA oi,iA oj with
 | some aS,some bs=>Oper.apart ops oi oj && wX b i aS ops.toList 0 && wX b j bs ops.toList 0
 | _,_=>false
def Pk (ops:Array Oper) (dy:List (Nat × Nat)) (b:Array Nat) (j:Nat) (oj:Oper):List Oper→Nat→Bool
 | [],_=>true
 | oi :: r,i=>(decide (j≤i) || (b.getD j 0).testBit i || (l8 oi && l8 oj && (sQ ops oi oj || (dy.contains (i,j) && IP ops b i oi j oj)))) && Pk ops dy b j oj r (i+1)
def IQ (ops:Array Oper) (dy:List (Nat × Nat)) (b:Array Nat):List Oper→Nat→Bool
 | [],_=>true
 | oj :: r,j=>(oj.after.toList.all fun e=>!(Region.binds .any e) || decide (e.on<j)) && Pk ops dy b j oj ops.toList 0 && IQ ops dy b r (j+1)
def Yl (ops:Array Oper) (dy:List (Nat × Nat)):Bool:=IQ ops dy (GD ops.toList #[]) ops.toList 0
def codeOk (bi:Bool) (nt:Nat):Code→Bool
 | .region id ops draw=>(ops.all fun o=>o.dst.all fun d=>decide (d<nt)) && (!draw || (Yl ops (if bi=true then Ext.dyn id ops.size (sI ops) else [])))
 | .seq a b=>codeOk bi nt a && codeOk bi nt b
 | .cond _ a b=>codeOk bi nt a && codeOk bi nt b
 | .block _ b=>codeOk bi nt b
 | .loop b=>codeOk bi nt b
 | _=>true
def oA:Code→Bool
 | .region _ ops draw=>!aJP ops || (draw && !Yl ops [])
 | .seq a b=>oA a || oA b
 | .cond _ a b=>oA a || oA b
 | .block _ b=>oA b
 | .loop b=>oA b
 | _=>false
def GF (bi : Bool) (fn : Func) : Bool := fn.name != "runtime.NumGoroutine" && (match fn.body with | some c => codeOk bi fn.ntmps c | none => false)
def sV (fn:Func):Bool:=GF (match fn.body with|some c=>oA c|none=>false) fn
noncomputable def D9 (call:Nat→List AV→Option AV) (inl:Nat→List AV→St→Option (AV × St)) (n f:Nat) (xs:List AV):Option AV :=
 match P.funcs[f]? with
 | some fn =>
   if sV fn=true then
    match fn.body with
    | some c=>cT (uY P (oA c) call inl n c (St.init xs)) fun r=>match r.1 with
      | .exit _=>none
      | _=>jT P f fn r.2
    | none=>none
   else none
 | none=>none
def St.tH (e sz n:Nat) (cs rest:List AV):St :=
 ⟨fun t=>match t with|0=>.own 0 0|t+1=>(rest[t]?).getD (.v undef),fun s g=>if s=0∧g=0 then some (.row e sz n cs) else none,fun s=>if s=0 then 1 else 0⟩
noncomputable def Kg (fn:Func) (st:St):Option AV :=
 match fn.results.toList with
 | [r] =>
   match lP P st r with
   | some (.own s g) =>
     match st.heap s g with
     | some (.row e sz n cs)=>if ∀c∈cs,iD c then some (.uniq e sz n cs) else none
     | _=>none
   | some (.vw s g 0 k) =>
     match st.heap s g with
     | some (.row e sz n cs)=>if k≤n∧cs.length=n * sz∧∀c∈cs,iD c then some (.uniq e sz k (cs.take (k * sz))) else none
     | _=>none
   | _=>none
 | _=>none
noncomputable def runM (call:Nat→List AV→Option AV) (inl:Nat→List AV→St→Option (AV × St)) (n f e sz m:Nat) (cs rest:List AV):Option AV :=
 match P.funcs[f]? with
 | some fn =>
   if sV fn=true then
    match fn.body with
    | some c=>cT (uY P (oA c) call inl n c (St.tH e sz m cs rest)) fun r=>match r.1 with
      | .exit _=>none
      | _=>Kg P fn r.2
    | none=>none
   else none
 | none=>none
noncomputable def Bp (fn:Func) (st:St):Option AV :=
 match fn.results.toList with
 | [r]=>lP P st r
 | rs=>(cM (rs.map fun r=>lP P st r)).map .eG
noncomputable def E0 (call:Nat→List AV→Option AV) (inl:Nat→List AV→St→Option (AV × St)) (n f:Nat) (xs:List AV) (st:St):Option (AV × St) :=
 match P.funcs[f]? with
 | some fn =>
   if GF true fn=true then
    match fn.body with
    | some c=>cT (uY P true call inl n c ((St.init xs).back st)) fun r=>match r.1 with
      | .exit _=>none
      | _=>(Bp P fn r.2).map fun x=>(x,r.2)
    | none=>none
   else none
 | none=>none
def uB:AV→Bool
 | .uniq _ _ _ _=>true
 | _=>false
def uC:List AV→Option (Nat × Nat × Nat × List AV × List AV)
 | .uniq e sz m cs :: rest=>some (e,sz,m,cs,rest)
 | _=>none
noncomputable def NJ:Nat→(Nat→List AV→Option AV) × (Nat→List AV→St→Option (AV × St))
 | 0=>(Ext.ext,fun _ _ _=>none)
 | n+1=>(fun f xs=>match Ext.ext f xs with
   | some r=>some r
   | none =>
     match uC xs with
     | some u=>runM P (NJ n).1 (NJ n).2 n f u.1 u.2.1 u.2.2.1 u.2.2.2.1 u.2.2.2.2
     | none=>if xs.any uB=true then none else D9 P (NJ n).1 (NJ n).2 n f xs,
  fun f xs st=>E0 P (NJ n).1 (NJ n).2 n f xs st)
noncomputable def Oz (n:Nat):Nat→List AV→Option AV:=(NJ P n).1
noncomputable def Ym (n:Nat):Nat→List AV→St→Option (AV × St):=(NJ P n).2
theorem Yn (f:Nat) (xs:List AV):Oz P 0 f xs=Ext.ext f xs:=rfl
theorem zV (n f:Nat) (xs:List AV):Oz P (n+1) f xs=match Ext.ext f xs with
 | some r=>some r
 | none =>
   match uC xs with
   | some u=>runM P (Oz P n) (Ym P n) n f u.1 u.2.1 u.2.2.1 u.2.2.2.1 u.2.2.2.2
   | none=>if xs.any uB=true then none else D9 P (Oz P n) (Ym P n) n f xs:=rfl
theorem R5 (f:Nat) (xs:List AV) (st:St):Ym P 0 f xs st=none:=rfl
theorem Pl (n f:Nat) (xs:List AV) (st:St):Ym P (n+1) f xs st=E0 P (Oz P n) (Ym P n) n f xs st:=rfl
end ext
end ops
end Go.Ab
end
section
namespace Go.Ab
open Classical
structure Ctx where
 h:Nat→Obj→Prop
 ρ:Nat→Nat→Value
 aU:Nat→Nat
def dI:Value→Option Nat
 | .pointer (some a)=>some a.block
 | .slice (some a) _ (_+1)=>some a.block
 | .map (some r)=>some r
 | _=>none
inductive cY (C:Ctx):AV→Value→Prop
 | v (x:Value):cY C (.v x) x
 | agg (cs:List AV) (a:Array Value) (hl:cs.length=a.size) (h:∀(i:Nat) (x:AV) (y:Value),cs[i]? = some x→a[i]? = some y→cY C x y)
  (h1:∀(i:Nat) (y:Value),a[i]? = some y→y.oneCell'=true):cY C (.agg cs) (.agg a)
 | IS (n cap:Nat) (p:Option Addr) (mZ:n≤cap):cY C (.sl n []) (.slice p n cap)
 | sl (n:Nat) (cs:List AV) (b off cap:Nat) (arr:Array Value) (T:Nat) (fr:Nat × Nat) (mZ:n≤cap) (hb:C.h b (.cells arr T fr)) (hle:off+cs.length≤arr.size)
  (h:∀(i:Nat) (x:AV) (y:Value),cs[i]? = some x→arr[off+i]? = some y→cY C x y)
  (h1:∀(i:Nat) (y:Value),i<cs.length→arr[off+i]? = some y→y.oneCell'=true):cY C (.sl n cs) (.slice (some ⟨b,off,none⟩) n cap)
 | cl0 (n:Nat) (p:Option Addr):cY C (.cl n []) (.slice p n n)
 | cl (n:Nat) (cs:List AV) (b off:Nat) (arr:Array Value) (T:Nat) (fr:Nat × Nat) (hb:C.h b (.cells arr T fr)) (hle:off+cs.length≤arr.size)
  (h:∀(i:Nat) (x:AV) (y:Value),cs[i]? = some x→arr[off+i]? = some y→cY C x y)
  (h1:∀(i:Nat) (y:Value),i<cs.length→arr[off+i]? = some y→y.oneCell'=true):cY C (.cl n cs) (.slice (some ⟨b,off,none⟩) n n)
 | ip (cs:List AV) (o b off:Nat) (arr:Array Value) (T:Nat) (fr:Nat × Nat) (hb:C.h b (.cells arr T fr)) (hle:off+cs.length≤arr.size)
  (h:∀(i:Nat) (x:AV) (y:Value),cs[i]? = some x→arr[off+i]? = some y→cY C x y)
  (h1:∀(i:Nat) (y:Value),i<cs.length→arr[off+i]? = some y→y.oneCell'=true):cY C (.ip cs o) (.pointer (some ⟨b,off+o,none⟩))
 | ptr (s g off b:Nat) (hg:g<C.aU s) (hb:dI (C.ρ s g)=some b):cY C (.ptr s g off) (.pointer (some ⟨b,off,none⟩))
 | own (s g:Nat) (hg:g<C.aU s) (ho:(C.ρ s g).oneCell'=true):cY C (.own s g) (C.ρ s g)
 | mp (s g:Nat) (hg:g<C.aU s) (ho:(C.ρ s g).oneCell'=true):cY C (.mp s g) (C.ρ s g)
 | vw (s g o n b cap:Nat) (hg:g<C.aU s) (hb:dI (C.ρ s g)=some b) (mZ:n≤cap) (zW:o=0→∀p n0 c0,C.ρ s g=.slice p n0 c0→cap=c0):cY C (.vw s g o n) (.slice (some ⟨b,o,none⟩) n cap)
 | rW (f:Nat) (cs:List AV) (a:Array Value) (hl:cs.length=a.size) (h:∀(i:Nat) (x:AV) (y:Value),cs[i]? = some x→a[i]? = some y→cY C x y) :
  cY C (.rW f cs) (.func (.func f) #[] a)
 | eG (cs:List AV) (a:Array Value) (hl:cs.length=a.size) (h:∀(i:Nat) (x:AV) (y:Value),cs[i]? = some x→a[i]? = some y→cY C x y) :
  cY C (.eG cs) (.tuple a)
structure Ctx.Le (C D:Ctx):Prop where
 h:∀b o,C.h b o→D.h b o
 aU:∀s,C.aU s≤D.aU s
 ρ:∀s g,g<C.aU s→D.ρ s g=C.ρ s g
theorem Ctx.Le.refl (C:Ctx):C.Le C:=⟨fun _ _ h=>h,fun _=>Nat.le_refl _,fun _ _ _=>rfl⟩
theorem Ctx.Le.trans {C D E:Ctx} (h:C.Le D) (k:D.Le E):C.Le E :=
 ⟨fun b o x=>k.h b o (h.h b o x),fun s=>Nat.le_trans (h.aU s) (k.aU s),fun s g x=>(k.ρ s g (Nat.lt_of_lt_of_le x (h.aU s))).trans (h.ρ s g x)⟩
theorem cY.le {C D:Ctx} {x:AV} {y:Value} (hr:cY C x y) (k:C.Le D):cY D x y:=by
 induction hr with
 | v x=>exact .v x
 | agg cs a hl _ h1 ih=>exact .agg cs a hl ih h1
 | IS n cap p mZ=>exact .IS n cap p mZ
 | sl n cs b off cap arr T fr mZ hb hle _ h1 ih=>exact .sl n cs b off cap arr T fr mZ (k.h _ _ hb) hle ih h1
 | cl0 n p=>exact .cl0 n p
 | cl n cs b off arr T fr hb hle _ h1 ih=>exact .cl n cs b off arr T fr (k.h _ _ hb) hle ih h1
 | ip cs o b off arr T fr hb hle _ h1 ih=>exact .ip cs o b off arr T fr (k.h _ _ hb) hle ih h1
 | ptr s g off b hg hb=>exact .ptr s g off b (Nat.lt_of_lt_of_le hg (k.aU s)) (by rw[k.ρ s g hg];exact hb)
 | own s g hg ho=>rw[← k.ρ s g hg];exact .own s g (Nat.lt_of_lt_of_le hg (k.aU s)) (by rw[k.ρ s g hg];exact ho)
 | vw s g o n b cap hg hb mZ zW=>exact .vw s g o n b cap (Nat.lt_of_lt_of_le hg (k.aU s)) (by rw[k.ρ s g hg];exact hb) mZ (by rw[k.ρ s g hg];exact zW)
 | mp s g hg ho=>rw[← k.ρ s g hg];exact .mp s g (Nat.lt_of_lt_of_le hg (k.aU s)) (by rw[k.ρ s g hg];exact ho)
 | rW f cs a hl _ ih=>exact .rW f cs a hl ih
 | eG cs a hl _ ih=>exact .eG cs a hl ih
structure gD (C:Ctx) (cs:List AV) (ys:List Value):Prop where
 len:cs.length=ys.length
 rel:∀(i:Nat) (x:AV) (y:Value),cs[i]? = some x→ys[i]? = some y→cY C x y
 one:∀(i:Nat) (y:Value),ys[i]? = some y→y.oneCell'=true
structure lQ (C:Ctx) (cs:List AV) (ys:List Value):Prop where
 len:cs.length=ys.length
 rel:∀(i:Nat) (x:AV) (y:Value),cs[i]? = some x→ys[i]? = some y→cY C x y
theorem gD.le {C D:Ctx} {cs:List AV} {ys:List Value} (h:gD C cs ys) (k:C.Le D):gD D cs ys:=⟨h.len,fun i x y hx hy=>(h.rel i x y hx hy).le k,h.one⟩
theorem lQ.le {C D:Ctx} {cs:List AV} {ys:List Value} (h:lQ C cs ys) (k:C.Le D):lQ D cs ys:=⟨h.len,fun i x y hx hy=>(h.rel i x y hx hy).le k⟩
theorem gD.aCt {C:Ctx} {cs:List AV} {ys:List Value} (h:gD C cs ys):lQ C cs ys:=⟨h.len,h.rel⟩
theorem gD.nil (C:Ctx):gD C [] []:=⟨rfl,by simp,by simp⟩
theorem lQ.nil (C:Ctx):lQ C [] []:=⟨rfl,by simp⟩
theorem lQ.cons {C:Ctx} {x:AV} {y:Value} {cs:List AV} {ys:List Value} (h:cY C x y) (k:lQ C cs ys):lQ C (x :: cs) (y :: ys) :=
 ⟨by simp[k.len],fun i a b ha hb=>by
  cases i with
  | zero=>simp at ha hb;subst ha;subst hb;exact h
  | succ i=>exact k.rel i a b (by simpa using ha) (by simpa using hb)⟩
theorem lQ.head {C:Ctx} {x:AV} {y:Value} {cs:List AV} {ys:List Value} (k:lQ C (x :: cs) (y :: ys)):cY C x y:=k.rel 0 x y rfl rfl
theorem lQ.tail {C:Ctx} {x:AV} {y:Value} {cs:List AV} {ys:List Value} (k:lQ C (x :: cs) (y :: ys)):lQ C cs ys :=
 ⟨by simpa using k.len,fun i a b ha hb=>k.rel (i+1) a b (by simpa using ha) (by simpa using hb)⟩
theorem lQ.app {C:Ctx} {cs ds:List AV} {ys zs:List Value} (h:lQ C cs ys) (k:lQ C ds zs):lQ C (cs++ds) (ys++zs):=by
 induction cs generalizing ys with
 | nil=>cases ys with
   | nil=>exact k
   | cons y ys=>have:=h.len;simp at this
 | cons c cs ih=>cases ys with
   | nil=>have:=h.len;simp at this
   | cons y ys=>exact lQ.cons h.head (ih h.tail)
theorem lQ.map {C:Ctx} {α:Type} (l:List α) (f:α→AV) (g:α→Value) (h:∀a∈l,cY C (f a) (g a)):lQ C (l.map f) (l.map g):=by
 induction l with
 | nil=>exact .nil C
 | cons a l ih=>exact .cons (h a (by simp)) (ih fun b hb=>h b (by simp[hb]))
theorem gD.app {C:Ctx} {cs ds:List AV} {ys zs:List Value} (h:gD C cs ys) (k:gD C ds zs):gD C (cs++ds) (ys++zs) :=
 ⟨(h.aCt.app k.aCt).len,(h.aCt.app k.aCt).rel,fun i y hy=>by
  rw[List.getElem?_append] at hy;split at hy
  ·exact h.one _ _ hy
  ·exact k.one _ _ hy⟩
theorem gD.take {C:Ctx} {cs:List AV} {ys:List Value} (h:gD C cs ys) (n:Nat):gD C (cs.take n) (ys.take n):=by
 refine⟨by simp[h.len],fun i x y hx hy=>?_,fun i y hy=>?_⟩
 ·rw[List.getElem?_take] at hx hy;by_cases hi:i<n
  ·rw[if_pos hi] at hx hy;exact h.rel i x y hx hy
  ·rw[if_neg hi] at hx;cases hx
 ·rw[List.getElem?_take] at hy;by_cases hi:i<n
  ·rw[if_pos hi] at hy;exact h.one i y hy
  ·rw[if_neg hi] at hy;cases hy
theorem gD.drop {C:Ctx} {cs:List AV} {ys:List Value} (h:gD C cs ys) (n:Nat):gD C (cs.drop n) (ys.drop n) :=
 ⟨by simp[h.len],fun i x y hx hy=>by rw[List.getElem?_drop] at hx hy;exact h.rel _ x y hx hy,fun i y hy=>by rw[List.getElem?_drop] at hy;exact h.one _ y hy⟩
theorem gD.vs (C:Ctx) (l:List Value) (h1:∀y∈l,y.oneCell'=true):gD C (l.map .v) l :=
 ⟨by simp,fun i x y hx hy=>by
  rw[List.getElem?_map,hy] at hx;simp at hx;subst hx;exact .v y,fun i y hy=>h1 y (List.mem_of_getElem? hy)⟩
theorem gD.single {C:Ctx} {x:AV} {y:Value} (h:cY C x y) (h1:y.oneCell'=true):gD C [x] [y] :=
 ⟨rfl,fun i a b ha hb=>by
  cases i with
  | zero=>simp at ha hb;subst ha;subst hb;exact h
  | succ i=>simp at ha,fun i b hb=>by
  cases i with
  | zero=>simp at hb;subst hb;exact h1
  | succ i=>simp at hb⟩
theorem Value.E1 {y:Value} (h:y.oneCell'=true):y.cells=#[y]:=by
 cases y<;>first|rfl|(simp[Value.oneCell'] at h;done)
theorem cY.NK {C:Ctx} {x:AV} {y:Value} (h:cY C x y) (hs:x.jE=true) (hn:∀cs,x≠.agg cs):y.oneCell'=true:=by
 cases h with
 | v=>exact hs
 | agg cs a hl h h1=>exact absurd rfl (hn cs)
 | own s g hg ho=>exact ho
 | mp s g hg ho=>exact ho
 | eG cs a hl h=>simp[AV.jE] at hs
 | _=>rfl
theorem cY.cells {C:Ctx} {x:AV} {y:Value} (h:cY C x y) (hs:x.jE=true):gD C x.cells y.cells.toList:=by
 by_cases hn:∃cs,x=.agg cs
 ·obtain⟨cs,rfl⟩:=hn
  cases h with
  | agg cs a hl h h1=>exact⟨by simpa [AV.cells,Value.cells] using hl,fun i x y hx hy=>h i x y (by simpa [AV.cells] using hx) (by simpa [Value.cells] using hy),fun i y hy=>h1 i y (by simpa [Value.cells] using hy)⟩
 ·have Hu:∀cs,x≠.agg cs:=fun cs e=>hn ⟨cs,e⟩
  have h1:=h.NK hs Hu
  have hx:x.cells=[x]:=by
   cases x<;>first|rfl|exact absurd rfl (Hu _)
  rw[hx,Value.E1 h1];exact .single h h1
def oD (w:World) (base e sz:Nat) (v:Value) (n:Nat) (xs:List Value):Prop :=
 xs.length=n * sz∧((∃p,v=.slice p 0 0∧n=0) ∨
  ∃g cap cur,v=.slice (some ⟨g,0,none⟩) n cap∧base≤g∧w.heap[g]? = some (.cells cur e (0,0))∧n≤cap∧cap≤maxLen∧cur.size=cap * sz∧cur.toList.take (n * sz)=xs∧0<cap)
theorem kI {a:Addr} {n cap:Nat} (h:0<cap):dI (.slice (some a) n cap)=some a.block:=by
 cases cap with
 | zero=>omega
 | succ c=>rfl
theorem pV (p:Option Addr) (n:Nat):dI (.slice p n 0)=none:=by cases p<;>rfl
theorem Hz {w:World} {base e sz:Nat} {v:Value} {n:Nat} {xs:List Value} (h:w.ownsRow base e sz v n xs):oD w base e sz v n xs:=by
 refine⟨h.1, ?_⟩
 rcases h.2 with ⟨rfl,rfl⟩|⟨g,cap,cur,rfl,h1,h2,h3,h4,h5,h6⟩
 ·exact .inl ⟨none,rfl,rfl⟩
 ·by_cases hc:cap=0
  ·subst hc;have:n=0:=by omega
   subst this;exact .inl ⟨_,rfl,rfl⟩
  ·exact .inr ⟨g,cap,cur,rfl,h1,h2,h3,h4,h5,h6,by omega⟩
theorem zX {w:World} {b b' e sz n:Nat} {v:Value} {xs:List Value} (h:oD w b e sz v n xs) (hb:b'≤b):oD w b' e sz v n xs :=
 ⟨h.1,h.2.imp id fun ⟨g,cap,cur,h1,h2,h3⟩=>⟨g,cap,cur,h1,Nat.le_trans hb h2,h3⟩⟩
theorem Dp {w:World} {base e sz n:Nat} {v:Value} {xs:List Value} (h:oD w base e sz v n xs):∀b,dI v=some b→base≤b∧b<w.heap.size:=by
 intro b hb;rcases h.2 with ⟨p,rfl,_⟩|⟨g,cap,cur,rfl,h1,h2,_,_,_,_,hc⟩
 ·rw[pV] at hb;cases hb
 ·rw[kI hc] at hb;simp only[Option.some.injEq] at hb;subst hb;exact⟨h1,(Array.getElem?_eq_some_iff.1 h2).1⟩
theorem tI {w:World} {base e sz n:Nat} {v:Value} {xs:List Value} (h:oD w base e sz v n xs):v.oneCell'=true:=by
 rcases h.2 with ⟨p,rfl,_⟩|⟨g,cap,cur,rfl,_⟩<;>rfl
theorem oD.kept {w w':World} {base e sz n:Nat} {v:Value} {xs:List Value} {row:Option Nat} (h:oD w base e sz v n xs) (hg:w.grownBy w' row) (fQ:dI v=none∨dI v≠row):oD w' base e sz v n xs:=by
 refine⟨h.1, ?_⟩
 rcases h.2 with h|⟨g,cap,cur,rfl,h1,h2,h3,h4,h5,h6,hc⟩
 ·exact .inl h
 ·refine .inr ⟨g,cap,cur,rfl,h1, ?_,h3,h4,h5,h6,hc⟩
  rw[kI hc] at fQ;rw[hg.block g (Array.getElem?_eq_some_iff.1 h2).1 (by rcases fQ with h|h;cases h;exact h)]
  exact h2
def Yo (C:Ctx):List (AV × AV)→List MapEntry→Prop
 | [],[]=>True
 | p :: es,m :: ms=>cY C p.1 m.key∧cY C p.2 m.val∧Yo C es ms
 | _,_=>False
theorem Yo.le {C D:Ctx} (k:C.Le D):∀ {es:List (AV × AV)} {ms:List MapEntry},Yo C es ms→Yo D es ms
 | [],[],_=>trivial
 | _ :: _,_ :: _,h=>⟨h.1.le k,h.2.1.le k,Yo.le k h.2.2⟩
 | [],_ :: _,h=>h.elim
 | _ :: _,[],h=>h.elim
def nG (C:Ctx) (w:World) (base:Nat) (v:Value):nP→Prop
 | .cells cs=>∃b arr T,v=.pointer (some ⟨b,0,none⟩)∧base≤b∧w.heap[b]? = some (.cells arr T (0,0))∧gD C cs arr.toList
 | .row e sz n cs=>∃xs,oD w base e sz v n xs∧gD C cs xs
 | .map es=>∃b arr clock,v=.map (some b)∧base≤b∧w.heap[b]? = some (.map arr clock)∧Yo C es arr.toList
def ctx (h0:Nat→Obj→Prop) (w0:World) (ρ:Nat→Nat→Value) (st:St) (w:World):Ctx where
 h:=fun b o=>w.heap[b]? = some o∧(b<w0.heap.size→h0 b o)∧∀s g e,st.heap s g=some e→dI (ρ s g)≠some b
 ρ:=ρ
 aU:=st.aU
structure Gw where
 fr:AV→Value→Prop
 hb:Nat→Obj→Prop
 sz:Nat
def Gw.none:Gw:=⟨fun _ _=>False,fun _ _=>False,0⟩
structure kY (F:Gw) (h0:Nat→Obj→Prop) (w0:World) (nt:Nat) (ρ:Nat→Nat→Value) (st:St) (a:Act) (w:World):Prop where
 env:∀t,cY (ctx h0 w0 ρ st w) (st.env t) (a.tmps.getD t undef)
 sR:∀s g e,st.heap s g=some e→g<st.aU s∧(ρ s g).oneCell'=true∧nG (ctx h0 w0 ρ st w) w w0.heap.size (ρ s g) e
 inj:∀s g s' g' e e' b,st.heap s g=some e→st.heap s' g'=some e'→dI (ρ s g)=some b→dI (ρ s' g')=some b→s=s'∧g=g'
 ext:w0.grownBy w none
 size:nt≤a.tmps.size
 defers:a.defers=[]
 Pa:(∀x v,F.fr x v→cY (ctx h0 w0 ρ st w) x v)∧(∀b o,F.hb b o→(ctx h0 w0 ρ st w).h b o)∧F.sz≤w.heap.size
section
variable {h0:Nat→Obj→Prop} {w0:World} {F:Gw} {nt:Nat} {ρ:Nat→Nat→Value} {st:St} {a:Act} {w:World}
theorem Xp (d:Option Nat) (x:AV):ctx h0 w0 ρ (st.put d x) w=ctx h0 w0 ρ st w:=by cases d<;>rfl
theorem Yp (d:Option Nat) (x:AV):(st.put d x).heap=st.heap:=by cases d<;>rfl
theorem NL (st:St) (d:Nat) (x:nP) (s g:Nat):(st.new d x).heap s g=if s=d∧g=st.aU d then some x else st.heap s g:=rfl
theorem E2 (st:St) (s0 g0:Nat) (x:Option nP) (s g:Nat):(st.jC s0 g0 x).heap s g=if s=s0∧g=g0 then x else st.heap s g:=rfl
theorem l9 (d:Option Nat) (x:AV):(st.put d x).aU=st.aU:=by cases d<;>rfl
theorem kY.put (S:kY F h0 w0 nt ρ st a w) (d:Option Nat) {x:AV} {v:Value} (hd:∀t,d=some t→t<nt) (h:cY (ctx h0 w0 ρ st w) x v) :
 kY F h0 w0 nt ρ (st.put d x) (a.put d v) w:=by
 refine⟨fun t=>?_,fun s g e he=>?_,fun s g s' g' e e' b he Be=>?_,S.ext, ?_, ?_,⟨fun x v h=>by rw[Xp];exact S.Pa.1 x v h,fun b o h=>by rw[Xp];exact S.Pa.2.1 b o h,S.Pa.2.2⟩⟩
 ·rw[Xp];cases d with
  | none=>exact S.env t
  | some d =>
    have bA:d<a.tmps.size:=Nat.lt_of_lt_of_le (hd d rfl) S.size
    simp only[St.put,Act.put];by_cases htd:t=d
    ·subst htd;rw[if_pos rfl];simp[bA]
     exact h
    ·rw[if_neg htd];have:(a.tmps.setIfInBounds d v).getD t undef=a.tmps.getD t undef:=by
      simp[Array.getElem?_setIfInBounds_ne (Ne.symm htd)]
     rw[this];exact S.env t
 ·rw[Yp] at he;rw[Xp,l9];exact S.sR s g e he
 ·rw[Yp] at he Be;exact S.inj s g s' g' e e' b he Be
 ·cases d<;>simp[Act.put,S.size]
 ·cases d<;>exact S.defers
theorem wY {w w1 w2:World} {r:Option Nat} (h:w.grownBy w1 none) (k:w1.grownBy w2 r) (hr:∀b,r=some b→w.heap.size≤b):w.grownBy w2 none :=
 ⟨k.os.trans h.os,k.tape.trans h.tape,k.output.trans h.output,Nat.le_trans h.size k.size,fun b hb _=>by
  rw[k.block b (Nat.lt_of_lt_of_le hb h.size) (fun e=>by have:=hr b e.symm;omega)]
  exact h.block b hb (by simp)⟩
theorem nG.world {C D:Ctx} {w w':World} {base:Nat} {v:Value} {e:nP} {r:Option Nat} (h:nG C w base v e) (k:C.Le D) (hg:w.grownBy w' r) (hr:dI v=none∨dI v≠r):nG D w' base v e:=by
 cases e with
 | cells cs =>
   obtain⟨b,arr,T,rfl,hb,hh,hc⟩:=h
   refine⟨b,arr,T,rfl,hb, ?_,hc.le k⟩
   have fQ:some b≠r:=by
    rcases hr with hr|hr
    ·simp[dI] at hr
    ·simpa [dI] using hr
   rw[hg.block b (Array.getElem?_eq_some_iff.1 hh).1 fQ];exact hh
 | row e sz n cs =>
   obtain⟨xs,ho,hc⟩:=h
   exact⟨xs,ho.kept hg hr,hc.le k⟩
 | map es =>
   obtain⟨b,arr,clock,rfl,hb,hh,hc⟩:=h
   refine⟨b,arr,clock,rfl,hb, ?_,hc.le k⟩
   have fQ:some b≠r:=by
    rcases hr with hr|hr
    ·simp[dI] at hr
    ·simpa [dI] using hr
   rw[hg.block b (Array.getElem?_eq_some_iff.1 hh).1 fQ];exact hh
theorem nG.UQ {C:Ctx} {w:World} {base:Nat} {v:Value} {e:nP} (h:nG C w base v e):∀b,dI v=some b→base≤b∧b<w.heap.size:=by
 intro b hb;cases e with
 | cells cs =>
   obtain⟨b',arr,T,rfl,oB,hh,hc⟩:=h
   simp[dI] at hb;subst hb;exact⟨oB,(Array.getElem?_eq_some_iff.1 hh).1⟩
 | row e sz n cs =>
   obtain⟨xs,ho,hc⟩:=h
   exact Dp ho b hb
 | map es =>
   obtain⟨b',arr,clock,rfl,oB,hh,_⟩:=h
   simp[dI] at hb;subst hb;exact⟨oB,(Array.getElem?_eq_some_iff.1 hh).1⟩
theorem kY.grow (S:kY F h0 w0 nt ρ st a w) {w':World} (hg:w.grownBy w' none):kY F h0 w0 nt ρ st a w'∧(ctx h0 w0 ρ st w).Le (ctx h0 w0 ρ st w'):=by
 have k:(ctx h0 w0 ρ st w).Le (ctx h0 w0 ρ st w'):=⟨fun b o hb=>⟨by
  rw[hg.block b (Array.getElem?_eq_some_iff.1 hb.1).1 (by simp)];exact hb.1,hb.2.1,hb.2.2⟩,fun _=>Nat.le_refl _,fun _ _ _=>rfl⟩
 exact⟨⟨fun t=>(S.env t).le k,fun s g e he=>⟨(S.sR s g e he).1,(S.sR s g e he).2.1,(S.sR s g e he).2.2.world k hg (by cases dI (ρ s g)<;>simp)⟩,S.inj,wY S.ext hg (by simp),S.size,S.defers,⟨fun x v h=>(S.Pa.1 x v h).le k,fun b o h=>k.h b o (S.Pa.2.1 b o h),Nat.le_trans S.Pa.2.2 hg.size⟩⟩,k⟩
def uD (ρ:Nat→Nat→Value) (d g:Nat) (v:Value):Nat→Nat→Value:=fun s' g'=>if s'=d∧g'=g then v else ρ s' g'
theorem jU (S:kY F h0 w0 nt ρ st a w) {s g:Nat} {e:nP} (he:st.heap s g=some e) {b:Nat} (hb:w.heap.size≤b):dI (ρ s g)≠some b:=by
 intro h;have:=((S.sR s g e he).2.2.UQ b h).2
 omega
def Gx (ρ:Nat→Nat→Value) (d c:Nat) (vs:List Value):Nat→Nat→Value:=fun s' g'=>if s'=d∧c≤g'∧g' - c<vs.length then vs.getD (g' - c) undef else ρ s' g'
theorem kY.news (S:kY F h0 w0 nt ρ st a w) {w':World} (hg:w.grownBy w' none) (d:Nat) (xs:List nP) (vs:List Value) (hl:xs.length=vs.length) (h1:∀v∈vs,v.oneCell'=true)
 (zY:∀v∈vs,∀b,dI v=some b→w.heap.size≤b)
 (hinj:∀(i j:Nat) (x y:Value) (b:Nat),vs[i]? = some x→vs[j]? = some y→dI x=some b→dI y=some b→i=j)
 (hx:∀C,(ctx h0 w0 ρ st w).Le C→(∀b o,w.heap.size≤b→w'.heap[b]? = some o→(∀v∈vs,dI v≠some b)→C.h b o) →
  (∀(i:Nat) (x:Value),vs[i]? = some x→st.aU d+i<C.aU d∧C.ρ d (st.aU d+i)=x)→∀(i:Nat) (e:nP) (x:Value),xs[i]? = some e→vs[i]? = some x→nG C w' w0.heap.size x e) :
 kY F h0 w0 nt (Gx ρ d (st.aU d) vs) (st.news d xs) a w'∧(ctx h0 w0 ρ st w).Le (ctx h0 w0 (Gx ρ d (st.aU d) vs) (st.news d xs) w') ∧
  (∀b o,w.heap.size≤b→w'.heap[b]? = some o→(∀v∈vs,dI v≠some b)→(ctx h0 w0 (Gx ρ d (st.aU d) vs) (st.news d xs) w').h b o) ∧
  (∀(i:Nat) (x:Value),vs[i]? = some x→st.aU d+i<(st.news d xs).aU d∧Gx ρ d (st.aU d) vs d (st.aU d+i)=x):=by
 have hold:∀s g,g<st.aU s→Gx ρ d (st.aU d) vs s g=ρ s g:=fun s g bA=>by
  unfold Gx;rw[if_neg];rintro⟨rfl,h,_⟩
  omega
 have hcd:(st.news d xs).aU d=st.aU d+xs.length:=by simp[St.news]
 have pA:∀(i:Nat) (x:Value),vs[i]? = some x→st.aU d+i<(st.news d xs).aU d∧Gx ρ d (st.aU d) vs d (st.aU d+i)=x:=fun i x hi=>by
  have bA:i<vs.length:=(List.getElem?_eq_some_iff.1 hi).1
  refine⟨by rw[hcd];omega, ?_⟩
  unfold Gx;rw[if_pos ⟨rfl,by omega,by omega⟩,show st.aU d+i-st.aU d=i by omega]
  simp[List.getD_eq_getElem?_getD,hi]
 have Me:∀s g e,(st.news d xs).heap s g=some e→(∃i x,s=d∧g=st.aU d+i∧xs[i]? = some e∧vs[i]? = some x)∨st.heap s g=some e:=fun s g e he=>by
  simp only[St.news] at he;split at he
  ·rename_i hc;obtain⟨rfl,c1,c2⟩:=hc
   exact .inl ⟨g-st.aU s,vs[g-st.aU s]'(by omega),rfl,by omega,he,by simp⟩
  ·exact .inr he
 have k:(ctx h0 w0 ρ st w).Le (ctx h0 w0 (Gx ρ d (st.aU d) vs) (st.news d xs) w'):=by
  refine⟨fun b o hb=>⟨?_,hb.2.1,fun s g e he=>?_⟩,fun s=>?_,hold⟩
  ·rw[hg.block b (Array.getElem?_eq_some_iff.1 hb.1).1 (by simp)];exact hb.1
  ·rcases Me s g e he with ⟨i,x,rfl,rfl,_,hi⟩|he
   ·rw[(pA i x hi).2];intro hbv;have:=zY x (List.mem_of_getElem? hi) b hbv
    have:=(Array.getElem?_eq_some_iff.1 hb.1).1
    omega
   ·rw[hold s g (S.sR s g e he).1];exact hb.2.2 s g e he
  ·simp only[ctx,St.news];split
   ·rename_i h;subst h;omega
   ·exact Nat.le_refl _
 have hh:∀b o,w.heap.size≤b→w'.heap[b]? = some o→(∀v∈vs,dI v≠some b)→(ctx h0 w0 (Gx ρ d (st.aU d) vs) (st.news d xs) w').h b o:=fun b o hb ho fQ =>
  ⟨ho,fun bA=>by have:=S.ext.size;omega,fun s g e he=>by
   rcases Me s g e he with ⟨i,x,rfl,rfl,_,hi⟩|he
   ·rw[(pA i x hi).2];exact fQ x (List.mem_of_getElem? hi)
   ·rw[hold s g (S.sR s g e he).1];exact jU S he hb⟩
 refine⟨⟨fun t=>(S.env t).le k,fun s g e he=>?_,fun s g s' g' e e' b he Be hb oB=>?_,wY S.ext hg (by simp),S.size,S.defers,⟨fun x v h=>(S.Pa.1 x v h).le k,fun b o h=>k.h b o (S.Pa.2.1 b o h),Nat.le_trans S.Pa.2.2 hg.size⟩⟩,k,hh,pA⟩
 ·rcases Me s g e he with ⟨i,x,rfl,rfl,hxi,hi⟩|he
  ·refine⟨(pA i x hi).1,by rw[(pA i x hi).2];exact h1 x (List.mem_of_getElem? hi), ?_⟩
   rw[(pA i x hi).2];exact hx _ k hh pA i e x hxi hi
  ·obtain⟨e1,e2,e3⟩:=S.sR s g e he
   refine⟨by simp only[St.news];split<;>(try subst_vars)<;>omega,by rw[hold s g e1];exact e2, ?_⟩
   rw[hold s g e1];exact e3.world k hg (by cases dI (ρ s g)<;>simp)
 ·rcases Me s g e he with ⟨i,x,rfl,rfl,_,hi⟩|hq<;>rcases Me s' g' e' Be with ⟨j,y,rfl,rfl,_,hj⟩|hq'
  ·rw[(pA i x hi).2] at hb;rw[(pA j y hj).2] at oB
   exact⟨rfl,by rw[hinj i j x y b hi hj hb oB]⟩
  ·rw[(pA i x hi).2] at hb;rw[hold s' g' (S.sR s' g' e' hq').1] at oB
   exact absurd oB (jU S hq' (zY x (List.mem_of_getElem? hi) b hb))
  ·rw[(pA j y hj).2] at oB
   rw[hold s g (S.sR s g e hq).1] at hb;exact absurd hb (jU S hq (zY y (List.mem_of_getElem? hj) b oB))
  ·rw[hold s g (S.sR s g e hq).1] at hb;rw[hold s' g' (S.sR s' g' e' hq').1] at oB
   exact S.inj s g s' g' e e' b hq hq' hb oB
theorem Yq (st:St) (d:Nat) (e:nP):st.news d [e]=st.new d e:=by
 unfold St.news St.new;congr 1
 funext s g
 by_cases h:s=d∧g=st.aU d
 ·obtain⟨rfl,rfl⟩:=h
  simp
 ·rw[if_neg h];split
  ·rename_i hc;exact absurd ⟨hc.1,by simp at hc;omega⟩ h
  ·rfl
theorem kY.new (S:kY F h0 w0 nt ρ st a w) {w':World} (hg:w.grownBy w' none) (d:Nat) (x:nP) (v:Value) (h1:v.oneCell'=true)
 (zY:∀b,dI v=some b→w.heap.size≤b)
 (hx:∀C,(ctx h0 w0 ρ st w).Le C→(∀b o,w.heap.size≤b→w'.heap[b]? = some o→dI v≠some b→C.h b o)→nG C w' w0.heap.size v x) :
 kY F h0 w0 nt (uD ρ d (st.aU d) v) (st.new d x) a w'∧(ctx h0 w0 ρ st w).Le (ctx h0 w0 (uD ρ d (st.aU d) v) (st.new d x) w')∧uD ρ d (st.aU d) v d (st.aU d)=v:=by
 have hold:∀s g,g<st.aU s→uD ρ d (st.aU d) v s g=ρ s g:=fun s g bA=>by
  unfold uD;rw[if_neg];rintro⟨rfl,rfl⟩
  omega
 have pA:uD ρ d (st.aU d) v d (st.aU d)=v:=by simp[uD]
 have k:(ctx h0 w0 ρ st w).Le (ctx h0 w0 (uD ρ d (st.aU d) v) (st.new d x) w'):=by
  refine⟨fun b o hb=>⟨?_,hb.2.1,fun s g e he=>?_⟩,fun s=>?_,hold⟩
  ·rw[hg.block b (Array.getElem?_eq_some_iff.1 hb.1).1 (by simp)];exact hb.1
  ·simp only[St.new] at he;split at he
   ·rename_i VF;obtain⟨rfl,rfl⟩:=VF
    rw[pA];intro hbv;have:=zY b hbv
    have:=(Array.getElem?_eq_some_iff.1 hb.1).1
    omega
   ·rw[hold s g (S.sR s g e he).1];exact hb.2.2 s g e he
  ·simp only[ctx,St.new];split
   ·rename_i h;subst h;omega
   ·exact Nat.le_refl _
 refine⟨⟨fun t=>(S.env t).le k,fun s g e he=>?_,fun s g s' g' e e' b he Be hb oB=>?_,wY S.ext hg (by simp),S.size,S.defers,⟨fun x v h=>(S.Pa.1 x v h).le k,fun b o h=>k.h b o (S.Pa.2.1 b o h),Nat.le_trans S.Pa.2.2 hg.size⟩⟩,k,pA⟩
 ·simp only[St.new] at he;split at he
  ·rename_i VF;obtain⟨rfl,rfl⟩:=VF
   cases he
   refine⟨by simp[St.new],by rw[pA];exact h1, ?_⟩
   rw[pA];refine hx _ k fun b o hb ho fQ=>⟨ho,fun bA=>by have:=S.ext.size;omega,fun s2 g2 e2 he2=>?_⟩
   rw[NL] at he2;by_cases VF:s2=s∧g2=st.aU s
   ·obtain⟨rfl,rfl⟩:=VF
    rw[pA];exact fQ
   ·rw[if_neg VF] at he2;rw[hold s2 g2 (S.sR s2 g2 e2 he2).1];exact jU S he2 hb
  ·obtain⟨e1,e2,e3⟩:=S.sR s g e he
   refine⟨by simp only[St.new];split<;>(try subst_vars)<;>omega,by rw[hold s g e1];exact e2, ?_⟩
   rw[hold s g e1];exact e3.world k hg (by cases dI (ρ s g)<;>simp)
 ·simp only[St.new] at he Be
  split at he
  ·rename_i VF;obtain⟨rfl,rfl⟩:=VF
   split at Be
   ·rename_i aCu;exact⟨aCu.1.symm,aCu.2.symm⟩
   ·rw[pA] at hb;rw[hold s' g' (S.sR s' g' e' Be).1] at oB
    exact absurd oB (jU S Be (zY b hb))
  ·split at Be
   ·rename_i aCu
    obtain⟨rfl,rfl⟩:=aCu
    rw[pA] at oB
    rw[hold s g (S.sR s g e he).1] at hb;exact absurd hb (jU S he (zY b oB))
   ·rw[hold s g (S.sR s g e he).1] at hb;rw[hold s' g' (S.sR s' g' e' Be).1] at oB
    exact S.inj s g s' g' e e' b he Be hb oB
theorem kY.R6 (S:kY F h0 w0 nt ρ st a w) {s g:Nat} {e e':nP} (he:st.heap s g=some e) {w':World} (hg:w.grownBy w' (dI (ρ s g)))
 (hx:∀C,(ctx h0 w0 ρ st w).Le C→nG C w' w0.heap.size (ρ s g) e') :
 kY F h0 w0 nt ρ (st.jC s g (some e')) a w':=by
 have k:(ctx h0 w0 ρ st w).Le (ctx h0 w0 ρ (st.jC s g (some e')) w'):=by
  refine⟨fun b' o oB=>⟨?_,oB.2.1,fun s' g' e'' h=>?_⟩,fun _=>Nat.le_refl _,fun _ _ _=>rfl⟩
  ·rw[hg.block b' (Array.getElem?_eq_some_iff.1 oB.1).1 (fun h=>oB.2.2 s g e he h.symm)];exact oB.1
  ·simp only[St.jC] at h;split at h
   ·rename_i h';obtain⟨rfl,rfl⟩:=h';exact oB.2.2 _ _ e he
   ·exact oB.2.2 _ _ _ h
 refine⟨fun t=>(S.env t).le k,fun s' g' x h=>?_,fun s1 g1 s2 g2 e1 e2 b' h1 h2 VG n5=>?_,wY S.ext hg (fun b hb=>((S.sR s g e he).2.2.UQ b hb).1),S.size,S.defers,⟨fun x v h=>(S.Pa.1 x v h).le k,fun b o h=>k.h b o (S.Pa.2.1 b o h),Nat.le_trans S.Pa.2.2 hg.size⟩⟩
 ·simp only[St.jC] at h;split at h
  ·rename_i h'
   obtain⟨rfl,rfl⟩:=h'
   cases h
   exact⟨(S.sR _ _ e he).1,(S.sR _ _ e he).2.1,hx _ k⟩
  ·rename_i h'
   obtain⟨x1,x2,x3⟩:=S.sR _ _ _ h
   refine⟨x1,x2,x3.world k hg ?_⟩
   cases xX:dI (ρ s' g') with
   | none=>exact .inl rfl
   | some b =>
     right
     intro hq;exact h' (S.inj _ _ _ _ _ _ b h he xX hq.symm)
 ·have old:∀s1 g1 e1,(st.jC s g (some e')).heap s1 g1=some e1→∃e2,st.heap s1 g1=some e2:=fun s1 g1 e1 h=>by
   simp only[St.jC] at h;split at h
   ·rename_i h';obtain⟨rfl,rfl⟩:=h';exact⟨e,he⟩
   ·exact⟨_,h⟩
  obtain⟨x1,y1⟩:=old _ _ _ h1
  obtain⟨x2,y2⟩:=old _ _ _ h2
  exact S.inj _ _ _ _ _ _ b' y1 y2 VG n5
theorem kY.store (S:kY F h0 w0 nt ρ st a w) {s g b:Nat} {e e':nP} (he:st.heap s g=some e) (hb:dI (ρ s g)=some b) {w':World} (hg:w.grownBy w' (some b))
 (hx:∀C,(ctx h0 w0 ρ st w).Le C→nG C w' w0.heap.size (ρ s g) e') :
 kY F h0 w0 nt ρ (st.jC s g (some e')) a w':=S.R6 he (by rw[hb];exact hg) hx
theorem kY.R7 (S:kY F h0 w0 nt ρ st a w) {s g:Nat} {e:nP} (he:st.heap s g=some e) {w':World} (hg:w.grownBy w' (dI (ρ s g))) (d:Nat) (x:nP) (v:Value) (h1:v.oneCell'=true)
 (zY:∀b,dI v=some b→dI (ρ s g)=some b∨w.heap.size≤b)
 (hx:∀C,(ctx h0 w0 ρ st w).Le C→nG C w' w0.heap.size v x) :
 kY F h0 w0 nt (uD ρ d (st.aU d) v) ((st.jC s g none).new d x) a w'∧(ctx h0 w0 ρ st w).Le (ctx h0 w0 (uD ρ d (st.aU d) v) ((st.jC s g none).new d x) w')∧uD ρ d (st.aU d) v d (st.aU d)=v:=by
 have hlo:∀b,dI (ρ s g)=some b→w0.heap.size≤b:=fun b hb=>((S.sR s g e he).2.2.UQ b hb).1
 have hold:∀s g,g<st.aU s→uD ρ d (st.aU d) v s g=ρ s g:=fun s g bA=>by
  unfold uD;rw[if_neg];rintro⟨rfl,rfl⟩
  omega
 have pA:uD ρ d (st.aU d) v d (st.aU d)=v:=by simp[uD]
 have Me:∀s1 g1 e1,((st.jC s g none).new d x).heap s1 g1=some e1→(s1=d∧g1=st.aU d∧e1=x)∨(st.heap s1 g1=some e1∧¬(s1=s∧g1=g)):=fun s1 g1 e1 h=>by
  rw[NL] at h;by_cases c1:s1=d∧g1=(st.jC s g none).aU d
  ·rw[if_pos c1] at h;cases h;exact .inl ⟨c1.1,c1.2,rfl⟩
  ·rw[if_neg c1,E2] at h;by_cases c2:s1=s∧g1=g
   ·rw[if_pos c2] at h;cases h
   ·rw[if_neg c2] at h;exact .inr ⟨h,c2⟩
 have k:(ctx h0 w0 ρ st w).Le (ctx h0 w0 (uD ρ d (st.aU d) v) ((st.jC s g none).new d x) w'):=by
  refine⟨fun b o hb=>⟨?_,hb.2.1,fun s1 g1 e1 h=>?_⟩,fun s=>?_,hold⟩
  ·rw[hg.block b (Array.getElem?_eq_some_iff.1 hb.1).1 (fun h=>hb.2.2 s g e he h.symm)];exact hb.1
  ·rcases Me _ _ _ h with ⟨rfl,rfl,rfl⟩|⟨h,_⟩
   ·rw[pA];intro hbv;rcases zY b hbv with h'|h'
    ·exact hb.2.2 s g e he h'
    ·have:=(Array.getElem?_eq_some_iff.1 hb.1).1
     omega
   ·rw[hold _ _ (S.sR _ _ _ h).1];exact hb.2.2 _ _ _ h
  ·simp only[ctx,St.new,St.jC];split
   ·rename_i h;subst h;omega
   ·exact Nat.le_refl _
 refine⟨⟨fun t=>(S.env t).le k,fun s1 g1 e1 h=>?_,fun s1 g1 s2 g2 e1 e2 b GG h2' VG n5=>?_,wY S.ext hg hlo,S.size,S.defers,⟨fun x v h=>(S.Pa.1 x v h).le k,fun b o h=>k.h b o (S.Pa.2.1 b o h),Nat.le_trans S.Pa.2.2 hg.size⟩⟩,k,pA⟩
 ·rcases Me _ _ _ h with ⟨rfl,rfl,rfl⟩|⟨h,hn⟩
  ·refine⟨by simp[St.new,St.jC],by rw[pA];exact h1, ?_⟩
   rw[pA];exact hx _ k
  ·obtain⟨x1,x2,x3⟩:=S.sR _ _ _ h
   refine⟨by simp only[St.new,St.jC];split<;>(try subst_vars)<;>omega,by rw[hold _ _ x1];exact x2, ?_⟩
   rw[hold _ _ x1];refine x3.world k hg ?_
   cases xX:dI (ρ s1 g1) with
   | none=>exact .inl rfl
   | some b1 =>
     right
     intro heq;exact hn (S.inj _ _ _ _ _ _ b1 h he xX heq.symm)
 ·rcases Me _ _ _ GG with ⟨rfl,rfl,rfl⟩|⟨h1,n1⟩<;>rcases Me _ _ _ h2' with ⟨rfl,rfl,rfl⟩|⟨h2,n2⟩<;>clear GG h2'
  ·exact⟨rfl,rfl⟩
  ·rw[pA] at VG;rw[hold _ _ (S.sR _ _ _ h2).1] at n5;rcases zY b VG with h'|h'
   ·exact absurd (S.inj _ _ _ _ _ _ b h2 he n5 h') n2
   ·exact absurd n5 (jU S h2 h')
  ·rw[pA] at n5;rw[hold _ _ (S.sR _ _ _ h1).1] at VG;rcases zY b n5 with h'|h'
   ·exact absurd (S.inj _ _ _ _ _ _ b h1 he VG h') n1
   ·exact absurd VG (jU S h1 h')
  ·rw[hold _ _ (S.sR _ _ _ h1).1] at VG;rw[hold _ _ (S.sR _ _ _ h2).1] at n5;exact S.inj _ _ _ _ _ _ b h1 h2 VG n5
end
end Go.Ab
end
section
namespace Go.Ab
open Classical
def gF:List Bool→List Value→List Value→Prop
 | [],[],[]=>True
 | true :: l,.int k _ :: xs,.int k' _ :: ys=>k=k'∧gF l xs ys
 | false :: l,.bool _ :: xs,.bool _ :: ys=>gF l xs ys
 | _,_,_=>False
theorem Dq:∀(l:List Bool) (xs ys:List AV),iR l xs ys→∃us vs,xs=us.map .v∧ys=vs.map .v∧gF l us vs
 | [],[],[],_=>⟨[],[],rfl,rfl,trivial⟩
 | true :: l,.v (.int k a) :: xs,.v (.int k' b) :: ys,h=>by
   obtain⟨us,vs,rfl,rfl,h'⟩:=Dq l xs ys h.2
   exact⟨.int k a :: us,.int k' b :: vs,rfl,rfl,h.1,h'⟩
 | false :: l,.v (.bool a) :: xs,.v (.bool b) :: ys,h=>by
   obtain⟨us,vs,rfl,rfl,h'⟩:=Dq l xs ys h
   exact⟨.bool a :: us,.bool b :: vs,rfl,rfl,h'⟩
theorem lR:∀(l:List Bool) (us vs:List Value),gF l us vs→us.length=l.length∧vs.length=l.length
 | [],[],[],_=>⟨rfl,rfl⟩
 | true :: l,.int k a :: xs,.int k' b :: ys,h=>by have:=lR l xs ys h.2;simp[this.1,this.2]
 | false :: l,.bool a :: xs,.bool b :: ys,h=>by have:=lR l xs ys h;simp[this.1,this.2]
theorem Yr (l m:List Bool):∀(us vs:List Value),gF (l++m) us vs→gF l (us.take l.length) (vs.take l.length)∧gF m (us.drop l.length) (vs.drop l.length):=by
 induction l with
 | nil=>intro us vs h;simpa [gF] using h
 | cons b l ih =>
   intro us vs h;cases b<;>cases us with
   | nil=>simp[gF] at h
   | cons u us=>cases vs with
     | nil=>cases u<;>simp[gF] at h
     | cons v vs=>cases u<;>cases v<;>simp[gF] at h<;>(have:=ih us vs (by first|exact h|exact h.2);simp[gF,this.1,this.2])<;>(try exact h.1)
def mk (agg:Bool) (us:List Value):Value:=if agg=true then .agg us.toArray else us.headD undef
section
variable {P:Program} (w:World)
theorem Kh {t:Nat} {d:TypeDesc} (h:P.underlying t=some d):(isAgg t).run P w=.ok (dF P t) w:=by
 simp only[isAgg,underlying,Sem.run_bind,run_program,Result.andThen_ok,h,Sem.run_pure,dF];cases d<;>rfl
theorem run_sizeOf {t:Nat} {i:TypeInfo} (h:P.info? t=some i):(sizeOf t).run P w=.ok i.size w:=by
 simp[sizeOf,typeInfo,h]
theorem Cr {t:Nat} {i:TypeInfo} {z:Value} (h:P.info? t=some i) (hz:i.zero=some z):(zeroValue t).run P w=.ok z w:=by
 simp[zeroValue,typeInfo,h,hz]
theorem rE {t:Nat} {i:TypeInfo} (h:P.info? t=some i):P.cellsOf t=i.size:=by simp[Program.cellsOf,h]
theorem Ia {t:Nat} {d:TypeDesc} {i:TypeInfo} (h:P.underlying t=some d) (hi:P.info? t=some i) (us:List Value) (off:Nat) (h1:dF P t=false→i.size=1) (hl:off+i.size≤us.length) :
 (part t us.toArray off).run P w=.ok (mk (dF P t) ((us.drop off).take i.size)) w:=by
 unfold part;simp only[Sem.run_bind,Kh w h,Result.andThen_ok];cases hb:dF P t with
 | true =>
   simp only[if_true,Sem.run_bind,run_sizeOf w hi,Result.andThen_ok,Sem.run_pure,mk];congr 2
   simp[List.take_drop]
 | false =>
   have:=h1 hb
   have bA:off<us.length:=by omega
   simp[bA,mk,this,List.take_one]
theorem oE:∀(d t:Nat) (m:List Bool),fC P d t=some m→dF P t=false→m.length=1
 | 0,_,_,h,_=>by simp[fC] at h
 | d+1,t,m,h,hp=>by
   unfold fC at h;unfold dF at hp;cases hu:P.underlying t with
   | none=>simp[hu] at h
   | some k=>cases k<;>simp[hu] at h hp<;>(subst h;rfl)
theorem Wl {t:Nat} {k:TypeDesc} (h:P.underlying t=some k):∃i,P.info? t=some i:=info_of_underlying h
theorem yK:∀(d t:Nat) (m:List Bool),fC P d t=some m→∃k,P.underlying t=some k
 | 0,_,_,h=>by simp[fC] at h
 | d+1,t,m,h=>by
   unfold fC at h;cases hu:P.underlying t with
   | none=>simp[hu] at h
   | some k=>exact⟨k,rfl⟩
def Xq (P:Program) (dd d:Nat):Prop :=
 ∀(w:World) (t:Nat) (m:List Bool),fC P d t=some m→∀us vs,gF m us vs →
  (Op.equalIn dd t (mk (dF P t) us) (mk (dF P t) vs)).run P w=.ok (decide (us=vs)) w
theorem n8 {dd d:Nat} (IH:Xq P dd d) {t:Nat} {m:List Bool} (hm:fC P d t=some m) (hc:P.cellsOf t=m.length) {us vs:List Value} {off:Nat}
 (hl:gF m ((us.drop off).take m.length) ((vs.drop off).take m.length)) :
 ∃a b,(part t us.toArray off).run P w=.ok a w∧(part t vs.toArray off).run P w=.ok b w∧(Op.equalIn dd t a b).run P w=.ok (decide ((us.drop off).take m.length=(vs.drop off).take m.length)) w:=by
 obtain⟨k,hk⟩:=yK d t m hm
 obtain⟨i,hi⟩:=Wl hk
 have hs:i.size=m.length:=by rw[← hc,rE hi]
 have h1:dF P t=false→i.size=1:=fun h=>by rw[hs];exact oE d t m hm h
 have lens:=lR _ _ _ hl
 simp only[List.length_take,List.length_drop] at lens;by_cases hz:m.length=0
 ·have kZ:dF P t=true:=by
   cases h:dF P t with
   | true=>rfl
   | false=>have:=h1 h;omega
  refine⟨.agg #[],.agg #[], ?_, ?_, ?_⟩
  ·simp[part,Kh w hk,kZ,run_sizeOf w hi,hs,hz]
  ·simp[part,Kh w hk,kZ,run_sizeOf w hi,hs,hz]
  ·have:=IH w t m hm _ _ hl
   rw[kZ] at this;simpa [mk,hz] using this
 ·have e1:=Ia w hk hi us off h1 (by omega)
  have e2:=Ia w hk hi vs off h1 (by omega)
  refine⟨_,_,e1,e2, ?_⟩
  have:=IH w t m hm _ _ hl
  rw[hs];exact this
theorem Fu (us:List Value) (off n:Nat):us.drop off=(us.drop off).take n++us.drop (off+n):=by
 rw[← List.drop_drop,List.take_append_drop]
theorem Ib {dd d:Nat} (IH:Xq P dd d) (us vs:List Value):∀(fs:List Field) (off:Nat) (l:List Bool),Kf P (fC P d) fs off=some l →
 gF l (us.drop off) (vs.drop off)→(Op.eqFields dd us.toArray vs.toArray fs).run P w=.ok (decide (us.drop off=vs.drop off)) w
 | [],off,l,hl,hv=>by
   simp[Kf] at hl
   subst hl;have:=lR _ _ _ hv
   rw[List.length_eq_zero_iff.1 this.1,List.length_eq_zero_iff.1 this.2];simp[Op.eqFields]
 | f :: fs,off,l,hl,hv=>by
   unfold Kf at hl;cases hm:fC P d f.type with
   | none=>simp[hm] at hl
   | some m =>
     simp only[hm] at hl;split at hl
     ·rename_i hc;obtain⟨c1,c2,c3,c4⟩:=hc
      cases hr:Kf P (fC P d) fs (off+m.length) with
      | none=>simp[hr] at hl
      | some l' =>
        simp[hr] at hl
        subst hl;obtain⟨v1,v2⟩:=Yr m l' _ _ hv
        rw[List.drop_drop,List.drop_drop] at v2;obtain⟨a,b,p1,p2,p3⟩:=n8 w IH hm c3 v1
        have ih:=Ib IH us vs fs (off+m.length) l' hr v2
        subst c2;simp only[Op.eqFields,c1,ne_eq,not_false_eq_true,if_true,Sem.run_bind,p1,p2,p3,Result.andThen_ok];have iff:(us.drop f.offset=vs.drop f.offset)↔((us.drop f.offset).take m.length=(vs.drop f.offset).take m.length∧us.drop (f.offset+m.length)=vs.drop (f.offset+m.length)):=by
         constructor
         ·intro h;refine⟨by rw[h], ?_⟩
          rw[← List.drop_drop,← List.drop_drop,h]
         ·rintro⟨h,k⟩
          rw[Fu us f.offset m.length,Fu vs f.offset m.length,h,k]
        by_cases h:(us.drop f.offset).take m.length=(vs.drop f.offset).take m.length
        ·simp[h,ih,iff]
        ·simp[h,iff]
     ·cases hl
theorem Mf {dd d:Nat} (IH:Xq P dd d) {e:Nat} {m:List Bool} (hm:fC P d e=some m) (hc:P.cellsOf e=m.length) (us vs:List Value):∀(n k:Nat),
 gF ((List.range n).flatMap fun _=>m) (us.drop (k * m.length)) (vs.drop (k * m.length)) →
 (Op.eqItems dd e m.length us.toArray vs.toArray ((List.range n).map (k + ·))).run P w=.ok (decide (us.drop (k * m.length)=vs.drop (k * m.length))) w
 | 0,k,hv=>by
   have:=lR _ _ _ hv
   simp only[List.range_zero,List.flatMap_nil,List.length_nil] at this;rw[List.length_eq_zero_iff.1 this.1,List.length_eq_zero_iff.1 this.2];simp[Op.eqItems]
 | n+1,k,hv=>by
   rw[List.range_succ_eq_map] at hv ⊢;simp only[List.flatMap_cons,List.flatMap_map] at hv;obtain⟨v1,v2⟩:=Yr m _ _ _ hv
   rw[List.drop_drop,List.drop_drop,show k * m.length+m.length=(k+1) * m.length by rw[Nat.add_mul];omega] at v2
   obtain⟨a,b,p1,p2,p3⟩:=n8 w IH hm hc v1
   have ih:=Mf IH hm hc us vs n (k+1) v2
   simp only[List.map_cons,Nat.add_zero,List.map_map,Op.eqItems,Sem.run_bind,p1,p2,p3,Result.andThen_ok];have hmap:(List.range n).map ((k + ·) ∘ Nat.succ)=(List.range n).map (k+1 + ·):=by
    apply List.map_congr_left
    intro x _;simp only[Function.comp];omega
   rw[hmap];have iff:(us.drop (k * m.length)=vs.drop (k * m.length))↔((us.drop (k * m.length)).take m.length=(vs.drop (k * m.length)).take m.length∧us.drop ((k+1) * m.length)=vs.drop ((k+1) * m.length)):=by
    rw[show (k+1) * m.length=k * m.length+m.length by rw[Nat.add_mul];omega]
    constructor
    ·intro h;refine⟨by rw[h], ?_⟩
     rw[← List.drop_drop,← List.drop_drop,h]
    ·rintro⟨h,k'⟩
     rw[Fu us _ m.length,Fu vs _ m.length,h,k']
   by_cases h:(us.drop (k * m.length)).take m.length=(vs.drop (k * m.length)).take m.length
   ·simp[h,ih,iff]
   ·simp[h,iff]
theorem Cs:∀(d dd:Nat),d≤dd→Xq P dd d
 | 0,_,_=>fun w t m hm=>by simp[fC] at hm
 | d+1,0,h=>absurd h (by omega)
 | d+1,dd+1,h=>by
   intro w t m hm us vs hv;have IH:=Cs d dd (by omega)
   unfold fC at hm;cases hu:P.underlying t with
   | none=>simp[hu] at hm
   | some k =>
     cases k<;>simp only[hu] at hm<;>(try (cases hm;done))
     case bool =>
      cases hm
      have kZ:dF P t=false:=by simp[dF,hu]
      cases us with
      | nil=>simp[gF] at hv
      | cons u us=>cases vs with
        | nil=>cases u<;>simp[gF] at hv
        | cons v vs =>
          cases u<;>cases v<;>simp[gF] at hv
          cases us<;>cases vs<;>simp[gF] at hv
          rename_i a b;simp[kZ,mk,run_equalIn_bool' w dd t a b hu]
          rw[Bool.eq_iff_iff];simp
     case int q =>
      cases hm
      have kZ:dF P t=false:=by simp[dF,hu]
      cases us with
      | nil=>simp[gF] at hv
      | cons u us=>cases vs with
        | nil=>cases u<;>simp[gF] at hv
        | cons v vs =>
          cases u<;>cases v<;>simp[gF] at hv
          cases us<;>cases vs<;>simp[gF] at hv
          rename_i k1 a k2 b;subst hv;simp[kZ,mk,run_equalIn_int w dd t k1 q a b hu]
          rw[Bool.eq_iff_iff];simp
     case struct fs =>
      have kZ:dF P t=true:=by simp[dF,hu]
      split at hm
      ·cases hm
      ·rename_i yR;have o0:P.fieldsOf t=fs:=by simp[Program.fieldsOf,hu]
       rw[kZ];simp only[mk,if_true];rw[run_equalIn_struct w dd t _ _ (by rw[o0];exact hu) (by simpa using yR),o0]
       have:=Ib w IH us vs fs.toList 0 m hm (by simpa using hv)
       simpa using this
     case array n e =>
      have kZ:dF P t=true:=by simp[dF,hu]
      cases hm':fC P d e with
      | none=>simp[hm'] at hm
      | some l =>
        simp only[hm'] at hm;split at hm
        ·rename_i hc;cases hm
         obtain⟨i,hi⟩:=Option.isSome_iff_exists.1 hc.2
         rw[kZ];simp only[mk,if_true];rw[run_equalIn_array w dd _ _ hu hi];have:=Mf w IH hm' hc.1 us vs n 0 (by simpa using hv)
         rw[hc.1];simpa using this
        ·cases hm
end
end Go.Ab
end
section
namespace Go.Ab
open Classical
section
variable {P:Program} {h0:Nat→Obj→Prop} {w0:World} {F:Gw} {nt:Nat} {ρ:Nat→Nat→Value} {st:St} {a:Act} {w:World}
theorem kY.ev (S:kY F h0 w0 nt ρ st a w) (x:Operand):cY (ctx h0 w0 ρ st w) (st.ev x) (a.eval x):=by
 cases x with
 | tmp t=>exact S.env t
 | const v=>exact .v v
 | global g=>exact .v _
 | func f=>exact .v _
theorem iK {C:Ctx} {x y:Value} (h:cY C (.v x) y):y=x:=by cases h;rfl
theorem GH (us vs:List Value):us.map AV.v=vs.map AV.v↔us=vs:=by
 constructor
 ·intro h;induction us generalizing vs with
  | nil=>cases vs with
    | nil=>rfl
    | cons v vs=>simp at h
  | cons u us ih=>cases vs with
    | nil=>simp at h
    | cons v vs =>
      simp at h
      rw[h.1,ih vs h.2]
 ·intro h;rw[h]
theorem Bq {C:Ctx} {us:List Value} {y:Value} (h:cY C (.agg (us.map .v)) y):y=.agg us.toArray:=by
 cases h with
 | agg cs a hl hr h1 =>
   congr 1
   apply Array.ext'
   simp only
   apply List.ext_getElem?
   intro i;by_cases hi:i<us.length
   ·have ha:i<a.size:=by simpa [← hl] using hi
    have:=hr i (.v us[i]) a[i] (by simp[hi]) (by simp[ha])
    have:=iK this
    simp[hi,ha,this]
   ·have ha:¬i<a.size:=by simpa [← hl] using hi
    simp[hi,ha]
theorem dL {α β:Type} {x:Sem α} {f:α→Sem β} {v:α} {w w':World} (h:x.run P w=.ok v w'):(x >>= f).run P w=(f v).run P w':=by
 rw[Sem.run_bind,h];rfl
theorem Vl (op:BinOp) (qH:op=.eql∨op=.neq) {T:Nat} {xs ys:List AV} {b:Bool} {C:Ctx} {u v:Value} (X Y:Operand) (h:wV P T xs ys=some b)
 (hu:cY C (.agg xs) u) (hv:cY C (.agg ys) v) :
 (do eqGuard op T X Y u v;binOp op T u v:Sem Value).run P w=.ok (.bool (if op=.eql then b else !b)) w:=by
 unfold wV at h;cases hl:fC P 20 T with
 | none=>simp[hl] at h
 | some l =>
   simp only[hl] at h;split at h
   ·rename_i hc;obtain⟨kZ,hg,hf⟩:=hc
    simp only[Option.some.injEq] at h;obtain⟨us,vs,rfl,rfl,hv'⟩:=Dq _ _ _ hf
    have eu:=Bq hu
    have ev:=Bq hv
    subst eu;subst ev;obtain⟨k,hk⟩:=yK 20 T l hl
    have he:=Cs (P:=P) 20 10000 (by omega) w T l hl us vs hv'
    rw[kZ] at he;simp only[mk,if_true] at he;have hgd:=run_eqGuard_agg (P:=P) w op T X Y us.toArray vs.toArray hg
    rw[dL hgd];have hd:decide (us=vs)=b:=by
     rw[← h,Bool.eq_iff_iff];simp[GH]
    rcases qH with rfl|rfl
    ·rw[run_eql_struct,he];simp[hd]
    ·rw[run_neq_struct,he];simp[hd]
   ·cases h
theorem Pm {op:BinOp} {T:Nat} {b:Bool} {z:AV} {C:Ctx} {p:Option Addr} {n cap:Nat} (X Y:Operand) (h:tZ P op T b=some z) (hb:p.isNone=b:=by rfl) :
 ∃r,(do eqGuard op T X Y (.slice p n cap) (.slice none 0 0);binOp op T (.slice p n cap) (.slice none 0 0):Sem Value).run P w=.ok r w∧cY C z r:=by
 unfold tZ at h;split at h
 ·rename_i e hT;have hgd:(eqGuard op T X Y (.slice p n cap) (.slice none 0 0)).run P w=.ok () w:=by
   cases op<;>simp[eqGuard]
  rw[dL hgd];have he:=run_equal_slice_nil (P:=P) w T e p n cap hT
  rw[hb] at he;cases op<;>simp only at h<;>(try (cases h;done))<;>simp only[Option.some.injEq] at h<;>subst h<;>refine⟨_, ?_,.v _⟩<;>simp[binOp,he]
 ·cases h
theorem VH {op:BinOp} {T:Nat} {x y z:AV} {C:Ctx} {u v:Value} (X Y:Operand) (h:gM P op T x y=some z) (hu:cY C x u) (hv:cY C y v) :
 ∃r,(do eqGuard op T X Y u v;binOp op T u v:Sem Value).run P w=.ok r w∧cY C z r:=by
 unfold gM at h;split at h
 ·rename_i k a k' b
  have eu:=iK hu
  have ev:=iK hv
  subst eu;subst ev;have hgd:(eqGuard op T X Y (.int k a) (.int k' b)).run P w=.ok () w:=by
   cases op<;>simp[eqGuard]
  rw[dL hgd];cases op<;>simp only at h<;>split at h<;>(try (cases h;done))<;>simp only[Option.some.injEq] at h<;>subst h<;>refine⟨_, ?_,.v _⟩ <;>
   (try (rename_i hk;first|subst hk|(obtain⟨hk,hb⟩:=hk;subst hk)))<;>simp[binOp,Op.intArith,Op.intDiv,Op.intBits,Op.intCmp,Op.shift, *]
 ·rename_i a b;have eu:=iK hu
  have ev:=iK hv
  subst eu;subst ev;have hgd:(eqGuard op T X Y (.bool a) (.bool b)).run P w=.ok () w:=by
   cases op<;>simp[eqGuard]
  rw[dL hgd];split at h
  ·rename_i hT;cases op<;>simp only at h<;>(try (cases h;done))<;>simp only[Option.some.injEq] at h<;>subst h<;>refine⟨_, ?_,.v _⟩<;>simp[binOp,run_equal_bool w T a b hT]
  ·cases h
 ·rename_i xs ys;cases op<;>simp only at h<;>(try (cases h;done))<;>cases he:wV P T xs ys with
  | none=>simp[he] at h
  | some b =>
    simp only[he,Option.map_some,Option.some.injEq] at h;subst h;first
     | exact⟨_,Vl (w:=w) .eql (.inl rfl) X Y he hu hv,.v _⟩
     | exact⟨_,Vl (w:=w) .neq (.inr rfl) X Y he hu hv,.v _⟩
 ·rename_i n c cs;have ev:=iK hv
  subst ev;cases hu with
  | sl _ _ b off cap arr T' fr mZ hb hle hh h1=>exact Pm X Y h
 ·have eu:=iK hu
  have ev:=iK hv
  subst eu;subst ev;exact Pm X Y h
 ·cases h
theorem E3 {op:UnOp} {x z:AV} {C:Ctx} {u:Value} (h:unA op x=some z) (hu:cY C x u):∃r,(Op.unary op u).run P w=.ok r w∧cY C z r:=by
 unfold unA at h;split at h<;>(try (cases h;done))<;>simp only[Option.some.injEq] at h<;>subst h<;>(have eu:=iK hu;subst eu;refine⟨_, ?_,.v _⟩)<;>simp[Op.unary,Op.intArith,Op.intBits]
theorem bC {t:Nat} {d:TypeDesc} (h:P.underlying t=some d):(underlying t).run P w=.ok d w:=by simp[underlying,h]
theorem lU (b off k:Nat):(⟨b,off,none⟩:Addr).add k=⟨b,off+k,none⟩:=by
 unfold Addr.add;split
 ·rename_i h;subst h;rfl
 ·rfl
theorem Pn {x z:AV} {k:Nat} {C:Ctx} {u:Value} (h:vJ x k=some z) (hu:cY C x u):∃b off,u=.pointer (some ⟨b,off,none⟩)∧cY C z (.pointer (some ⟨b,off+k,none⟩)):=by
 cases x<;>simp[vJ] at h
 ·rename_i cs o;obtain⟨hk,rfl⟩:=h
  cases hu with
  | ip _ _ b off arr T fr hb hle hr h1=>exact⟨b,off+o,rfl,by rw[Nat.add_assoc];exact .ip cs (o+k) b off arr T fr hb hle hr h1⟩
 ·subst h;cases hu with
  | ptr s g off b hg hb=>exact⟨b,_,rfl,.ptr _ _ _ b hg hb⟩
theorem Wm {x z:AV} {T f k:Nat} {C:Ctx} {u:Value} (hf:aY P T f=some k) (h:vJ x k=some z) (hu:cY C x u) :
 ∃r,(Instr.fieldAt T u f).run P w=.ok r w∧cY C z r:=by
 obtain⟨b,off,rfl,hz⟩:=Pn h hu
 unfold aY at hf;split at hf
 ·rename_i fs hT;split at hf
  ·rename_i fd hfd;split at hf
   ·cases hf
   ·rename_i fQ;simp only[Option.some.injEq] at hf;subst hf;have hi:∃i,P.info? fd.type=some i:=by
     cases h:P.info? fd.type with
     | some i=>exact⟨i,rfl⟩
     | none=>simp[Program.cellsOf,h] at fQ
    obtain⟨i,hi⟩:=hi
    rw[rE hi] at fQ;refine⟨_, ?_,hz⟩
    simp[Instr.fieldAt,bC hT,hfd,Instr.sureAddr,fieldPlace,run_sizeOf w hi,fQ,lU]
  ·cases hf
 ·cases hf
theorem Po {T n sz:Nat} (h:jK P T=some (n,sz)):∃e i,P.underlying T=some (.array n e)∧P.info? e=some i∧i.size=sz∧sz≠0:=by
 unfold jK at h;split at h
 ·rename_i n' e hT
  split at h
  ·cases h
  ·rename_i fQ;simp only[Option.some.injEq,Prod.mk.injEq] at h;obtain⟨rfl,rfl⟩:=h
   cases hi:P.info? e with
   | none=>simp[Program.cellsOf,hi] at fQ
   | some i=>exact⟨e,i,hT,hi,(rE hi).symm,fQ⟩
 ·cases h
theorem kF {T e sz by_:Nat} (h:dT P T=some (e,sz,by_)):∃i z,P.underlying T=some (.slice e)∧P.info? e=some i∧i.zero=some z∧i.size=sz∧z.cells.size=sz∧i.bytes=by_∧0<sz:=by
 unfold dT at h;split at h
 ·rename_i e' hT
  split at h
  ·rename_i i hi;split at h
   ·rename_i z hz;split at h
    ·cases h
    ·rename_i fQ;simp only[Option.some.injEq,Prod.mk.injEq] at h;obtain⟨rfl,rfl,rfl⟩:=h
     simp only[not_or,ne_eq,Decidable.not_not] at fQ;exact⟨i,z,hT,hi,hz,rfl,fQ.2,rfl,by omega⟩
   ·cases h
  ·cases h
 ·cases h
theorem Pp (S:kY F h0 w0 nt ρ st a w) {x:AV} {cs:List AV} {u:Value} (h:qO st x=some cs) (hu:cY (ctx h0 w0 ρ st w) x u) :
 ∃b off arr T fr,u=.pointer (some ⟨b,off,none⟩)∧w.heap[b]? = some (.cells arr T fr)∧gD (ctx h0 w0 ρ st w) cs ((arr.toList.drop off).take cs.length):=by
 cases x<;>simp[qO] at h
 ·subst h;cases hu with
  | ip Fq o' b off arr T fr hb hle hr h1 =>
    refine⟨b,_,arr,T,fr,rfl,hb.1,⟨by simp;omega,fun i x y hx hy=>?_,fun i y hy=>?_⟩⟩
    ·have hi:=(List.getElem?_eq_some_iff.1 hx).1
     rw[List.getElem?_take,if_pos hi,List.getElem?_drop] at hy;rw[List.getElem?_drop] at hx;exact hr _ x y hx (by rw[← Nat.add_assoc];simpa using hy)
    ·rw[List.getElem?_take] at hy;split at hy
     ·rename_i hi;rw[List.getElem?_drop] at hy;simp only[List.length_drop] at hi;have hy':=hy
      simp only[Array.getElem?_toList,Nat.add_assoc] at hy'
      exact h1 _ y (by omega) hy'
     ·cases hy
 ·rename_i s g o;cases hu with
  | ptr s g off b hg hb =>
    cases he:st.heap s g with
    | none=>simp[he] at h
    | some e =>
      obtain⟨_,_,her⟩:=S.sR s g e he
      cases e with
      | cells es =>
        simp[he] at h;subst h;obtain⟨b',arr,T,lD,_,hh,hc⟩:=her
        have xX:b'=b:=by
         have h2:dI (ρ s g)=some b:=hb
         rw[lD] at h2;simpa [dI] using h2
        subst xX;refine⟨b',o,arr,T,(0,0),rfl,hh, ?_⟩
        have:=hc.drop o
        rwa [List.take_of_length_le (by rw[this.len];exact Nat.le_refl _)]
      | row e sz n es =>
        simp[he] at h;subst h;obtain⟨xs,ho,hc⟩:=her
        rcases ho.2 with ⟨p,lD,_⟩|⟨b',cap,cur,lD,_,hh,_,_,_,ht,qP⟩
        ·have h2:dI (ρ s g)=some b:=hb
         rw[lD,pV] at h2;cases h2
        ·have xX:b'=b:=by
          have h2:dI (ρ s g)=some b:=hb
          rw[lD,kI qP] at h2;simpa using h2
         subst xX;refine⟨b',o,cur,e,(0,0),rfl,hh, ?_⟩
         have:=hc.drop o
         have hl:=this.len
         rw[← ht] at this;rw[List.drop_take] at this;have e1:(es.drop o).length=n * sz-o:=by rw[hl,List.length_drop,ho.1]
         rw[e1];exact this
      | map es=>simp[he] at h
theorem Vm (w:World) {b off:Nat} {arr:Array Value} {B:Nat} {fr:Nat × Nat} {T:Nat} {i:TypeInfo} {d:TypeDesc} (hb:w.heap[b]? = some (.cells arr B fr)) (hi:P.info? T=some i) (hu:P.underlying T=some d)
 (hl:off+(if dF P T=true then i.size else 1)≤arr.size) :
 (loadVar T ⟨b,off,none⟩).run P w=.ok (if dF P T=true then .agg ((arr.toList.drop off).take i.size).toArray else arr.toList.getD off undef) w:=by
 unfold loadVar;rw[dL (Kh w hu)];have oU:∀j,w.cell? ((⟨b,off,none⟩:Addr).add j)=arr[off+j]?:=fun j=>by rw[lU];exact cell_of_row w b (off+j) arr B fr hb
 cases kZ:dF P T with
 | true =>
   simp only[kZ,if_true] at hl;simp only[if_true];rw[dL (run_sizeOf w hi)];have:=run_loadCells_list (P:=P) w ⟨b,off,none⟩ ((arr.toList.drop off).take i.size) (fun j v hv=>by
    rw[oU];rw[List.getElem?_take] at hv;by_cases hj:j<i.size
    ·rw[if_pos hj,List.getElem?_drop] at hv;simpa using hv
    ·rw[if_neg hj] at hv;cases hv)
   have hlen:((arr.toList.drop off).take i.size).length=i.size:=by simp;omega
   rw[hlen] at this;rw[dL this];simp
 | false =>
   simp only[kZ,Bool.false_eq_true,if_false] at hl ⊢;have h0:=oU 0
   simp only[Addr.add,if_true,Nat.add_zero] at h0;have bA:off<arr.size:=by omega
   simp[h0,bA]
theorem Br {T:Nat} {bb:Bool} {k:Nat} (h:fS P T=some (bb,k)):∃i d,P.info? T=some i∧P.underlying T=some d∧dF P T=bb∧i.size=k:=by
 unfold fS at h;cases hi:P.info? T with
 | none=>simp[hi] at h
 | some i =>
   simp only[hi] at h;cases hu:P.underlying T with
   | none=>simp[hu] at h
   | some d =>
     simp only[hu] at h;refine⟨i,d,rfl,rfl, ?_, ?_⟩
     ·cases d<;>simp_all [dF]
     ·cases d<;>simp_all
theorem Ys (S:kY F h0 w0 nt ρ st a w) {T:Nat} {x z:AV} {cs:List AV} {u:Value} (hr:qO st x=some cs) (h:yQ P T cs=some z) (hu:cY (ctx h0 w0 ρ st w) x u) :
 ∃r,(Instr.loadAt T u).run P w=.ok r w∧cY (ctx h0 w0 ρ st w) z r:=by
 obtain⟨b,off,arr,B,fr,rfl,hb,hc⟩:=Pp S hr hu
 unfold yQ at h;have hlen:=hc.len
 simp only[List.length_take,List.length_drop,Array.length_toList] at hlen;split at h
 ·rename_i k hk;obtain⟨i,d,hi,hd,kZ,rfl⟩:=Br hk
  split at h
  ·rename_i hle;obtain⟨rG,hle⟩:=hle
   simp only[Option.some.injEq] at h;subst h;refine⟨_,by
    simp only[Instr.loadAt,Instr.sureAddr];rw[dL (Sem.run_pure P w _)];exact Vm w hb hi hd (by rw[kZ];simp only[if_true];omega), ?_⟩
   rw[kZ];simp only[if_true];have:=hc.take i.size
   rw[List.take_take,Nat.min_eq_left hle] at this;exact .agg _ _ (by simpa using this.len) (fun j x y hx hy=>this.rel j x y hx (by simpa using hy)) (fun j y hy=>this.one j y (by simpa using hy))
  ·cases h
 ·rename_i k hk;obtain⟨i,d,hi,hd,kZ,rfl⟩:=Br hk
  cases cs with
  | nil=>simp at h
  | cons c cs =>
    simp at h
    subst h;have bA:off<arr.size:=by simp at hlen;omega
    refine⟨_,by
     simp only[Instr.loadAt,Instr.sureAddr];rw[dL (Sem.run_pure P w _)];exact Vm w hb hi hd (by rw[kZ];simp;omega), ?_⟩
    rw[kZ];simp only[Bool.false_eq_true,if_false];refine hc.rel 0 c _ rfl ?_
    simp[bA]
 ·cases h
theorem sS (S:kY F h0 w0 nt ρ st a w) {x:AV} {n:Nat} {cs:List AV} {u:Value} (h:aX st x=some (n,cs)) (hu:cY (ctx h0 w0 ρ st w) x u) :
 ∃p cap,u=.slice p n cap∧(cs≠[]→∃b off arr T fr,p=some ⟨b,off,none⟩∧w.heap[b]? = some (.cells arr T fr)∧gD (ctx h0 w0 ρ st w) cs ((arr.toList.drop off).take cs.length)):=by
 unfold aX at h;split at h
 ·rename_i n' Fq
  simp only[Option.some.injEq,Prod.mk.injEq] at h;obtain⟨rfl,rfl⟩:=h
  cases hu with
  | IS n cap p mZ=>exact⟨p,cap,rfl,fun h=>absurd rfl h⟩
  | sl n cs'' b off cap arr T fr mZ hb hle hr h1 =>
    refine⟨_,cap,rfl,fun _=>⟨b,off,arr,T,fr,rfl,hb.1,⟨by simp;omega,fun i x y hx hy=>?_,fun i y hy=>?_⟩⟩⟩
    ·have hi:=(List.getElem?_eq_some_iff.1 hx).1
     rw[List.getElem?_take,if_pos hi,List.getElem?_drop] at hy;exact hr i x y hx (by simpa using hy)
    ·rw[List.getElem?_take] at hy;split at hy
     ·rename_i hi;rw[List.getElem?_drop] at hy;exact h1 i y hi (by simpa using hy)
     ·cases hy
 ·rename_i n' Fq
  simp only[Option.some.injEq,Prod.mk.injEq] at h;obtain⟨rfl,rfl⟩:=h
  cases hu with
  | cl0 n p=>exact⟨p,_,rfl,fun h=>absurd rfl h⟩
  | cl n cs'' b off arr T fr hb hle hr h1 =>
    refine⟨_,_,rfl,fun _=>⟨b,off,arr,T,fr,rfl,hb.1,⟨by simp;omega,fun i x y hx hy=>?_,fun i y hy=>?_⟩⟩⟩
    ·have hi:=(List.getElem?_eq_some_iff.1 hx).1
     rw[List.getElem?_take,if_pos hi,List.getElem?_drop] at hy;exact hr i x y hx (by simpa using hy)
    ·rw[List.getElem?_take] at hy;split at hy
     ·rename_i hi;rw[List.getElem?_drop] at hy;exact h1 i y hi (by simpa using hy)
     ·cases hy
 ·rename_i s g;cases he:st.heap s g with
  | none=>simp[he] at h
  | some e =>
    cases e with
    | row e sz n' es =>
      simp[he] at h
      obtain⟨rfl,rfl⟩:=h
      obtain⟨_,_,xs,ho,hc⟩:=S.sR s g _ he
      cases hu with
      | own s g hg h1 =>
        show ∃p cap,ρ s g=_∧_
        rcases ho.2 with ⟨p,lD,hn⟩|⟨b',cap,cur,lD,_,hh,_,_,_,ht,qP⟩
        ·refine⟨p,0,by rw[lD,hn],fun fQ=>?_⟩
         have:xs.length=0:=by rw[ho.1,hn];simp
         have:=hc.len
         exact absurd (List.length_eq_zero_iff.1 (by omega)) fQ
        ·refine⟨_,cap,lD,fun _=>⟨b',0,cur,e,(0,0),rfl,hh, ?_⟩⟩
         rw[hc.len,ho.1,List.drop_zero,ht];exact hc
    | _=>simp[he] at h
 ·rename_i s g o n'
  cases he:st.heap s g with
  | none=>simp[he] at h
  | some e =>
    cases e with
    | row e sz N es =>
      simp only[he] at h;split at h
      ·rename_i hle;simp only[Option.some.injEq,Prod.mk.injEq] at h;obtain⟨rfl,rfl⟩:=h
       obtain⟨_,_,xs,ho,hc⟩:=S.sR s g _ he
       cases hu with
       | vw _ _ _ _ b cap hg hb mZ zW =>
         refine⟨_,cap,rfl,fun fQ=>?_⟩
         rcases ho.2 with ⟨p,lD,hn⟩|⟨b',DP,cur,lD,_,hh,_,_,_,ht,qP⟩
         ·exfalso
          change dI (ρ s g)=some b at hb
          rw[lD] at hb;cases p<;>cases hb
         ·change dI (ρ s g)=some b at hb
          rw[lD,kI qP] at hb;simp only[Option.some.injEq] at hb;subst hb;refine⟨b',o,cur,e,(0,0),rfl,hh, ?_⟩
          have hxl:xs.length=es.length:=hc.len.symm
          have:((cur.toList.drop o).take ((es.drop o).take (n' * sz)).length)=(xs.drop o).take (n' * sz):=by
           have hl:((es.drop o).take (n' * sz)).length=n' * sz:=by simp;omega
           rw[hl,← ht,List.drop_take,List.take_take,Nat.min_eq_left (by rw[← ho.1];omega)]
          rw[this];exact (hc.drop o).take _
      ·cases h
    | cells es =>
      simp only[he] at h;split at h
      ·rename_i hle;simp only[Option.some.injEq,Prod.mk.injEq] at h;obtain⟨rfl,rfl⟩:=h
       obtain⟨_,_,b',arr,T',lD,_,hh,hc⟩:=S.sR s g _ he
       cases hu with
       | vw _ _ _ _ b cap hg hb mZ zW =>
         refine⟨_,cap,rfl,fun fQ=>?_⟩
         change dI (ρ s g)=some b at hb
         rw[lD] at hb;simp only[dI,Option.some.injEq] at hb;subst hb;refine⟨b',o,arr,T',(0,0),rfl,hh, ?_⟩
         have hl:((es.drop o).take n').length=n':=by simp;omega
         rw[hl];exact (hc.drop o).take _
      ·cases h
    | _=>simp[he] at h
 ·simp only[Option.some.injEq,Prod.mk.injEq] at h;obtain⟨rfl,rfl⟩:=h
  have:=iK hu
  subst this;exact⟨_,_,rfl,fun h=>absurd rfl h⟩
 ·cases h
theorem VI {C:Ctx} {n:Nat} {cs:List AV} {u:Value} (h:cY C (.sl n cs) u):∃p cap,u=.slice p n cap:=by
 cases h with
 | IS=>exact⟨_,_,rfl⟩
 | sl=>exact⟨_,_,rfl⟩
theorem Wn (S:kY F h0 w0 nt ρ st a w) {T:Nat} {x i z:AV} {u v:Value} (h:bH P st T x i=some z) (hu:cY (ctx h0 w0 ρ st w) x u) (hv:cY (ctx h0 w0 ρ st w) i v) :
 ∃r,(Instr.indexAt T u v).run P w=.ok r w∧cY (ctx h0 w0 ρ st w) z r:=by
 unfold bH at h;split at h
 ·rename_i k j;have:=iK hv
  subst this;split at h
  ·rename_i n sz ha;obtain⟨e,ei,hT,hi,rfl,fQ⟩:=Po ha
   split at h
   ·rename_i hj;obtain⟨b,off,rfl,hz⟩:=Pn h hu
    refine⟨_, ?_,hz⟩
    simp[Instr.indexAt,asIntOf,bC hT,Instr.sureAddr,hj,run_sizeOf w hi,lU]
   ·cases h
  ·split at h
   ·rename_i e sz by_ hs;obtain⟨ei,ez,hT,hi,DQ,rfl,DK,rfl,Bf⟩:=kF hs
    split at h
    ·rename_i n cs;split at h
     ·rename_i hj;simp only[Option.some.injEq] at h;subst h;obtain⟨j1,j2,j3⟩:=hj
      cases hu with
      | IS n cap p mZ=>simp at j3;omega
      | sl n cs b off cap arr T' fr mZ hb hle hr h1 =>
        refine⟨_, ?_,.ip ((cs.drop (j.toNat * ei.size)).take ei.size) 0 b (off+j.toNat * ei.size) arr T' fr hb (by simp;omega) (fun i x y hx hy=>?_) (fun i y Dr hy=>?_)⟩
        ·simp[Instr.indexAt,asIntOf,bC hT,j1,j2,run_sizeOf w hi,lU]
        ·rw[List.getElem?_take] at hx;split at hx
         ·rw[List.getElem?_drop] at hx;exact hr _ x y hx (by rw[← Nat.add_assoc];exact hy)
         ·cases hx
        ·simp only[List.length_take,List.length_drop] at Dr
         exact h1 (j.toNat * ei.size+i) y (by omega) (by rw[← Nat.add_assoc];exact hy)
     ·cases h
    ·rename_i s g;cases he:st.heap s g with
     | none=>simp[he] at h
     | some e' =>
       cases e' with
       | row e2 sz2 n es =>
         simp only[he] at h;split at h
         ·rename_i hj;obtain⟨j1,j2,rfl,rfl⟩:=hj
          simp only[Option.some.injEq] at h;subst h;obtain⟨bA,_,xs,ho,hc⟩:=S.sR s g _ he
          cases hu with
          | own s g hg h1 =>
            rcases ho.2 with ⟨p,lD,hn⟩|⟨b',cap,cur,lD,_,hh,_,_,_,ht,qP⟩
            ·omega
            ·refine⟨.pointer (some ⟨b',j.toNat * ei.size,none⟩), ?_,.ptr s g _ b' bA (by show dI (ρ s g)=_;rw[lD,kI qP])⟩
             show (Instr.indexAt T (ρ s g) _).run P w=_
             rw[lD];simp[Instr.indexAt,asIntOf,bC hT,j1,j2,run_sizeOf w hi,lU]
         ·cases h
       | _=>simp[he] at h
    ·rename_i s g o n;split at h
     ·rename_i hj;obtain⟨j1,j2⟩:=hj
      simp only[Option.some.injEq] at h;subst h;cases hu with
      | vw _ _ _ _ b cap hg hb mZ zW =>
        refine⟨.pointer (some ⟨b,o+j.toNat * ei.size,none⟩), ?_,.ptr s g _ b hg hb⟩
        simp[Instr.indexAt,asIntOf,bC hT,j1,j2,run_sizeOf w hi,lU]
     ·cases h
    ·cases h
   ·cases h
 ·cases h
end
end Go.Ab
end
section
namespace Go.Ab
open Classical
theorem foldl_set (off:Nat):∀(vs:List Value) (k:Nat) (cs:Array Value),off+k+vs.length≤cs.size →
 ((vs.zipIdx k).foldl (fun cs (x:Value × Nat)=>cs.setIfInBounds (off+x.2) x.1) cs).toList=cs.toList.take (off+k)++vs++cs.toList.drop (off+k+vs.length)
 | [],k,cs,h=>by simp
 | v :: vs,k,cs,h=>by
   simp only[List.zipIdx_cons,List.foldl_cons];simp only[List.length_cons] at h;rw[foldl_set off vs (k+1) (cs.setIfInBounds (off+k) v) (by simp;omega)]
   have bA:off+k<cs.size:=by omega
   have Hh:off+k<cs.toList.length:=by simpa using bA
   have e1:(cs.setIfInBounds (off+k) v).toList=cs.toList.set (off+k) v:=by simp
   rw[e1,show off+(k+1)=off+k+1 by omega]
   have e2:cs.toList.set (off+k) v=cs.toList.take (off+k)++v :: cs.toList.drop (off+k+1):=by
    rw[List.set_eq_take_append_cons_drop,if_pos Hh]
   have l1:(cs.toList.take (off+k)).length=off+k:=by simp;omega
   have e3:(cs.toList.set (off+k) v).take (off+k+1)=cs.toList.take (off+k)++[v]:=by
    rw[e2,List.take_append,l1,List.take_of_length_le (by rw[l1];omega),show off+k+1-(off+k)=1 by omega]
    simp
   have e4:(cs.toList.set (off+k) v).drop (off+k+1+vs.length)=cs.toList.drop (off+k+(vs.length+1)):=by
    rw[e2,List.drop_append,l1,List.drop_of_length_le (by rw[l1];omega),show off+k+1+vs.length-(off+k)=vs.length+1 by omega]
    simp only[List.drop_succ_cons,List.nil_append,List.drop_drop];congr 1
    omega
   rw[e3,e4];simp
section
variable {P:Program} {h0:Nat→Obj→Prop} {w0:World} {F:Gw} {nt:Nat} {ρ:Nat→Nat→Value} {st:St} {a:Act} {w:World}
theorem Na {C:Ctx} {place:Nat→Option (Nat × Nat)}:∀(parts:List (Nat × AV)) (pv:List (Nat × Value)) (cells:List AV) (ys:Array Value) (out:List AV),
 parts.map (·.1)=pv.map (·.1)→lQ C (parts.map (·.2)) (pv.map (·.2))→(∀p∈parts,p.2.jE=true)→gD C cells ys.toList→gT place cells parts=some out →
 ∃zs,Instr.fill place ys pv=some zs∧gD C out zs.toList
 | [],pv,cells,ys,out,h1,h2,h3,h4,h5=>by
   cases pv with
   | nil=>simp[gT] at h5;subst h5;exact⟨ys,rfl,h4⟩
   | cons p pv=>simp at h1
 | (i,x) :: parts,[],cells,ys,out,h1,_,_,_,_=>by simp at h1
 | (i,x) :: parts,(i',v) :: pv,cells,ys,out,h1,h2,h3,h4,h5=>by
   simp only[List.map_cons,List.cons.injEq] at h1;obtain⟨rfl,h1⟩:=h1
   simp only[List.map_cons] at h2;have hx:=h2.head
   have hc:=hx.cells (h3 (i,x) (by simp))
   unfold gT at h5;unfold Instr.fill;cases hp:place i with
   | none=>simp[hp] at h5
   | some os =>
     obtain⟨off,size⟩:=os
     simp only[hp] at h5 ⊢;split at h5
     ·rename_i R9;obtain⟨c1,c2⟩:=R9
      have hl:=hc.len
      have hl4:=h4.len
      simp only[Array.length_toList] at hl hl4;have fQ:¬(v.cells.size≠size∨off+v.cells.size > ys.size):=by omega
      have hne':(decide (v.cells.size≠size) || decide (off+v.cells.size > ys.size))=false:=by simp;omega
      rw[if_neg (by simpa using fQ)]
      refine Na parts pv _ _ out h1 h2.tail (fun p UR=>h3 p (by simp[UR])) ?_ h5
      have e:=foldl_set off v.cells.toList 0 ys (by simp;omega)
      simp only[Nat.add_zero,Array.length_toList] at e;have e2:(v.cells.zipIdx.foldl (fun cs (x:Value × Nat)=>cs.setIfInBounds (off+x.2) x.1) ys).toList=ys.toList.take off++v.cells.toList++ys.toList.drop (off+v.cells.size):=by
       rw[← e,← Array.foldl_toList,Array.toList_zipIdx]
      show gD C _ (v.cells.zipIdx.foldl (fun cs (x:Value × Nat)=>cs.setIfInBounds (off+x.2) x.1) ys).toList
      rw[e2];have e3:off+size=off+v.cells.size:=by omega
      rw[e3];exact ((h4.take off).app hc).app (h4.drop _)
     ·cases h5
theorem zZ {T:Nat} {z:List Value} (h:eH P T=some z):∃i zv,P.info? T=some i∧i.zero=some zv∧z=zv.cells.toList∧∀y∈z,y.oneCell'=true:=by
 unfold eH at h;split at h
 ·rename_i i hi;cases hz:i.zero with
  | none=>simp[hz] at h
  | some zv =>
    simp only[hz] at h;split at h
    ·rename_i h1;simp only[Option.some.injEq] at h;subst h;exact⟨i,zv,hi,hz,rfl,List.all_eq_true.1 h1⟩
    ·cases h
 ·cases h
theorem NM (S:kY F h0 w0 nt ρ st a w) {T:Nat} {parts:Array (Nat × Operand)} {z:AV} (h:iW P st T parts.toList=some z) :
 ∃r,(Instr.build T (parts.map fun (i,x)=>(i,a.eval x))).run P w=.ok r w∧cY (ctx h0 w0 ρ st w) z r:=by
 unfold iW at h;cases hz:eH P T with
 | none=>simp[hz] at h
 | some zs =>
   cases hp:placeOf P T with
   | none=>simp[hz,hp] at h
   | some place =>
     simp only[hz,hp] at h;split at h
     ·rename_i yR;simp only[Option.map_eq_some_iff] at h;obtain⟨out,hf,rfl⟩:=h
      obtain⟨i,zv,hi,NN,rfl,S3⟩:=zZ hz
      have fU:lQ (ctx h0 w0 ρ st w) ((parts.toList.map fun p=>(p.1,st.ev p.2)).map (·.2)) ((parts.toList.map fun p=>(p.1,a.eval p.2)).map (·.2)):=by
       simp only[List.map_map];exact lQ.map _ _ _ fun p _=>S.ev p.2
      obtain⟨cells,NO,oU⟩:=Na (place:=place) (parts.toList.map fun p=>(p.1,st.ev p.2)) (parts.toList.map fun p=>(p.1,a.eval p.2)) _ zv.cells out (by simp) fU
       (fun p UR=>by
        obtain⟨q,hq,rfl⟩:=List.mem_map.1 UR
        exact List.all_eq_true.1 yR q hq) (gD.vs _ _ S3) hf
      have hbuilt:P.built T (parts.map fun (i,x)=>(i,a.eval x)).toList=some cells:=by
       unfold Program.built;unfold placeOf at hp;split at hp
       ·rename_i fs hu;split at hp
        ·rename_i Nb;simp only[Option.some.injEq] at hp;simp only[hi,hu,NN];have hm:fs.toList.mapM (fun f=>(P.info? f.type).map fun i=>(f.offset,i.size))=some (fs.toList.map fun f=>(f.offset,P.cellsOf f.type)):=by
          have S4:∀f∈fs.toList,(P.info? f.type).isSome=true:=fun f hf=>Array.all_eq_true_iff_forall_mem.1 Nb f (Array.mem_toList_iff.1 hf)
          generalize fs.toList=l at S4
          induction l with
          | nil=>rfl
          | cons f l ih =>
            obtain⟨j,hj⟩:=Option.isSome_iff_exists.1 (S4 f (by simp))
            rw[List.mapM_cons,ih fun g hg=>S4 g (by simp[hg])]
            simp[hj,rE hj]
         rw[hm];simp only
         have:(fun x=>(fs.toList.map fun f=>(f.offset,P.cellsOf f.type)).toArray[x]?)=place:=by
          rw[← hp];funext j
          simp
         rw[this];simpa using NO
        ·cases hp
       ·rename_i n e hu;split at hp
        ·rename_i hsome;obtain⟨ie,Ct⟩:=Option.isSome_iff_exists.1 hsome
         simp only[Option.some.injEq] at hp;simp only[hi,hu,NN,Ct];rw[← hp] at NO;simpa [rE Ct] using NO
        ·cases hp
       ·cases hp
      refine⟨_,run_build w T _ cells hbuilt, ?_⟩
      exact .agg _ _ (by simpa using oU.len) (fun j x y hx hy=>oU.rel j x y hx (by simpa using hy)) (fun j y hy=>oU.one j y (by simpa using hy))
     ·cases h
end
end Go.Ab
end
