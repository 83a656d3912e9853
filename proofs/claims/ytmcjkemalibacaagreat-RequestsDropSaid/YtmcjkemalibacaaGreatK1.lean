/-
  Part 1 of the proof: an evaluator of programs, its soundness, and what functions of this program compute.
-/
import Derived.WalkKit
import Derived.Laws.AppendOwn
import Derived.Laws.StructEq
import Derived.DeepKeys
import Derived.Laws.Cover3
import Derived.Laws.Tables
import Derived.Laws.OwnMore
import Derived.Great.BuildSlice
set_option linter.all false
set_option maxRecDepth 20000
set_option maxHeartbeats 40000000
section
namespace Go.Ab
open Classical
inductive AV where
 | v (x:Value)
 | agg (cs:List AV)
 | sl (n:Nat) (cs:List AV)
 | cl (n:Nat) (cs:List AV)
 | ip (cs:List AV) (o:Nat)
 | ptr (s g off:Nat)
 | own (s g:Nat)
 | mp (s g:Nat)
 | uO (f:Nat) (nN:List AV)
 | eN (vs:List AV)
 | uniq (e sz n:Nat) (cs:List AV)
 | vw (s g o n:Nat)
class Ext where
 mv:Nat→Bool
 qH:Nat→Bool
 eat:Nat→Option Nat→Bool
 inl:Nat→Option Nat→Bool
 dyn:Nat→Nat→Option Nat→List (Nat × Nat)
 pa:Nat→Nat→Bool
 va:Nat→Nat→Bool
 ext:Nat→List AV→Option AV
inductive nM where
 | cells (cs:List AV)
 | row (e sz n:Nat) (cs:List AV)
 | map (es:List (AV × AV))
structure St where
 env:Nat→AV
 heap:Nat→Nat→Option nM
 aP:Nat→Nat
def St.put (st:St) (d:Option Nat) (x:AV):St :=
 match d with
 | none=>st
 | some d=>{ st with env:=fun t=>if t=d then x else st.env t }
def St.iY (st:St) (s g:Nat) (e:Option nM):St :=
 { st with heap:=fun s' g'=>if s'=s∧g'=g then e else st.heap s' g' }
def St.news (st:St) (d:Nat) (es:List nM):St :=
 { st with heap:=fun s' g'=>if s'=d∧st.aP d≤g'∧g' - st.aP d<es.length then es[g' - st.aP d]? else st.heap s' g',aP:=fun s=>if s=d then st.aP d+es.length else st.aP s }
def St.new (st:St) (d:Nat) (e:nM):St :=
 { st with heap:=fun s' g'=>if s'=d∧g'=st.aP d then some e else st.heap s' g',aP:=fun s=>if s=d then st.aP d+1 else st.aP s }
def St.ev (st:St):Operand→AV
 | .tmp t=>st.env t
 | .const x=>.v x
 | .global g=>.v (.pointer (some ⟨g,0,none⟩))
 | .func f=>.v (.func (.func f) #[] #[])
structure rC where
 dst:Option Nat
 val:AV
 dK:Option (Nat × Nat × Option nM):=none
 new:Option (Nat × List nM):=none
def rC.apply (e:rC) (st:St):St :=
 let s1:=match e.dK with
  | some (s,g,x)=>st.iY s g x
  | none=>st
 let s2:=match e.new with
  | some (d,x)=>s1.news d x
  | none=>s1
 s2.put e.dst e.val
def AV.cells:AV→List AV
 | .agg cs=>cs
 | x=>[x]
inductive Flat:AV→Prop
 | v (x:Value):Flat (.v x)
 | agg (cs:List AV) (h:∀x∈cs,Flat x):Flat (.agg cs)
 | sl (n:Nat) (cs:List AV) (h:∀x∈cs,Flat x):Flat (.sl n cs)
 | cl (n:Nat) (cs:List AV) (h:∀x∈cs,Flat x):Flat (.cl n cs)
 | ip (cs:List AV) (o:Nat) (h:∀x∈cs,Flat x):Flat (.ip cs o)
 | uO (f:Nat) (cs:List AV) (h:∀x∈cs,Flat x):Flat (.uO f cs)
 | eN (cs:List AV) (h:∀x∈cs,Flat x):Flat (.eN cs)
inductive dY:AV→Prop
 | v (x:Value):dY (.v x)
 | agg (cs:List AV) (h:∀x∈cs,dY x):dY (.agg cs)
 | eN (cs:List AV) (h:∀x∈cs,dY x):dY (.eN cs)
def cN {α β:Type} (x:Option α) (f:α→Option β):Option β :=
 match x with
 | some a=>f a
 | none=>none
section tables
variable (P:Program)
def aV (T f:Nat):Option Nat :=
 match P.underlying T with
 | some (.struct fs) =>
   match fs[f]? with
   | some fd=>if P.cellsOf fd.type=0 then none else some fd.offset
   | none=>none
 | _=>none
def jM (T:Nat):Option (Nat × Nat) :=
 match P.underlying T with
 | some (.array n e)=>if P.cellsOf e=0 then none else some (n,P.cellsOf e)
 | _=>none
def dM (T:Nat):Option (Nat × Nat × Nat) :=
 match P.underlying T with
 | some (.slice e) =>
   match P.info? e with
   | some i =>
     match i.zero with
     | some z=>if i.size=0∨z.cells.size≠i.size then none else some (e,i.size,i.bytes)
     | none=>none
   | none=>none
 | _=>none
def fP (T:Nat):Option (Bool × Nat) :=
 match P.info? T with
 | none=>none
 | some i =>
   match P.underlying T with
   | some (.struct _)=>some (true,i.size)
   | some (.array _ _)=>some (true,i.size)
   | some _=>some (false,i.size)
   | none=>none
def dZ (T:Nat):Option (List Value) :=
 match P.info? T with
 | some i =>
   match i.zero with
   | some z=>if (z.cells.toList.all fun y=>y.oneCell')=true then some z.cells.toList else none
   | none=>none
 | none=>none
def intKind (T:Nat):Option IntKind :=
 match P.underlying T with
 | some (.int k)=>some k
 | _=>none
def dB (t:Nat):Bool :=
 match P.underlying t with
 | some (.struct _)=>true
 | some (.array _ _)=>true
 | _=>false
def Ip (f:Nat→Option (List Bool)):List Field→Nat→Option (List Bool)
 | [],_=>some []
 | fd :: r,off =>
   match f fd.type with
   | some m =>
     if fd.name ≠ "_" ∧ fd.offset = off ∧ P.cellsOf fd.type = m.length ∧ (P.info? fd.type).isSome = true then (Ip f r (off + m.length)).map (m ++ ·) else none
   | none=>none
def eZ:Nat→Nat→Option (List Bool)
 | 0,_=>none
 | d+1,t =>
   match P.underlying t with
   | some .bool=>some [false]
   | some (.int _)=>some [true]
   | some (.struct fs)=>if P.stoodInHeld t=true then none else Ip P (eZ d) fs.toList 0
   | some (.array n e) =>
     match eZ d e with
     | some m=>if P.cellsOf e=m.length∧(P.info? e).isSome=true then some ((List.range n).flatMap fun _=>m) else none
     | none=>none
   | _=>none
end tables
def iC:List Bool→List AV→List AV→Prop
 | [],[],[]=>True
 | true :: l,.v (.int k _) :: xs,.v (.int k' _) :: ys=>k=k'∧iC l xs ys
 | false :: l,.v (.bool _) :: xs,.v (.bool _) :: ys=>iC l xs ys
 | _,_,_=>False
section ops
variable (P:Program)
noncomputable def uS (T:Nat) (xs ys:List AV):Option Bool :=
 match eZ P 20 T with
 | some l=>if dB P T=true∧P.eqGuardType P.depth T=false∧iC l xs ys then some (decide (xs=ys)) else none
 | none=>none
def sO (op:BinOp) (T:Nat) (b:Bool):Option AV :=
 match P.underlying T with
 | some (.slice _) =>
   match op with
   | .eql=>some (.v (.bool b))
   | .neq=>some (.v (.bool (!b)))
   | _=>none
 | _=>none
noncomputable def gD (op:BinOp) (T:Nat) (x y:AV):Option AV :=
 match x,y with
 | .v (.int k a),.v (.int k' b) =>
   match op with
   | .shl=>if b<0 then none else some (.v (.int k (k.wrap (a * 2 ^ (min b.toNat k.bits)))))
   | .shr=>if b<0 then none else some (.v (.int k (a.fdiv (2 ^ (min b.toNat k.bits)))))
   | .add=>if k=k' then some (.v (.int k (k.wrap (a+b)))) else none
   | .sub=>if k=k' then some (.v (.int k (k.wrap (a-b)))) else none
   | .mul=>if k=k' then some (.v (.int k (k.wrap (a * b)))) else none
   | .quo=>if k=k'∧b≠0 then some (.v (.int k (k.wrap (a.tdiv b)))) else none
   | .rem=>if k=k'∧b≠0 then some (.v (.int k (a.tmod b))) else none
   | .and=>if k=k' then some (.v (.int k (k.wrap (BitVec.ofInt k.bits a &&& BitVec.ofInt k.bits b).toNat))) else none
   | .or=>if k=k' then some (.v (.int k (k.wrap (BitVec.ofInt k.bits a ||| BitVec.ofInt k.bits b).toNat))) else none
   | .xor=>if k=k' then some (.v (.int k (k.wrap (BitVec.ofInt k.bits a ^^^ BitVec.ofInt k.bits b).toNat))) else none
   | .andNot=>if k=k' then some (.v (.int k (k.wrap (BitVec.ofInt k.bits a &&& ~~~ BitVec.ofInt k.bits b).toNat))) else none
   | .eql=>if k=k' then some (.v (.bool (a == b))) else none
   | .neq=>if k=k' then some (.v (.bool (a != b))) else none
   | .lss=>if k=k' then some (.v (.bool (decide (a<b)))) else none
   | .leq=>if k=k' then some (.v (.bool (decide (a≤b)))) else none
   | .gtr=>if k=k' then some (.v (.bool (decide (a > b)))) else none
   | .geq=>if k=k' then some (.v (.bool (decide (a≥b)))) else none
 | .v (.bool a),.v (.bool b) =>
   match P.underlying T with
   | some .bool =>
     match op with
     | .eql=>some (.v (.bool (a == b)))
     | .neq=>some (.v (.bool (!(a == b))))
     | _=>none
   | _=>none
 | .agg xs,.agg ys =>
   match op with
   | .eql=>(uS P T xs ys).map fun b=>.v (.bool b)
   | .neq=>(uS P T xs ys).map fun b=>.v (.bool (!b))
   | _=>none
 | .sl _ (_ :: _),.v (.slice none 0 0)=>sO P op T false
 | .v (.slice none 0 0),.v (.slice none 0 0)=>sO P op T true
 | _,_=>none
def unA (op:UnOp) (x:AV):Option AV :=
 match op,x with
 | .not,.v (.bool b)=>some (.v (.bool (!b)))
 | .neg,.v (.int k n)=>some (.v (.int k (k.wrap (0-n))))
 | .xor,.v (.int k n)=>some (.v (.int k (k.wrap (BitVec.ofInt k.bits (if k.signed then -1 else k.max) ^^^ BitVec.ofInt k.bits n).toNat)))
 | _,_=>none
def vA (x:AV) (k:Nat):Option AV :=
 match x with
 | .ptr s g o=>some (.ptr s g (o+k))
 | .ip cs o=>if o+k≤cs.length then some (.ip cs (o+k)) else none
 | _=>none
def qI (st:St) (x:AV):Option (List AV) :=
 match x with
 | .ip cs o=>some (cs.drop o)
 | .ptr s g o =>
   match st.heap s g with
   | some (.cells cs)=>some (cs.drop o)
   | some (.row _ _ _ cs)=>some (cs.drop o)
   | _=>none
 | _=>none
def xO (T:Nat) (cs:List AV):Option AV :=
 match fP P T with
 | some (true,k)=>if 0<k∧k≤cs.length then some (.agg (cs.take k)) else none
 | some (false,_)=>cs.head?
 | none=>none
def aR (st:St) (x:AV):Option (Nat × List AV) :=
 match x with
 | .sl n cs=>some (n,cs)
 | .cl n cs=>some (n,cs)
 | .own s g =>
   match st.heap s g with
   | some (.row _ _ n cs)=>some (n,cs)
   | _=>none
 | .vw s g o n =>
   match st.heap s g with
   | some (.row _ sz _ cs)=>if o+n * sz≤cs.length then some (n,(cs.drop o).take (n * sz)) else none
   | some (.cells cs)=>if o+n≤cs.length then some (n,(cs.drop o).take n) else none
   | _=>none
 | .v (.slice none 0 0)=>some (0,[])
 | _=>none
def bF (st:St) (T:Nat) (x i:AV):Option AV :=
 match i with
 | .v (.int _ i) =>
   match jM P T with
   | some (n,sz)=>if 0≤i∧i<n then vA x (i.toNat * sz) else none
   | none =>
     match dM P T with
     | some (e,sz,_) =>
       match x with
       | .sl n cs=>if 0≤i∧i<n∧i.toNat * sz+sz≤cs.length then some (.ip ((cs.drop (i.toNat * sz)).take sz) 0) else none
       | .own s g =>
         match st.heap s g with
         | some (.row e' tM n _)=>if 0≤i∧i<n∧e'=e∧tM=sz then some (.ptr s g (i.toNat * sz)) else none
         | _=>none
       | .vw s g o n=>if 0≤i∧i<n then some (.ptr s g (o+i.toNat * sz)) else none
       | _=>none
     | none=>none
 | _=>none
def gT (place:Nat→Option (Nat × Nat)) (cells:List AV):List (Nat × AV)→Option (List AV)
 | []=>some cells
 | (i,x) :: rest =>
   match place i with
   | none=>none
   | some (off,size) =>
     if x.cells.length=size∧off+size≤cells.length then gT place (cells.take off++x.cells++cells.drop (off+size)) rest else none
def placeOf (T:Nat):Option (Nat→Option (Nat × Nat)) :=
 match P.underlying T with
 | some (.struct fs)=>if fs.all (fun f=>(P.info? f.type).isSome) then some fun i=>(fs[i]?).map fun f=>(f.offset,P.cellsOf f.type) else none
 | some (.array _ e)=>if (P.info? e).isSome then some fun i=>some (i * P.cellsOf e,P.cellsOf e) else none
 | _=>none
def AV.jD:AV→Bool
 | .v x=>x.oneCell'
 | .eN _=>false
 | .uniq _ _ _ _=>false
 | _=>true
def iU (st:St) (T:Nat) (parts:List (Nat × Operand)):Option AV :=
 match dZ P T,placeOf P T with
 | some z,some place =>
   if (parts.all fun p=>(st.ev p.2).jD)=true then (gT place (z.map .v) (parts.map fun p=>(p.1,st.ev p.2))).map .agg else none
 | _,_=>none
def cW (st:St) (T:Nat) (x:AV) (lo hi:Option Operand):Option AV :=
 match dM P T with
 | some (_,sz,_) =>
   match x with
   | .sl n cs =>
     match (match hi with|some h=>st.ev h|none=>.v (.int .i64 n)),(match lo with|some l=>st.ev l|none=>.v (.int .i64 0)) with
     | .v (.int _ h),.v (.int _ l) =>
       if 0≤l∧l≤h∧h≤n∧cs.length=n * sz then some (.sl (h-l).toNat ((cs.drop (l.toNat * sz)).take ((h-l).toNat * sz))) else none
     | _,_=>none
   | .v (.slice none 0 0) =>
     match (match hi with|some h=>st.ev h|none=>.v (.int .i64 0)),(match lo with|some l=>st.ev l|none=>.v (.int .i64 0)) with
     | .v (.int _ h),.v (.int _ l)=>if l=0∧h=0 then some x else none
     | _,_=>none
   | .own s g =>
     match st.heap s g with
     | some (.row _ _ n _) =>
       match (match hi with|some h=>st.ev h|none=>.v (.int .i64 n)),(match lo with|some l=>st.ev l|none=>.v (.int .i64 0)) with
       | .v (.int _ h),.v (.int _ l)=>if 0≤l∧l≤h∧h≤n then (if l=h∧¬(l=0∧0<n) then some (.sl 0 []) else some (.vw s g (l.toNat * sz) (h-l).toNat)) else none
       | _,_=>none
     | _=>none
   | .vw s g 0 _ =>
     match st.heap s g,hi,lo with
     | some (.row _ _ n _),some hi,some lo =>
       match st.ev hi,st.ev lo with
       | .v (.int _ h),.v (.int _ l)=>if 0≤l∧l<h∧h≤n then some (.vw s g (l.toNat * sz) (h-l).toNat) else none
       | _,_=>none
     | _,_,_=>none
   | _=>none
 | none =>
   match jM P T,x,lo,hi with
   | some (n,_),.ptr s g o,none,none =>
     match st.heap s g with
     | some (.cells _)=>some (.vw s g o n)
     | _=>none
   | _,_,_,_=>none
def vX (st:St) (T:Nat) (x:AV) (lo:Option Operand) (hi mx:Operand):Option AV :=
 match dM P T with
 | some (_,sz,_) =>
   match st.ev hi,st.ev mx,(match lo with|some l=>st.ev l|none=>.v (.int .i64 0)) with
   | .v (.int _ h),.v (.int _ m),.v (.int _ l) =>
     match x with
     | .sl n cs=>if 0≤l∧l≤h∧h=m∧h≤n∧cs.length=n * sz then some (.cl (h-l).toNat ((cs.drop (l.toNat * sz)).take ((h-l).toNat * sz))) else none
     | .v (.slice none 0 0)=>if l=0∧h=0∧m=0 then some x else none
     | .own s g =>
       match st.heap s g with
       | some (.row _ _ n _)=>if 0≤l∧l≤h∧h≤m∧m≤n then some (.sl (h-l).toNat []) else none
       | _=>none
     | _=>none
   | _,_,_=>none
 | none=>none
def Cf (l:List Bool) (k:Nat):Bool :=
 match P.underlying k with
 | some (.int _)=>true
 | some .bool=>true
 | some (.array n e) =>
   match P.underlying e with
   | some (.int _)=>decide (P.cellsOf e=1) && decide (l.length=n) && (P.info? e).isSome && decide (n≤10000)
   | _=>false
 | _=>false
def aEk (T:Nat):Option AV :=
 match P.info? T with
 | some i =>
   match i.zero with
   | some (.agg cs)=>if (cs.toList.all fun y=>y.oneCell')=true then some (.agg (cs.toList.map .v)) else none
   | some y=>if y.oneCell'=true then some (.v y) else none
   | none=>none
 | none=>none
def Us (T:Nat):Option (Nat × AV) :=
 match P.underlying T with
 | some (.map k e) =>
   match eZ P 20 k,aEk P e with
   | some l,some z=>if Cf P l k=true then some (k,z) else none
   | _,_=>none
 | _=>none
def Dz (k:Nat) (x y:AV):Prop :=
 match eZ P 20 k with
 | some l=>iC l x.cells y.cells∧(dB P k=true→(∃cs,x=.agg cs)∧∃cs,y=.agg cs)∧(dB P k=false→(∃u,x=.v u)∧∃u,y=.v u)
 | none=>False
noncomputable def K6:List (AV × AV)→AV→Option AV
 | [],_=>none
 | p :: r,x=>if p.1=x then some p.2 else K6 r x
noncomputable def K7:List (AV × AV)→AV→AV→List (AV × AV)
 | [],x,y=>[(x,y)]
 | p :: r,x,y=>if p.1=x then (x,y) :: r else p :: K7 r x y
noncomputable def Sm (st:St) (T:Nat) (m x:AV) (ok:Bool):Option AV :=
 match m with
 | .mp s g =>
   match st.heap s g,Us P T with
   | some (.map es),some (k,z) =>
     if Dz P k x x∧∀p∈es,Dz P k x p.1 then
      match K6 es x with
      | some v=>some (if ok=true then .eN [v,.v (.bool true)] else v)
      | none=>some (if ok=true then .eN [z,.v (.bool false)] else z)
     else none
   | _,_=>none
 | _=>none
noncomputable def tQ (st:St) (T:Nat) (m x y:AV):Option (Nat × Nat × nM) :=
 match m with
 | .mp s g =>
   match st.heap s g,Us P T with
   | some (.map es),some (k,_)=>if (Dz P k x x∧∀p∈es,Dz P k x p.1)∧y.jD=true then some (s,g,.map (K7 es x y)) else none
   | _,_=>none
 | _=>none
def fieldInfo (T f:Nat):Option (Nat × Bool × Nat) :=
 match P.underlying T with
 | some (.struct fs) =>
   match fs[f]? with
   | some fd =>
     match fP P fd.type with
     | some (b,k)=>if b=true∨k=1 then some (fd.offset,b,k) else none
     | none=>none
   | none=>none
 | _=>none
def Ks (T f:Nat) (x:AV):Option AV :=
 match x with
 | .agg cs =>
   match fieldInfo P T f with
   | some (off,true,k)=>if off+k≤cs.length then some (.agg ((cs.drop off).take k)) else none
   | some (off,false,_)=>cs[off]?
   | none=>none
 | _=>none
noncomputable def iV (st:St):Op→Option AV
 | .move x=>some (st.ev x)
 | .assign x=>some (st.ev x)
 | .pick c a b =>
   match st.ev c with
   | .v (.bool t)=>some (if t=true then st.ev a else st.ev b)
   | _=>none
 | .binOp op T x y _=>gD P op T (st.ev x) (st.ev y)
 | .unOp op _ x=>unA op (st.ev x)
 | .convert src dst x =>
   match st.ev x,intKind P dst,intKind P src with
   | .v (.int _ n),some k,some _=>some (.v (.int k (k.wrap n)))
   | _,_,_=>none
 | .nilCheck x =>
   match st.ev x with
   | .ptr s g o=>some (.ptr s g o)
   | .ip cs o=>some (.ip cs o)
   | _=>none
 | .field T x f=>Ks P T f (st.ev x)
 | .fieldAddr T x f =>
   match aV P T f with
   | some k=>vA (st.ev x) k
   | none=>none
 | .indexAddr T x i=>bF P st T (st.ev x) (st.ev i)
 | .load T a=>cN (qI st (st.ev a)) (xO P T)
 | .extract t i =>
   match st.ev t with
   | .eN vs=>vs[i]?
   | _=>none
 | .build T parts=>iU P st T parts.toList
 | .slice T x lo hi none=>cW P st T (st.ev x) lo hi
 | .slice T x lo (some h) (some m)=>vX P st T (st.ev x) lo h m
 | .lookup T x i ok=>Sm P st T (st.ev x) (st.ev i) ok
 | .makeFunc (.func f) first captured=>if first=#[] then some (.uO f (captured.toList.map st.ev)) else none
 | _=>none
def pT (st:St) (T:Nat) (a x:AV):Option (Nat × Nat × nM) :=
 match a with
 | .ptr s g o =>
   match fP P T with
   | some (_,k) =>
     if x.cells.length=k∧x.jD=true then
      match st.heap s g with
      | some (.cells cs)=>if o+k≤cs.length then some (s,g,.cells (cs.take o++x.cells++cs.drop (o+k))) else none
      | some (.row e sz n cs)=>if o+k≤cs.length then some (s,g,.row e sz n (cs.take o++x.cells++cs.drop (o+k))) else none
      | _=>none
     else none
   | none=>none
 | _=>none
def dE (st:St) (T:Nat) (s x:AV):Option (Option (Nat × Nat) × nM) :=
 match dM P T with
 | some (e,sz,by_) =>
   match aR st x with
   | some (m,news) =>
     if news.length=m * sz then
      match s with
      | .v (.slice none 0 0) =>
        if m * by_≤140737488355328∧m≤maxLen then some (none,.row e sz m news) else none
      | .own s' g' =>
        match st.heap s' g' with
        | some (.row e' tM n cs) =>
          if e'=e∧tM=sz∧(n+m) * by_≤140737488355328∧n+m≤maxLen then
           some (some (s',g'),.row e sz (n+m) (cs++news))
          else none
        | _=>none
      | .cl n cs =>
        if cs.length=n * sz∧(n=0∨0<m)∧(n+m) * by_≤140737488355328∧n+m≤maxLen then some (none,.row e sz (n+m) (cs++news)) else none
      | _=>none
     else none
   | none=>none
 | none=>none
def kY (st:St) (T:Nat) (s x:AV):Option (Nat × Nat × nM × Nat) :=
 match dM P T,aR st x,s with
 | some (e,sz,_),some (m,news),.vw s' g' 0 k =>
   match st.heap s' g' with
   | some (.row e' tM n cs) =>
     if e'=e∧tM=sz∧news.length=m * sz∧k+m≤n then some (s',g',.row e' tM n (cs.take (k * sz)++news++cs.drop (k * sz+m * sz)),k+m) else none
   | _=>none
 | _,_,_=>none
def rV (st:St) (T:Nat) (x:AV):Option (Option (Nat × Nat × nM)) :=
 match dM P T,x with
 | some (e,sz,_),.vw s g o k =>
   match dZ P e,st.heap s g with
   | some z,some (.row e' tM n cs)=>if e'=e∧tM=sz∧o+k * sz≤cs.length then some (some (s,g,.row e' tM n (cs.take o++((List.range k).flatMap fun _=>z.map .v)++cs.drop (o+k * sz)))) else none
   | _,_=>none
 | some _,.sl 0 _=>some none
 | some _,.v (.slice none 0 0)=>some none
 | _,_=>none
def Gp (st:St) (T:Nat) (s x:AV):Prop:=s=.v (.slice none 0 0)∧(dM P T).isSome=true∧(aR st x).map Prod.fst=some 0
noncomputable def qA (st:St) (x:AV):Option AV :=
 if Flat x then some x else
 match x with
 | .own s g =>
   match st.heap s g with
   | some (.row _ _ n cs)=>if ∀c∈cs,Flat c then some (.sl n cs) else none
   | _=>none
 | .vw s g o n =>
   match st.heap s g with
   | some (.row _ sz _ cs)=>if (∀c∈cs,Flat c)∧o+n * sz≤cs.length then some (.sl n ((cs.drop o).take (n * sz))) else none
   | _=>none
 | _=>none
def cC {α:Type}:List (Option α)→Option (List α)
 | []=>some []
 | some x :: r=>(cC r).map (x :: ·)
 | none :: _=>none
noncomputable def cA (st:St) (x:AV):Option AV :=
 if Flat x then some x else
 match x with
 | .own s g =>
   match st.heap s g with
   | some (.row _ _ n cs)=>if ∀c∈cs,Flat c then some (.sl n cs) else none
   | _=>none
 | .vw s g o n =>
   match st.heap s g with
   | some (.row _ sz _ cs)=>if (∀c∈cs,Flat c)∧o+n * sz≤cs.length then some (.sl n ((cs.drop o).take (n * sz))) else none
   | _=>none
 | .ptr s g o =>
   match st.heap s g with
   | some (.cells cs)=>(cC (cs.map (qA st))).map fun ds=>.ip ds o
   | _=>none
 | _=>none
noncomputable def fK (st:St) (x:AV):Option AV :=
 if Flat x then some x else
 match x with
 | .agg cs=>(cC (cs.map (cA st))).map .agg
 | .uO f nN=>(cC (nN.map (cA st))).map (.uO f)
 | x=>cA st x
def FJ:AV→Option (Nat × List AV)
 | .v (.func (.func f) first nN)=>if first=#[]∧nN=#[] then some (f,[]) else none
 | .uO f nN=>some (f,nN)
 | _=>none
def xP (d c:Nat):AV→AV × List nM
 | .uniq e sz n cs=>(.own d c,[.row e sz n cs])
 | x=>(x,[])
def pU (f:Nat→AV→AV × List nM):Nat→List AV→List AV × List nM
 | _,[]=>([],[])
 | c,x :: xs=>((f c x).1 :: (pU f (c+(f c x).2.length) xs).1,(f c x).2++(pU f (c+(f c x).2.length) xs).2)
def Tp (d c:Nat):AV→AV × List nM
 | .agg cs=>(.agg (pU (xP d) c cs).1,(pU (xP d) c cs).2)
 | x=>xP d c x
def XN (d c:Nat):AV→AV × List nM
 | .eN vs=>(.eN (pU (Tp d) c vs).1,(pU (Tp d) c vs).2)
 | x=>Tp d c x
def SH:AV→Prop
 | .uniq _ _ _ cs=>∀c∈cs,dY c
 | x=>dY x
def SI:AV→Prop
 | .agg cs=>∀c∈cs,SH c
 | x=>SH x
def Vl:AV→Prop
 | .eN vs=>∀x∈vs,SI x
 | x=>SI x
noncomputable def jA (r:AV) (st:St) (dst:Option Nat):Option rC :=
 if Flat r then some { dst:=dst,val:=r } else
 match dst with
 | some d=>some { dst:=some d,val:=(XN d (st.aP d) r).1,new:=some (d,(XN d (st.aP d) r).2)}
 | none=>none
noncomputable def aL (call:Nat→List AV→Option AV) (g:Nat) (args:List AV) (st:St) (dst:Option Nat):Option rC :=
 if ∀x∈args,Flat x then cN (call g args) fun r=>jA r st dst
 else
  match cC (args.map (fK st)) with
  | some xs=>cN (call g xs) fun r=>if Vl r then jA r st dst else none
  | none=>none
noncomputable def lN (call:Nat→List AV→Option AV) (g:Nat) (args:List AV) (st:St) (dst:Option Nat):Option rC :=
 match args with
 | .own s k :: rest =>
   match st.heap s k with
   | some (.row e sz n cs) =>
     if (∀c∈cs,Flat c)∧∀x∈rest,Flat x then
      match call g (.uniq e sz n cs :: rest) with
      | some (.uniq e' tM n' Du) =>
        match dst with
        | some d=>some { dst:=some d,val:=.own d (st.aP d),dK:=some (s,k,none),new:=some (d,[.row e' tM n' Du])}
        | none=>none
      | some (.eN [.uniq e' tM n' Du])=>some { dst:=dst,val:=.eN [],dK:=some (s,k,some (.row e' tM n' Du))}
      | _=>none
     else none
   | _=>none
 | args=>if ∀x∈args,Flat x then aL call g args st dst else none
def gJ:AV→List (Nat × Nat)
 | .own s g=>[(s,g)]
 | _=>[]
def jE:AV→List (Nat × Nat)
 | .agg cs=>cs.flatMap gJ
 | x=>gJ x
def lW:AV→List (Nat × Nat)
 | .eN vs=>vs.flatMap jE
 | x=>jE x
def XO (x:AV):Prop:=Flat x∨(∃s k,x=.own s k)∨∃cs,x=.agg cs∧∀c∈cs,Flat c∨∃s k,c=.own s k
noncomputable def Ea (r:AV) (st:St) (dst:Option Nat) (s k:Nat):Option rC :=
 if Flat r then some { dst:=dst,val:=r,dK:=some (s,k,none)} else
 match r,dst with
 | .uniq e sz n cs,some d=>if ∀c∈cs,dY c then some { dst:=some d,val:=.own d (st.aP d),dK:=some (s,k,none),new:=some (d,[.row e sz n cs])} else none
 | _,_=>none
noncomputable def fF (call:Nat→List AV→Option AV) (g:Nat) (args:List AV) (st:St) (dst:Option Nat):Option rC :=
 match args.flatMap jE with
 | [(s,k)] =>
   if ∀x∈args,XO x then
    match cC (args.map (fK st)) with
    | some xs=>cN (call g xs) fun r=>Ea r st dst s k
    | none=>none
   else none
 | _=>aL call g args st dst
section ext
variable [Ext]
noncomputable def oA (call:Nat→List AV→Option AV) (f:Operand) (args:List AV) (st:St) (dst:Option Nat):Option rC :=
 match f with
 | .func g=>if Ext.mv g=true then lN call g args st dst else if Ext.eat g dst=true then fF call g args st dst else aL call g args st dst
 | f =>
   match FJ (st.ev f) with
   | some (g,nN)=>aL call g (args++nN) st dst
   | none=>none
noncomputable def iJ (call:Nat→List AV→Option AV) (c:Call) (dst:Option Nat) (st:St):Option rC :=
 match c.callee with
 | .value f=>oA call f (c.args.toList.map st.ev) st dst
 | .builtin .len =>
   match c.args.toList,c.argTypes.toList with
   | [x],[T] =>
     match dM P T,aR st (st.ev x) with
     | some _,some (n,_)=>some { dst:=dst,val:=.v (.int .i64 n)}
     | _,_=>none
   | _,_=>none
 | .builtin .min =>
   match c.args.toList with
   | [x,y] =>
     match st.ev x,st.ev y with
     | .v (.int k a),.v (.int _ b)=>some { dst:=dst,val:=.v (.int k (if b<a then b else a))}
     | _,_=>none
   | _=>none
 | .builtin .max =>
   match c.args.toList with
   | [x,y] =>
     match st.ev x,st.ev y with
     | .v (.int k a),.v (.int _ b)=>some { dst:=dst,val:=.v (.int k (if b > a then b else a))}
     | _,_=>none
   | _=>none
 | .builtin .append =>
   cN dst fun d =>
    match c.args.toList,c.argTypes.toList with
    | [s,x],[T,T'] =>
      if T=T' then
       if Ext.va T d=true then (kY P st T (st.ev s) (st.ev x)).map fun u=>{ dst:=some d,val:=.vw u.1 u.2.1 0 u.2.2.2,dK:=some (u.1,u.2.1,some u.2.2.1)} else
       if Ext.pa T d=true∧Gp P st T (st.ev s) (st.ev x) then some { dst:=some d,val:=.v (.slice none 0 0)} else
       cN (dE P st T (st.ev s) (st.ev x)) fun ur=>some { dst:=some d,val:=.own d (st.aP d),dK:=ur.1.map fun p=>(p.1,p.2,none),new:=some (d,[ur.2])}
      else none
    | _,_=>none
 | .builtin .clear =>
   match c.args.toList,c.argTypes.toList with
   | [x],[T]=>(rV P st T (st.ev x)).map fun u=>{ dst:=dst,val:=.eN [],dK:=u.map fun p=>(p.1,p.2.1,some p.2.2)}
   | _,_=>none
 | _=>none
noncomputable def dI (call:Nat→List AV→Option AV) (o:Oper) (st:St):Option rC :=
 match o.op with
 | .alloc T =>
   cN o.dst fun d=>cN (dZ P T) fun z=>some { dst:=some d,val:=.ptr d (st.aP d) 0,new:=some (d,[.cells (z.map .v)])}
 | .box _ x =>
   cN o.dst fun d=>if (st.ev x).jD=true then some { dst:=some d,val:=.ptr d (st.aP d) 0,new:=some (d,[.cells (st.ev x).cells])} else none
 | .buildSlice T n parts =>
   cN o.dst fun d=>cN (dM P T) fun t=>cN (dZ P t.1) fun z =>
    if (0<n∨parts=#[])∧n * t.2.1≤2 ^ 24∧(parts.toList.all fun p=>(st.ev p.2).jD)=true then
     cN (gT (fun i=>some (i * t.2.1,t.2.1)) ((List.range n).flatMap fun _=>z.map .v) (parts.toList.map fun p=>(p.1,st.ev p.2))) fun cs =>
      some { dst:=some d,val:=.own d (st.aP d),new:=some (d,[.row t.1 t.2.1 n cs])}
    else none
 | .makeSlice T l c =>
   cN o.dst fun d=>cN (dM P T) fun t=>cN (dZ P t.1) fun z =>
    match st.ev l,st.ev c with
    | .v (.int .i64 n),.v (.int .i64 m) =>
      if 0≤n∧n=m∧n * t.2.2≤140737488355328∧n≤maxLen then
       some { dst:=some d,val:=.own d (st.aP d),new:=some (d,[.row t.1 t.2.1 n.toNat ((List.range n.toNat).flatMap fun _=>z.map .v)])}
      else none
    | _,_=>none
 | .store T a x=>(pT P st T (st.ev a) (st.ev x)).map fun u=>{ dst:=o.dst,val:=.v undef,dK:=some (u.1,u.2.1,some u.2.2)}
 | .makeMap _ none=>cN o.dst fun d=>some { dst:=some d,val:=.mp d (st.aP d),new:=some (d,[.map []])}
 | .mapUpdate T m x y=>(tQ P st T (st.ev m) (st.ev x) (st.ev y)).map fun u=>{ dst:=o.dst,val:=.v undef,dK:=some (u.1,u.2.1,some u.2.2)}
 | .call c=>iJ P call c o.dst st
 | op=>(iV P st op).map fun x=>{ dst:=o.dst,val:=x }
def gv (ops:Array Oper) (st:St) (g:Option (Nat × Bool)):Option Bool :=
 match g with
 | none=>some true
 | some (j,want) =>
   match (ops[j]?).bind (·.dst) with
   | some d =>
     match st.env d with
     | .v x=>match x with
       | .bool b=>some (b == want)
       | _=>some false
     | _=>none
   | none=>some false
noncomputable def cF (call:Nat→List AV→Option AV) (ops:Array Oper) (o:Oper) (st:St):Option St :=
 match gv ops st o.guard with
 | some b=>if b=true then (dI P call o st).map fun e=>e.apply st else some (st.put o.dst (.v undef))
 | none=>none
noncomputable def Ms (call:Nat→List AV→Option AV) (ops:Array Oper):List Oper→St→Option St
 | [],st=>some st
 | o :: r,st=>cN (cF P call ops o st) (Ms call ops r)
def Fk (o:Oper):Option (Nat × List Operand) :=
 match o.op with
 | .call { callee:=.value (.func g),args,.. }=>if Ext.inl g o.dst=true then some (g,args.toList) else none
 | _=>none
def XP (o:Oper):Bool:=(Fk o).isNone
def aJa (ops:Array Oper):Bool:=ops.all XP
def rZ (ops:Array Oper):Option Nat:=(ops[0]?).bind (·.dst)
def St.back (st:St) (s:St):St:=⟨st.env,s.heap,s.aP⟩
noncomputable def gU (b:Bool) (call:Nat→List AV→Option AV) (inl:Nat→List AV→St→Option (AV × St)) (ops:Array Oper) (o:Oper) (st:St):Option St :=
 match (if b=true then Fk o else none) with
 | some (g,args) =>
   match gv ops st o.guard with
   | some t=>if t=true then (inl g (args.map st.ev) st).map fun r=>(st.back r.2).put o.dst r.1 else some (st.put o.dst (.v undef))
   | none=>none
 | none=>cF P call ops o st
noncomputable def mL (b:Bool) (call:Nat→List AV→Option AV) (inl:Nat→List AV→St→Option (AV × St)) (ops:Array Oper):List Oper→St→Option St
 | [],st=>some st
 | o :: r,st=>cN (gU P b call inl ops o st) (mL b call inl ops r)
def gY (o:Oper):Option (List Nat) :=
 match o.guard with
 | some _=>none
 | none =>
   match o.op with
   | .load _ (.tmp a)=>some [a]
   | .store _ (.tmp a) _=>some [a]
   | .indexAddr _ (.tmp a) _=>some [a]
   | .slice _ (.tmp a) _ _ _=>some [a]
   | .call { callee:=.builtin .len,args,.. } =>
     match args.toList with
     | [.tmp a]=>some [a]
     | _=>none
   | .call { callee:=.builtin .append,args,.. } =>
     match args.toList with
     | [.tmp a,.tmp b]=>some [a,b]
     | _=>none
   | .call { callee:=.value (.func g),args,.. } =>
     match args.toList with
     | .tmp a :: _=>if Ext.mv g=true then some [a] else none
     | _=>none
   | _=>none
def keyOf:AV→Option (Option (Nat × Nat))
 | .ptr s g _=>some (some (s,g))
 | .own s g=>some (some (s,g))
 | .vw s g _ _=>some (some (s,g))
 | .v _=>some none
 | .sl _ _=>some none
 | .cl _ _=>some none
 | .ip _ _=>some none
 | _=>none
def aBx:Option (Option (Nat × Nat))→Option (Option (Nat × Nat))→Prop
 | some (some k),some (some k')=>k≠k'
 | some _,some _=>True
 | _,_=>False
def fW (x y:AV):Prop:=aBx (keyOf x) (keyOf y)
def Kt (s:St) (aS bs:List Nat):Prop:=∀a∈aS,∀b∈bs,fW (s.env a) (s.env b)
def Vm (ops:Array Oper) (s:St) (p:Nat × Nat):Prop :=
 match (ops[p.1]?).bind gY,(ops[p.2]?).bind gY with
 | some aS,some bs=>Kt s aS bs
 | _,_=>False
def qB (ops:Array Oper) (s:St):List (Nat × Nat)→Prop
 | []=>True
 | p :: l=>Vm ops s p∧qB ops s l
inductive Ex where
 | normal
 | exit (id:Nat)
 | ret
def Ex.inBlock (id:Nat):Ex→Ex
 | .exit i=>if i=id then .normal else .exit i
 | e=>e
noncomputable def uP (bi:Bool) (call:Nat→List AV→Option AV) (inl:Nat→List AV→St→Option (AV × St)):Nat→Code→St→Option (Ex × St)
 | 0,_,_=>none
 | n+1,c,st =>
   match c with
   | .skip=>some (.normal,st)
   | .region id ops _=>cN (mL P bi call inl ops ops.toList st) fun s=>if bi=true∧¬qB ops s (Ext.dyn id ops.size (rZ ops)) then none else some (.normal,s)
   | .seq a b=>cN (uP bi call inl n a st) fun r=>match r.1 with
     | .normal=>uP bi call inl n b r.2
     | e=>some (e,r.2)
   | .cond c a b =>
     match st.ev c with
     | .v (.bool t)=>if t=true then uP bi call inl n a st else uP bi call inl n b st
     | _=>none
   | .block id b=>cN (uP bi call inl n b st) fun r=>some (r.1.inBlock id,r.2)
   | .loop b=>cN (uP bi call inl n b st) fun r=>match r.1 with
     | .normal=>uP bi call inl n (.loop b) r.2
     | e=>some (e,r.2)
   | .exit id=>some (.exit id,st)
   | .ret=>some (.ret,st)
   | _=>none
def kE (st:St):ResultVar→Option AV
 | .tmp t=>some (st.env t)
 | .cell a T=>cN (qI st (st.env a)) (xO P T)
noncomputable def Sn (st:St) (x:AV):Option AV :=
 match x with
 | .own s g =>
   match st.heap s g with
   | some (.row e sz n cs)=>if ∀c∈cs,Flat c then some (.uniq e sz n cs) else none
   | _=>none
 | x=>fK st x
noncomputable def Cg (st:St) (x:AV):Option AV :=
 match x with
 | .own s g =>
   match st.heap s g with
   | some (.row _ _ n cs)=>(cC (cs.map (cA st))).map (.sl n)
   | _=>none
 | x=>cA st x
noncomputable def Mt (st:St) (x:AV):Option AV :=
 match x with
 | .agg cs=>(cC (cs.map (Cg st))).map .agg
 | x=>Cg st x
noncomputable def Ch (st:St) (x:AV):Option AV :=
 match fK st x with
 | some y=>some y
 | none=>Mt st x
noncomputable def vY (fn:Func) (st:St):Option AV :=
 match fn.results.toList with
 | [r]=>cN (kE P st r) (Sn st)
 | rs=>(cC (rs.map fun r=>cN (kE P st r) (Ch st))).map .eN
noncomputable def kN (st:St) (x:AV):Option AV :=
 if Flat x then some x else
 match x with
 | .own s g =>
   match st.heap s g with
   | some (.row e sz n cs)=>if ∀c∈cs,Flat c then some (.uniq e sz n cs) else none
   | _=>none
 | _=>none
noncomputable def rW (st:St):AV→Option AV
 | .agg cs=>(cC (cs.map (kN st))).map .agg
 | x=>kN st x
noncomputable def Ci (st:St):AV→Option AV
 | .eN vs=>(cC (vs.map (rW st))).map .eN
 | x=>rW st x
noncomputable def Mu (fn:Func) (st:St):Option AV :=
 match fn.results.toList with
 | [r]=>cN (kE P st r) fun x=>if (lW x).Nodup then Ci st x else none
 | rs=>cN (cC (rs.map fun r=>kE P st r)) fun xs=>if (lW (.eN xs)).Nodup then Ci st (.eN xs) else none
noncomputable def jT (f:Nat) (fn:Func) (st:St):Option AV:=if Ext.qH f=true then Mu P fn st else vY P fn st
def St.init (xs:List AV):St:=⟨fun t=>(xs[t]?).getD (.v undef),fun _ _=>none,fun _=>0⟩
def mS (ops:Array Oper) (o:Oper):Nat:= -- 0: touches no memory · 1: reads · 2: makes memory · 3: writes
 match o.op with
 | .load ..=>1
 | .indexAddr ..=>1
 | .slice ..=>1
 | .alloc _|.box .. | .buildSlice .. | .makeSlice .. | .makeMap ..=>2
 | .store ..=>3
 | .mapUpdate ..=>3
 | .lookup ..=>1
 | .call { callee:=.builtin .append,args,.. }=>match args.toList with
   | .const (.slice none 0 0) :: _=>1
   | _=>3
 | .call { callee:=.builtin .len,.. }=>1
 | .call { callee:=.builtin .clear,.. }=>3
 | .call { callee:=.value (.func g),args,.. }=>if Ext.eat g o.dst=true then 3 else if Ext.mv g=true then (match args.toList with
   | .const (.slice none 0 0) :: _=>1
   | _=>3) else 1
 | .call _=>1
 | .select ..=>4
 | _=>if ops.size=0 then 0 else 0
def sJ (ops:Array Oper) (x y:Oper):Bool :=
 Oper.apart ops x y &&
 (match mS ops x,mS ops y with
  | 4,_=>false
  | _,4=>false
  | 3,1=>false
  | 1,3=>false
  | 3,3=>false
  | _,_=>true)
def SJ (acc:Array Nat) (o:Oper):Nat :=
 o.after.toList.foldl (fun s e=>if Region.binds .any e=true then s ||| 2 ^ e.on ||| acc.getD e.on 0 else s) 0
def forced {α:Type} (n:Nat) (k:Nat→α):α :=
 match n with
 | 0=>k 0
 | m+1=>k (m+1)
def DB:List Oper→Array Nat→Array Nat
 | [],acc=>acc
 | o :: r,acc=>forced (SJ acc o) fun n=>DB r (acc.push n)
def wE (b:Array Nat) (i:Nat) (aS:List Nat):List Oper→Nat→Bool
 | [],_=>true
 | o :: r,m=>((match o.dst with | some d=>!aS.contains d | none=>true) || (b.getD i 0).testBit m) && wE b i aS r (m+1)
def FK (ops:Array Oper) (b:Array Nat) (i:Nat) (oi:Oper) (j:Nat) (oj:Oper):Bool :=
 match gY oi,gY oj with
 | some aS,some bs=>Oper.apart ops oi oj && wE b i aS ops.toList 0 && wE b j bs ops.toList 0
 | _,_=>false
def Mv (ops:Array Oper) (dy:List (Nat × Nat)) (b:Array Nat) (j:Nat) (oj:Oper):List Oper→Nat→Bool
 | [],_=>true
 | oi :: r,i=>(decide (j≤i) || (b.getD j 0).testBit i || (XP oi && XP oj && (sJ ops oi oj || (dy.contains (i,j) && FK ops b i oi j oj)))) && Mv ops dy b j oj r (i+1)
def FL (ops:Array Oper) (dy:List (Nat × Nat)) (b:Array Nat):List Oper→Nat→Bool
 | [],_=>true
 | oj :: r,j=>(oj.after.toList.all fun e=>!(Region.binds .any e) || decide (e.on<j)) && Mv ops dy b j oj ops.toList 0 && FL ops dy b r (j+1)
def Vn (ops:Array Oper) (dy:List (Nat × Nat)):Bool:=FL ops dy (DB ops.toList #[]) ops.toList 0
def codeOk (bi:Bool) (nt:Nat):Code→Bool
 | .region id ops draw=>(ops.all fun o=>o.dst.all fun d=>decide (d<nt)) && (!draw || (Vn ops (if bi=true then Ext.dyn id ops.size (rZ ops) else [])))
 | .seq a b=>codeOk bi nt a && codeOk bi nt b
 | .cond _ a b=>codeOk bi nt a && codeOk bi nt b
 | .block _ b=>codeOk bi nt b
 | .loop b=>codeOk bi nt b
 | _=>true
def oB:Code→Bool
 | .region _ ops draw=>!aJa ops || (draw && !Vn ops [])
 | .seq a b=>oB a || oB b
 | .cond _ a b=>oB a || oB b
 | .block _ b=>oB b
 | .loop b=>oB b
 | _=>false
def DC (bi : Bool) (fn : Func) : Bool := fn.name != "runtime.NumGoroutine" && (match fn.body with | some c => codeOk bi fn.ntmps c | none => false)
def tN (fn:Func):Bool:=DC (match fn.body with|some c=>oB c|none=>false) fn
noncomputable def ZX (call:Nat→List AV→Option AV) (inl:Nat→List AV→St→Option (AV × St)) (n f:Nat) (xs:List AV):Option AV :=
 match P.funcs[f]? with
 | some fn =>
   if tN fn=true then
    match fn.body with
    | some c=>cN (uP P (oB c) call inl n c (St.init xs)) fun r=>match r.1 with
      | .exit _=>none
      | _=>jT P f fn r.2
    | none=>none
   else none
 | none=>none
def St.sZ (e sz n:Nat) (cs rest:List AV):St :=
 ⟨fun t=>match t with|0=>.own 0 0|t+1=>(rest[t]?).getD (.v undef),fun s g=>if s=0∧g=0 then some (.row e sz n cs) else none,fun s=>if s=0 then 1 else 0⟩
noncomputable def An (fn:Func) (st:St):Option AV :=
 match fn.results.toList with
 | [r] =>
   match kE P st r with
   | some (.own s g) =>
     match st.heap s g with
     | some (.row e sz n cs)=>if ∀c∈cs,dY c then some (.uniq e sz n cs) else none
     | _=>none
   | some (.vw s g 0 k) =>
     match st.heap s g with
     | some (.row e sz n cs)=>if k≤n∧cs.length=n * sz∧∀c∈cs,dY c then some (.uniq e sz k (cs.take (k * sz))) else none
     | _=>none
   | _=>none
 | _=>none
noncomputable def runM (call:Nat→List AV→Option AV) (inl:Nat→List AV→St→Option (AV × St)) (n f e sz m:Nat) (cs rest:List AV):Option AV :=
 match P.funcs[f]? with
 | some fn =>
   if tN fn=true then
    match fn.body with
    | some c=>cN (uP P (oB c) call inl n c (St.sZ e sz m cs rest)) fun r=>match r.1 with
      | .exit _=>none
      | _=>An P fn r.2
    | none=>none
   else none
 | none=>none
noncomputable def Ao (fn:Func) (st:St):Option AV :=
 match fn.results.toList with
 | [r]=>kE P st r
 | rs=>(cC (rs.map fun r=>kE P st r)).map .eN
noncomputable def ZY (call:Nat→List AV→Option AV) (inl:Nat→List AV→St→Option (AV × St)) (n f:Nat) (xs:List AV) (st:St):Option (AV × St) :=
 match P.funcs[f]? with
 | some fn =>
   if DC true fn=true then
    match fn.body with
    | some c=>cN (uP P true call inl n c ((St.init xs).back st)) fun r=>match r.1 with
      | .exit _=>none
      | _=>(Ao P fn r.2).map fun x=>(x,r.2)
    | none=>none
   else none
 | none=>none
def tR:AV→Bool
 | .uniq _ _ _ _=>true
 | _=>false
def tS:List AV→Option (Nat × Nat × Nat × List AV × List AV)
 | .uniq e sz m cs :: rest=>some (e,sz,m,cs,rest)
 | _=>none
noncomputable def KP:Nat→(Nat→List AV→Option AV) × (Nat→List AV→St→Option (AV × St))
 | 0=>(Ext.ext,fun _ _ _=>none)
 | n+1=>(fun f xs=>match Ext.ext f xs with
   | some r=>some r
   | none =>
     match tS xs with
     | some u=>runM P (KP n).1 (KP n).2 n f u.1 u.2.1 u.2.2.1 u.2.2.2.1 u.2.2.2.2
     | none=>if xs.any tR=true then none else ZX P (KP n).1 (KP n).2 n f xs,
  fun f xs st=>ZY P (KP n).1 (KP n).2 n f xs st)
noncomputable def Mn (n:Nat):Nat→List AV→Option AV:=(KP P n).1
noncomputable def Vo (n:Nat):Nat→List AV→St→Option (AV × St):=(KP P n).2
theorem Vp (f:Nat) (xs:List AV):Mn P 0 f xs=Ext.ext f xs:=rfl
theorem yR (n f:Nat) (xs:List AV):Mn P (n+1) f xs=match Ext.ext f xs with
 | some r=>some r
 | none =>
   match tS xs with
   | some u=>runM P (Mn P n) (Vo P n) n f u.1 u.2.1 u.2.2.1 u.2.2.2.1 u.2.2.2.2
   | none=>if xs.any tR=true then none else ZX P (Mn P n) (Vo P n) n f xs:=rfl
theorem K8 (f:Nat) (xs:List AV) (st:St):Vo P 0 f xs st=none:=rfl
theorem Mw (n f:Nat) (xs:List AV) (st:St):Vo P (n+1) f xs st=ZY P (Mn P n) (Vo P n) n f xs st:=rfl
end ext
end ops
end Go.Ab
end
section
namespace Go.Ab
open Classical
structure Ctx where
 h:Nat→Obj→Prop
 ρ:Nat→Nat→Value
 aP:Nat→Nat
def dF:Value→Option Nat
 | .pointer (some a)=>some a.block
 | .slice (some a) _ (_+1)=>some a.block
 | .map (some r)=>some r
 | _=>none
inductive cY (C:Ctx):AV→Value→Prop
 | v (x:Value):cY C (.v x) x
 | agg (cs:List AV) (a:Array Value) (hl:cs.length=a.size) (h:∀(i:Nat) (x:AV) (y:Value),cs[i]? = some x→a[i]? = some y→cY C x y)
  (h1:∀(i:Nat) (y:Value),a[i]? = some y→y.oneCell'=true):cY C (.agg cs) (.agg a)
 | KQ (n cap:Nat) (p:Option Addr) (nA:n≤cap):cY C (.sl n []) (.slice p n cap)
 | sl (n:Nat) (cs:List AV) (b off cap:Nat) (arr:Array Value) (T:Nat) (fr:Nat × Nat) (nA:n≤cap) (hb:C.h b (.cells arr T fr)) (hle:off+cs.length≤arr.size)
  (h:∀(i:Nat) (x:AV) (y:Value),cs[i]? = some x→arr[off+i]? = some y→cY C x y)
  (h1:∀(i:Nat) (y:Value),i<cs.length→arr[off+i]? = some y→y.oneCell'=true):cY C (.sl n cs) (.slice (some ⟨b,off,none⟩) n cap)
 | cl0 (n:Nat) (p:Option Addr):cY C (.cl n []) (.slice p n n)
 | cl (n:Nat) (cs:List AV) (b off:Nat) (arr:Array Value) (T:Nat) (fr:Nat × Nat) (hb:C.h b (.cells arr T fr)) (hle:off+cs.length≤arr.size)
  (h:∀(i:Nat) (x:AV) (y:Value),cs[i]? = some x→arr[off+i]? = some y→cY C x y)
  (h1:∀(i:Nat) (y:Value),i<cs.length→arr[off+i]? = some y→y.oneCell'=true):cY C (.cl n cs) (.slice (some ⟨b,off,none⟩) n n)
 | ip (cs:List AV) (o b off:Nat) (arr:Array Value) (T:Nat) (fr:Nat × Nat) (hb:C.h b (.cells arr T fr)) (hle:off+cs.length≤arr.size)
  (h:∀(i:Nat) (x:AV) (y:Value),cs[i]? = some x→arr[off+i]? = some y→cY C x y)
  (h1:∀(i:Nat) (y:Value),i<cs.length→arr[off+i]? = some y→y.oneCell'=true):cY C (.ip cs o) (.pointer (some ⟨b,off+o,none⟩))
 | ptr (s g off b:Nat) (hg:g<C.aP s) (hb:dF (C.ρ s g)=some b):cY C (.ptr s g off) (.pointer (some ⟨b,off,none⟩))
 | own (s g:Nat) (hg:g<C.aP s) (ho:(C.ρ s g).oneCell'=true):cY C (.own s g) (C.ρ s g)
 | mp (s g:Nat) (hg:g<C.aP s) (ho:(C.ρ s g).oneCell'=true):cY C (.mp s g) (C.ρ s g)
 | vw (s g o n b cap:Nat) (hg:g<C.aP s) (hb:dF (C.ρ s g)=some b) (nA:n≤cap) (yS:o=0→∀p n0 c0,C.ρ s g=.slice p n0 c0→cap=c0):cY C (.vw s g o n) (.slice (some ⟨b,o,none⟩) n cap)
 | uO (f:Nat) (cs:List AV) (a:Array Value) (hl:cs.length=a.size) (h:∀(i:Nat) (x:AV) (y:Value),cs[i]? = some x→a[i]? = some y→cY C x y) :
  cY C (.uO f cs) (.func (.func f) #[] a)
 | eN (cs:List AV) (a:Array Value) (hl:cs.length=a.size) (h:∀(i:Nat) (x:AV) (y:Value),cs[i]? = some x→a[i]? = some y→cY C x y) :
  cY C (.eN cs) (.tuple a)
structure Ctx.Le (C D:Ctx):Prop where
 h:∀b o,C.h b o→D.h b o
 aP:∀s,C.aP s≤D.aP s
 ρ:∀s g,g<C.aP s→D.ρ s g=C.ρ s g
theorem Ctx.Le.refl (C:Ctx):C.Le C:=⟨fun _ _ h=>h,fun _=>Nat.le_refl _,fun _ _ _=>rfl⟩
theorem Ctx.Le.trans {C D E:Ctx} (h:C.Le D) (k:D.Le E):C.Le E :=
 ⟨fun b o x=>k.h b o (h.h b o x),fun s=>Nat.le_trans (h.aP s) (k.aP s),fun s g x=>(k.ρ s g (Nat.lt_of_lt_of_le x (h.aP s))).trans (h.ρ s g x)⟩
theorem cY.le {C D:Ctx} {x:AV} {y:Value} (hr:cY C x y) (k:C.Le D):cY D x y:=by
 induction hr with
 | v x=>exact .v x
 | agg cs a hl _ h1 ih=>exact .agg cs a hl ih h1
 | KQ n cap p nA=>exact .KQ n cap p nA
 | sl n cs b off cap arr T fr nA hb hle _ h1 ih=>exact .sl n cs b off cap arr T fr nA (k.h _ _ hb) hle ih h1
 | cl0 n p=>exact .cl0 n p
 | cl n cs b off arr T fr hb hle _ h1 ih=>exact .cl n cs b off arr T fr (k.h _ _ hb) hle ih h1
 | ip cs o b off arr T fr hb hle _ h1 ih=>exact .ip cs o b off arr T fr (k.h _ _ hb) hle ih h1
 | ptr s g off b hg hb=>exact .ptr s g off b (Nat.lt_of_lt_of_le hg (k.aP s)) (by rw[k.ρ s g hg];exact hb)
 | own s g hg ho=>rw[← k.ρ s g hg];exact .own s g (Nat.lt_of_lt_of_le hg (k.aP s)) (by rw[k.ρ s g hg];exact ho)
 | vw s g o n b cap hg hb nA yS=>exact .vw s g o n b cap (Nat.lt_of_lt_of_le hg (k.aP s)) (by rw[k.ρ s g hg];exact hb) nA (by rw[k.ρ s g hg];exact yS)
 | mp s g hg ho=>rw[← k.ρ s g hg];exact .mp s g (Nat.lt_of_lt_of_le hg (k.aP s)) (by rw[k.ρ s g hg];exact ho)
 | uO f cs a hl _ ih=>exact .uO f cs a hl ih
 | eN cs a hl _ ih=>exact .eN cs a hl ih
structure gC (C:Ctx) (cs:List AV) (ys:List Value):Prop where
 len:cs.length=ys.length
 rel:∀(i:Nat) (x:AV) (y:Value),cs[i]? = some x→ys[i]? = some y→cY C x y
 one:∀(i:Nat) (y:Value),ys[i]? = some y→y.oneCell'=true
structure lO (C:Ctx) (cs:List AV) (ys:List Value):Prop where
 len:cs.length=ys.length
 rel:∀(i:Nat) (x:AV) (y:Value),cs[i]? = some x→ys[i]? = some y→cY C x y
theorem gC.le {C D:Ctx} {cs:List AV} {ys:List Value} (h:gC C cs ys) (k:C.Le D):gC D cs ys:=⟨h.len,fun i x y hx hy=>(h.rel i x y hx hy).le k,h.one⟩
theorem lO.le {C D:Ctx} {cs:List AV} {ys:List Value} (h:lO C cs ys) (k:C.Le D):lO D cs ys:=⟨h.len,fun i x y hx hy=>(h.rel i x y hx hy).le k⟩
theorem gC.aBy {C:Ctx} {cs:List AV} {ys:List Value} (h:gC C cs ys):lO C cs ys:=⟨h.len,h.rel⟩
theorem gC.nil (C:Ctx):gC C [] []:=⟨rfl,by simp,by simp⟩
theorem lO.nil (C:Ctx):lO C [] []:=⟨rfl,by simp⟩
theorem lO.cons {C:Ctx} {x:AV} {y:Value} {cs:List AV} {ys:List Value} (h:cY C x y) (k:lO C cs ys):lO C (x :: cs) (y :: ys) :=
 ⟨by simp[k.len],fun i a b ha hb=>by
  cases i with
  | zero=>simp at ha hb;subst ha;subst hb;exact h
  | succ i=>exact k.rel i a b (by simpa using ha) (by simpa using hb)⟩
theorem lO.head {C:Ctx} {x:AV} {y:Value} {cs:List AV} {ys:List Value} (k:lO C (x :: cs) (y :: ys)):cY C x y:=k.rel 0 x y rfl rfl
theorem lO.tail {C:Ctx} {x:AV} {y:Value} {cs:List AV} {ys:List Value} (k:lO C (x :: cs) (y :: ys)):lO C cs ys :=
 ⟨by simpa using k.len,fun i a b ha hb=>k.rel (i+1) a b (by simpa using ha) (by simpa using hb)⟩
theorem lO.app {C:Ctx} {cs ds:List AV} {ys zs:List Value} (h:lO C cs ys) (k:lO C ds zs):lO C (cs++ds) (ys++zs):=by
 induction cs generalizing ys with
 | nil=>cases ys with
   | nil=>exact k
   | cons y ys=>have:=h.len;simp at this
 | cons c cs ih=>cases ys with
   | nil=>have:=h.len;simp at this
   | cons y ys=>exact lO.cons h.head (ih h.tail)
theorem lO.map {C:Ctx} {α:Type} (l:List α) (f:α→AV) (g:α→Value) (h:∀a∈l,cY C (f a) (g a)):lO C (l.map f) (l.map g):=by
 induction l with
 | nil=>exact .nil C
 | cons a l ih=>exact .cons (h a (by simp)) (ih fun b hb=>h b (by simp[hb]))
theorem gC.app {C:Ctx} {cs ds:List AV} {ys zs:List Value} (h:gC C cs ys) (k:gC C ds zs):gC C (cs++ds) (ys++zs) :=
 ⟨(h.aBy.app k.aBy).len,(h.aBy.app k.aBy).rel,fun i y hy=>by
  rw[List.getElem?_append] at hy;split at hy
  ·exact h.one _ _ hy
  ·exact k.one _ _ hy⟩
theorem gC.take {C:Ctx} {cs:List AV} {ys:List Value} (h:gC C cs ys) (n:Nat):gC C (cs.take n) (ys.take n):=by
 refine⟨by simp[h.len],fun i x y hx hy=>?_,fun i y hy=>?_⟩
 ·rw[List.getElem?_take] at hx hy;by_cases hi:i<n
  ·rw[if_pos hi] at hx hy;exact h.rel i x y hx hy
  ·rw[if_neg hi] at hx;cases hx
 ·rw[List.getElem?_take] at hy;by_cases hi:i<n
  ·rw[if_pos hi] at hy;exact h.one i y hy
  ·rw[if_neg hi] at hy;cases hy
theorem gC.drop {C:Ctx} {cs:List AV} {ys:List Value} (h:gC C cs ys) (n:Nat):gC C (cs.drop n) (ys.drop n) :=
 ⟨by simp[h.len],fun i x y hx hy=>by rw[List.getElem?_drop] at hx hy;exact h.rel _ x y hx hy,fun i y hy=>by rw[List.getElem?_drop] at hy;exact h.one _ y hy⟩
theorem gC.vs (C:Ctx) (l:List Value) (h1:∀y∈l,y.oneCell'=true):gC C (l.map .v) l :=
 ⟨by simp,fun i x y hx hy=>by
  rw[List.getElem?_map,hy] at hx;simp at hx;subst hx;exact .v y,fun i y hy=>h1 y (List.mem_of_getElem? hy)⟩
theorem gC.single {C:Ctx} {x:AV} {y:Value} (h:cY C x y) (h1:y.oneCell'=true):gC C [x] [y] :=
 ⟨rfl,fun i a b ha hb=>by
  cases i with
  | zero=>simp at ha hb;subst ha;subst hb;exact h
  | succ i=>simp at ha,fun i b hb=>by
  cases i with
  | zero=>simp at hb;subst hb;exact h1
  | succ i=>simp at hb⟩
theorem Value.j8 {y:Value} (h:y.oneCell'=true):y.cells=#[y]:=by
 cases y<;>first|rfl|(simp[Value.oneCell'] at h;done)
theorem cY.KR {C:Ctx} {x:AV} {y:Value} (h:cY C x y) (hs:x.jD=true) (hn:∀cs,x≠.agg cs):y.oneCell'=true:=by
 cases h with
 | v=>exact hs
 | agg cs a hl h h1=>exact absurd rfl (hn cs)
 | own s g hg ho=>exact ho
 | mp s g hg ho=>exact ho
 | eN cs a hl h=>simp[AV.jD] at hs
 | _=>rfl
theorem cY.cells {C:Ctx} {x:AV} {y:Value} (h:cY C x y) (hs:x.jD=true):gC C x.cells y.cells.toList:=by
 by_cases hn:∃cs,x=.agg cs
 ·obtain⟨cs,rfl⟩:=hn
  cases h with
  | agg cs a hl h h1=>exact⟨by simpa [AV.cells,Value.cells] using hl,fun i x y hx hy=>h i x y (by simpa [AV.cells] using hx) (by simpa [Value.cells] using hy),fun i y hy=>h1 i y (by simpa [Value.cells] using hy)⟩
 ·have Iq:∀cs,x≠.agg cs:=fun cs e=>hn ⟨cs,e⟩
  have h1:=h.KR hs Iq
  have hx:x.cells=[x]:=by
   cases x<;>first|rfl|exact absurd rfl (Iq _)
  rw[hx,Value.j8 h1];exact .single h h1
def oE (w:World) (base e sz:Nat) (v:Value) (n:Nat) (xs:List Value):Prop :=
 xs.length=n * sz∧((∃p,v=.slice p 0 0∧n=0) ∨
  ∃g cap cur,v=.slice (some ⟨g,0,none⟩) n cap∧base≤g∧w.heap[g]? = some (.cells cur e (0,0))∧n≤cap∧cap≤maxLen∧cur.size=cap * sz∧cur.toList.take (n * sz)=xs∧0<cap)
theorem kJ {a:Addr} {n cap:Nat} (h:0<cap):dF (.slice (some a) n cap)=some a.block:=by
 cases cap with
 | zero=>omega
 | succ c=>rfl
theorem pQ (p:Option Addr) (n:Nat):dF (.slice p n 0)=none:=by cases p<;>rfl
theorem Gq {w:World} {base e sz:Nat} {v:Value} {n:Nat} {xs:List Value} (h:w.ownsRow base e sz v n xs):oE w base e sz v n xs:=by
 refine⟨h.1, ?_⟩
 rcases h.2 with ⟨rfl,rfl⟩|⟨g,cap,cur,rfl,h1,h2,h3,h4,h5,h6⟩
 ·exact .inl ⟨none,rfl,rfl⟩
 ·by_cases hc:cap=0
  ·subst hc;have:n=0:=by omega
   subst this;exact .inl ⟨_,rfl,rfl⟩
  ·exact .inr ⟨g,cap,cur,rfl,h1,h2,h3,h4,h5,h6,by omega⟩
theorem yU {w:World} {b b' e sz n:Nat} {v:Value} {xs:List Value} (h:oE w b e sz v n xs) (hb:b'≤b):oE w b' e sz v n xs :=
 ⟨h.1,h.2.imp id fun ⟨g,cap,cur,h1,h2,h3⟩=>⟨g,cap,cur,h1,Nat.le_trans hb h2,h3⟩⟩
theorem Cj {w:World} {base e sz n:Nat} {v:Value} {xs:List Value} (h:oE w base e sz v n xs):∀b,dF v=some b→base≤b∧b<w.heap.size:=by
 intro b hb;rcases h.2 with ⟨p,rfl,_⟩|⟨g,cap,cur,rfl,h1,h2,_,_,_,_,hc⟩
 ·rw[pQ] at hb;cases hb
 ·rw[kJ hc] at hb;simp only[Option.some.injEq] at hb;subst hb;exact⟨h1,(Array.getElem?_eq_some_iff.1 h2).1⟩
theorem tA {w:World} {base e sz n:Nat} {v:Value} {xs:List Value} (h:oE w base e sz v n xs):v.oneCell'=true:=by
 rcases h.2 with ⟨p,rfl,_⟩|⟨g,cap,cur,rfl,_⟩<;>rfl
theorem oE.kept {w w':World} {base e sz n:Nat} {v:Value} {xs:List Value} {row:Option Nat} (h:oE w base e sz v n xs) (hg:w.grownBy w' row) (gW:dF v=none∨dF v≠row):oE w' base e sz v n xs:=by
 refine⟨h.1, ?_⟩
 rcases h.2 with h|⟨g,cap,cur,rfl,h1,h2,h3,h4,h5,h6,hc⟩
 ·exact .inl h
 ·refine .inr ⟨g,cap,cur,rfl,h1, ?_,h3,h4,h5,h6,hc⟩
  rw[kJ hc] at gW;rw[hg.block g (Array.getElem?_eq_some_iff.1 h2).1 (by rcases gW with h|h;cases h;exact h)]
  exact h2
def Vq (C:Ctx):List (AV × AV)→List MapEntry→Prop
 | [],[]=>True
 | p :: es,m :: ms=>cY C p.1 m.key∧cY C p.2 m.val∧Vq C es ms
 | _,_=>False
theorem Vq.le {C D:Ctx} (k:C.Le D):∀ {es:List (AV × AV)} {ms:List MapEntry},Vq C es ms→Vq D es ms
 | [],[],_=>trivial
 | _ :: _,_ :: _,h=>⟨h.1.le k,h.2.1.le k,Vq.le k h.2.2⟩
 | [],_ :: _,h=>h.elim
 | _ :: _,[],h=>h.elim
def nP (C:Ctx) (w:World) (base:Nat) (v:Value):nM→Prop
 | .cells cs=>∃b arr T,v=.pointer (some ⟨b,0,none⟩)∧base≤b∧w.heap[b]? = some (.cells arr T (0,0))∧gC C cs arr.toList
 | .row e sz n cs=>∃xs,oE w base e sz v n xs∧gC C cs xs
 | .map es=>∃b arr clock,v=.map (some b)∧base≤b∧w.heap[b]? = some (.map arr clock)∧Vq C es arr.toList
def ctx (h0:Nat→Obj→Prop) (w0:World) (ρ:Nat→Nat→Value) (st:St) (w:World):Ctx where
 h:=fun b o=>w.heap[b]? = some o∧(b<w0.heap.size→h0 b o)∧∀s g e,st.heap s g=some e→dF (ρ s g)≠some b
 ρ:=ρ
 aP:=st.aP
structure Gb where
 fr:AV→Value→Prop
 hb:Nat→Obj→Prop
 sz:Nat
def Gb.none:Gb:=⟨fun _ _=>False,fun _ _=>False,0⟩
structure kZ (F:Gb) (h0:Nat→Obj→Prop) (w0:World) (nt:Nat) (ρ:Nat→Nat→Value) (st:St) (a:Act) (w:World):Prop where
 env:∀t,cY (ctx h0 w0 ρ st w) (st.env t) (a.tmps.getD t undef)
 sK:∀s g e,st.heap s g=some e→g<st.aP s∧(ρ s g).oneCell'=true∧nP (ctx h0 w0 ρ st w) w w0.heap.size (ρ s g) e
 inj:∀s g s' g' e e' b,st.heap s g=some e→st.heap s' g'=some e'→dF (ρ s g)=some b→dF (ρ s' g')=some b→s=s'∧g=g'
 ext:w0.grownBy w none
 size:nt≤a.tmps.size
 defers:a.defers=[]
 Mo:(∀x v,F.fr x v→cY (ctx h0 w0 ρ st w) x v)∧(∀b o,F.hb b o→(ctx h0 w0 ρ st w).h b o)∧F.sz≤w.heap.size
section
variable {h0:Nat→Obj→Prop} {w0:World} {F:Gb} {nt:Nat} {ρ:Nat→Nat→Value} {st:St} {a:Act} {w:World}
theorem Ut (d:Option Nat) (x:AV):ctx h0 w0 ρ (st.put d x) w=ctx h0 w0 ρ st w:=by cases d<;>rfl
theorem Vr (d:Option Nat) (x:AV):(st.put d x).heap=st.heap:=by cases d<;>rfl
theorem KS (st:St) (d:Nat) (x:nM) (s g:Nat):(st.new d x).heap s g=if s=d∧g=st.aP d then some x else st.heap s g:=rfl
theorem j9 (st:St) (s0 g0:Nat) (x:Option nM) (s g:Nat):(st.iY s0 g0 x).heap s g=if s=s0∧g=g0 then x else st.heap s g:=rfl
theorem XQ (d:Option Nat) (x:AV):(st.put d x).aP=st.aP:=by cases d<;>rfl
theorem kZ.put (S:kZ F h0 w0 nt ρ st a w) (d:Option Nat) {x:AV} {v:Value} (hd:∀t,d=some t→t<nt) (h:cY (ctx h0 w0 ρ st w) x v) :
 kZ F h0 w0 nt ρ (st.put d x) (a.put d v) w:=by
 refine⟨fun t=>?_,fun s g e he=>?_,fun s g s' g' e e' b he Ad=>?_,S.ext, ?_, ?_,⟨fun x v h=>by rw[Ut];exact S.Mo.1 x v h,fun b o h=>by rw[Ut];exact S.Mo.2.1 b o h,S.Mo.2.2⟩⟩
 ·rw[Ut];cases d with
  | none=>exact S.env t
  | some d =>
    have bA:d<a.tmps.size:=Nat.lt_of_lt_of_le (hd d rfl) S.size
    simp only[St.put,Act.put];by_cases htd:t=d
    ·subst htd;rw[if_pos rfl];simp[bA]
     exact h
    ·rw[if_neg htd];have:(a.tmps.setIfInBounds d v).getD t undef=a.tmps.getD t undef:=by
      simp[Array.getElem?_setIfInBounds_ne (Ne.symm htd)]
     rw[this];exact S.env t
 ·rw[Vr] at he;rw[Ut,XQ];exact S.sK s g e he
 ·rw[Vr] at he Ad;exact S.inj s g s' g' e e' b he Ad
 ·cases d<;>simp[Act.put,S.size]
 ·cases d<;>exact S.defers
theorem wF {w w1 w2:World} {r:Option Nat} (h:w.grownBy w1 none) (k:w1.grownBy w2 r) (hr:∀b,r=some b→w.heap.size≤b):w.grownBy w2 none :=
 ⟨k.os.trans h.os,k.tape.trans h.tape,k.output.trans h.output,Nat.le_trans h.size k.size,fun b hb _=>by
  rw[k.block b (Nat.lt_of_lt_of_le hb h.size) (fun e=>by have:=hr b e.symm;omega)]
  exact h.block b hb (by simp)⟩
theorem nP.world {C D:Ctx} {w w':World} {base:Nat} {v:Value} {e:nM} {r:Option Nat} (h:nP C w base v e) (k:C.Le D) (hg:w.grownBy w' r) (hr:dF v=none∨dF v≠r):nP D w' base v e:=by
 cases e with
 | cells cs =>
   obtain⟨b,arr,T,rfl,hb,hh,hc⟩:=h
   refine⟨b,arr,T,rfl,hb, ?_,hc.le k⟩
   have gW:some b≠r:=by
    rcases hr with hr|hr
    ·simp[dF] at hr
    ·simpa [dF] using hr
   rw[hg.block b (Array.getElem?_eq_some_iff.1 hh).1 gW];exact hh
 | row e sz n cs =>
   obtain⟨xs,ho,hc⟩:=h
   exact⟨xs,ho.kept hg hr,hc.le k⟩
 | map es =>
   obtain⟨b,arr,clock,rfl,hb,hh,hc⟩:=h
   refine⟨b,arr,clock,rfl,hb, ?_,hc.le k⟩
   have gW:some b≠r:=by
    rcases hr with hr|hr
    ·simp[dF] at hr
    ·simpa [dF] using hr
   rw[hg.block b (Array.getElem?_eq_some_iff.1 hh).1 gW];exact hh
theorem nP.RU {C:Ctx} {w:World} {base:Nat} {v:Value} {e:nM} (h:nP C w base v e):∀b,dF v=some b→base≤b∧b<w.heap.size:=by
 intro b hb;cases e with
 | cells cs =>
   obtain⟨b',arr,T,rfl,oC,hh,hc⟩:=h
   simp[dF] at hb;subst hb;exact⟨oC,(Array.getElem?_eq_some_iff.1 hh).1⟩
 | row e sz n cs =>
   obtain⟨xs,ho,hc⟩:=h
   exact Cj ho b hb
 | map es =>
   obtain⟨b',arr,clock,rfl,oC,hh,_⟩:=h
   simp[dF] at hb;subst hb;exact⟨oC,(Array.getElem?_eq_some_iff.1 hh).1⟩
theorem kZ.grow (S:kZ F h0 w0 nt ρ st a w) {w':World} (hg:w.grownBy w' none):kZ F h0 w0 nt ρ st a w'∧(ctx h0 w0 ρ st w).Le (ctx h0 w0 ρ st w'):=by
 have k:(ctx h0 w0 ρ st w).Le (ctx h0 w0 ρ st w'):=⟨fun b o hb=>⟨by
  rw[hg.block b (Array.getElem?_eq_some_iff.1 hb.1).1 (by simp)];exact hb.1,hb.2.1,hb.2.2⟩,fun _=>Nat.le_refl _,fun _ _ _=>rfl⟩
 exact⟨⟨fun t=>(S.env t).le k,fun s g e he=>⟨(S.sK s g e he).1,(S.sK s g e he).2.1,(S.sK s g e he).2.2.world k hg (by cases dF (ρ s g)<;>simp)⟩,S.inj,wF S.ext hg (by simp),S.size,S.defers,⟨fun x v h=>(S.Mo.1 x v h).le k,fun b o h=>k.h b o (S.Mo.2.1 b o h),Nat.le_trans S.Mo.2.2 hg.size⟩⟩,k⟩
def tT (ρ:Nat→Nat→Value) (d g:Nat) (v:Value):Nat→Nat→Value:=fun s' g'=>if s'=d∧g'=g then v else ρ s' g'
theorem jU (S:kZ F h0 w0 nt ρ st a w) {s g:Nat} {e:nM} (he:st.heap s g=some e) {b:Nat} (hb:w.heap.size≤b):dF (ρ s g)≠some b:=by
 intro h;have:=((S.sK s g e he).2.2.RU b h).2
 omega
def Fl (ρ:Nat→Nat→Value) (d c:Nat) (vs:List Value):Nat→Nat→Value:=fun s' g'=>if s'=d∧c≤g'∧g' - c<vs.length then vs.getD (g' - c) undef else ρ s' g'
theorem kZ.news (S:kZ F h0 w0 nt ρ st a w) {w':World} (hg:w.grownBy w' none) (d:Nat) (xs:List nM) (vs:List Value) (hl:xs.length=vs.length) (h1:∀v∈vs,v.oneCell'=true)
 (yV:∀v∈vs,∀b,dF v=some b→w.heap.size≤b)
 (hinj:∀(i j:Nat) (x y:Value) (b:Nat),vs[i]? = some x→vs[j]? = some y→dF x=some b→dF y=some b→i=j)
 (hx:∀C,(ctx h0 w0 ρ st w).Le C→(∀b o,w.heap.size≤b→w'.heap[b]? = some o→(∀v∈vs,dF v≠some b)→C.h b o) →
  (∀(i:Nat) (x:Value),vs[i]? = some x→st.aP d+i<C.aP d∧C.ρ d (st.aP d+i)=x)→∀(i:Nat) (e:nM) (x:Value),xs[i]? = some e→vs[i]? = some x→nP C w' w0.heap.size x e) :
 kZ F h0 w0 nt (Fl ρ d (st.aP d) vs) (st.news d xs) a w'∧(ctx h0 w0 ρ st w).Le (ctx h0 w0 (Fl ρ d (st.aP d) vs) (st.news d xs) w') ∧
  (∀b o,w.heap.size≤b→w'.heap[b]? = some o→(∀v∈vs,dF v≠some b)→(ctx h0 w0 (Fl ρ d (st.aP d) vs) (st.news d xs) w').h b o) ∧
  (∀(i:Nat) (x:Value),vs[i]? = some x→st.aP d+i<(st.news d xs).aP d∧Fl ρ d (st.aP d) vs d (st.aP d+i)=x):=by
 have hold:∀s g,g<st.aP s→Fl ρ d (st.aP d) vs s g=ρ s g:=fun s g bA=>by
  unfold Fl;rw[if_neg];rintro⟨rfl,h,_⟩
  omega
 have hcd:(st.news d xs).aP d=st.aP d+xs.length:=by simp[St.news]
 have oX:∀(i:Nat) (x:Value),vs[i]? = some x→st.aP d+i<(st.news d xs).aP d∧Fl ρ d (st.aP d) vs d (st.aP d+i)=x:=fun i x hi=>by
  have bA:i<vs.length:=(List.getElem?_eq_some_iff.1 hi).1
  refine⟨by rw[hcd];omega, ?_⟩
  unfold Fl;rw[if_pos ⟨rfl,by omega,by omega⟩,show st.aP d+i-st.aP d=i by omega]
  simp[List.getD_eq_getElem?_getD,hi]
 have Jy:∀s g e,(st.news d xs).heap s g=some e→(∃i x,s=d∧g=st.aP d+i∧xs[i]? = some e∧vs[i]? = some x)∨st.heap s g=some e:=fun s g e he=>by
  simp only[St.news] at he;split at he
  ·rename_i hc;obtain⟨rfl,c1,c2⟩:=hc
   exact .inl ⟨g-st.aP s,vs[g-st.aP s]'(by omega),rfl,by omega,he,by simp⟩
  ·exact .inr he
 have k:(ctx h0 w0 ρ st w).Le (ctx h0 w0 (Fl ρ d (st.aP d) vs) (st.news d xs) w'):=by
  refine⟨fun b o hb=>⟨?_,hb.2.1,fun s g e he=>?_⟩,fun s=>?_,hold⟩
  ·rw[hg.block b (Array.getElem?_eq_some_iff.1 hb.1).1 (by simp)];exact hb.1
  ·rcases Jy s g e he with ⟨i,x,rfl,rfl,_,hi⟩|he
   ·rw[(oX i x hi).2];intro hbv;have:=yV x (List.mem_of_getElem? hi) b hbv
    have:=(Array.getElem?_eq_some_iff.1 hb.1).1
    omega
   ·rw[hold s g (S.sK s g e he).1];exact hb.2.2 s g e he
  ·simp only[ctx,St.news];split
   ·rename_i h;subst h;omega
   ·exact Nat.le_refl _
 have hh:∀b o,w.heap.size≤b→w'.heap[b]? = some o→(∀v∈vs,dF v≠some b)→(ctx h0 w0 (Fl ρ d (st.aP d) vs) (st.news d xs) w').h b o:=fun b o hb ho gW =>
  ⟨ho,fun bA=>by have:=S.ext.size;omega,fun s g e he=>by
   rcases Jy s g e he with ⟨i,x,rfl,rfl,_,hi⟩|he
   ·rw[(oX i x hi).2];exact gW x (List.mem_of_getElem? hi)
   ·rw[hold s g (S.sK s g e he).1];exact jU S he hb⟩
 refine⟨⟨fun t=>(S.env t).le k,fun s g e he=>?_,fun s g s' g' e e' b he Ad hb oC=>?_,wF S.ext hg (by simp),S.size,S.defers,⟨fun x v h=>(S.Mo.1 x v h).le k,fun b o h=>k.h b o (S.Mo.2.1 b o h),Nat.le_trans S.Mo.2.2 hg.size⟩⟩,k,hh,oX⟩
 ·rcases Jy s g e he with ⟨i,x,rfl,rfl,hxi,hi⟩|he
  ·refine⟨(oX i x hi).1,by rw[(oX i x hi).2];exact h1 x (List.mem_of_getElem? hi), ?_⟩
   rw[(oX i x hi).2];exact hx _ k hh oX i e x hxi hi
  ·obtain⟨e1,e2,e3⟩:=S.sK s g e he
   refine⟨by simp only[St.news];split<;>(try subst_vars)<;>omega,by rw[hold s g e1];exact e2, ?_⟩
   rw[hold s g e1];exact e3.world k hg (by cases dF (ρ s g)<;>simp)
 ·rcases Jy s g e he with ⟨i,x,rfl,rfl,_,hi⟩|hq<;>rcases Jy s' g' e' Ad with ⟨j,y,rfl,rfl,_,hj⟩|hq'
  ·rw[(oX i x hi).2] at hb;rw[(oX j y hj).2] at oC
   exact⟨rfl,by rw[hinj i j x y b hi hj hb oC]⟩
  ·rw[(oX i x hi).2] at hb;rw[hold s' g' (S.sK s' g' e' hq').1] at oC
   exact absurd oC (jU S hq' (yV x (List.mem_of_getElem? hi) b hb))
  ·rw[(oX j y hj).2] at oC
   rw[hold s g (S.sK s g e hq).1] at hb;exact absurd hb (jU S hq (yV y (List.mem_of_getElem? hj) b oC))
  ·rw[hold s g (S.sK s g e hq).1] at hb;rw[hold s' g' (S.sK s' g' e' hq').1] at oC
   exact S.inj s g s' g' e e' b hq hq' hb oC
theorem Vs (st:St) (d:Nat) (e:nM):st.news d [e]=st.new d e:=by
 unfold St.news St.new;congr 1
 funext s g
 by_cases h:s=d∧g=st.aP d
 ·obtain⟨rfl,rfl⟩:=h
  simp
 ·rw[if_neg h];split
  ·rename_i hc;exact absurd ⟨hc.1,by simp at hc;omega⟩ h
  ·rfl
theorem kZ.new (S:kZ F h0 w0 nt ρ st a w) {w':World} (hg:w.grownBy w' none) (d:Nat) (x:nM) (v:Value) (h1:v.oneCell'=true)
 (yV:∀b,dF v=some b→w.heap.size≤b)
 (hx:∀C,(ctx h0 w0 ρ st w).Le C→(∀b o,w.heap.size≤b→w'.heap[b]? = some o→dF v≠some b→C.h b o)→nP C w' w0.heap.size v x) :
 kZ F h0 w0 nt (tT ρ d (st.aP d) v) (st.new d x) a w'∧(ctx h0 w0 ρ st w).Le (ctx h0 w0 (tT ρ d (st.aP d) v) (st.new d x) w')∧tT ρ d (st.aP d) v d (st.aP d)=v:=by
 have hold:∀s g,g<st.aP s→tT ρ d (st.aP d) v s g=ρ s g:=fun s g bA=>by
  unfold tT;rw[if_neg];rintro⟨rfl,rfl⟩
  omega
 have oX:tT ρ d (st.aP d) v d (st.aP d)=v:=by simp[tT]
 have k:(ctx h0 w0 ρ st w).Le (ctx h0 w0 (tT ρ d (st.aP d) v) (st.new d x) w'):=by
  refine⟨fun b o hb=>⟨?_,hb.2.1,fun s g e he=>?_⟩,fun s=>?_,hold⟩
  ·rw[hg.block b (Array.getElem?_eq_some_iff.1 hb.1).1 (by simp)];exact hb.1
  ·simp only[St.new] at he;split at he
   ·rename_i hsg;obtain⟨rfl,rfl⟩:=hsg
    rw[oX];intro hbv;have:=yV b hbv
    have:=(Array.getElem?_eq_some_iff.1 hb.1).1
    omega
   ·rw[hold s g (S.sK s g e he).1];exact hb.2.2 s g e he
  ·simp only[ctx,St.new];split
   ·rename_i h;subst h;omega
   ·exact Nat.le_refl _
 refine⟨⟨fun t=>(S.env t).le k,fun s g e he=>?_,fun s g s' g' e e' b he Ad hb oC=>?_,wF S.ext hg (by simp),S.size,S.defers,⟨fun x v h=>(S.Mo.1 x v h).le k,fun b o h=>k.h b o (S.Mo.2.1 b o h),Nat.le_trans S.Mo.2.2 hg.size⟩⟩,k,oX⟩
 ·simp only[St.new] at he;split at he
  ·rename_i hsg;obtain⟨rfl,rfl⟩:=hsg
   cases he
   refine⟨by simp[St.new],by rw[oX];exact h1, ?_⟩
   rw[oX];refine hx _ k fun b o hb ho gW=>⟨ho,fun bA=>by have:=S.ext.size;omega,fun s2 g2 e2 he2=>?_⟩
   rw[KS] at he2;by_cases hsg:s2=s∧g2=st.aP s
   ·obtain⟨rfl,rfl⟩:=hsg
    rw[oX];exact gW
   ·rw[if_neg hsg] at he2;rw[hold s2 g2 (S.sK s2 g2 e2 he2).1];exact jU S he2 hb
  ·obtain⟨e1,e2,e3⟩:=S.sK s g e he
   refine⟨by simp only[St.new];split<;>(try subst_vars)<;>omega,by rw[hold s g e1];exact e2, ?_⟩
   rw[hold s g e1];exact e3.world k hg (by cases dF (ρ s g)<;>simp)
 ·simp only[St.new] at he Ad
  split at he
  ·rename_i hsg;obtain⟨rfl,rfl⟩:=hsg
   split at Ad
   ·rename_i aBz;exact⟨aBz.1.symm,aBz.2.symm⟩
   ·rw[oX] at hb;rw[hold s' g' (S.sK s' g' e' Ad).1] at oC
    exact absurd oC (jU S Ad (yV b hb))
  ·split at Ad
   ·rename_i aBz
    obtain⟨rfl,rfl⟩:=aBz
    rw[oX] at oC
    rw[hold s g (S.sK s g e he).1] at hb;exact absurd hb (jU S he (yV b oC))
   ·rw[hold s g (S.sK s g e he).1] at hb;rw[hold s' g' (S.sK s' g' e' Ad).1] at oC
    exact S.inj s g s' g' e e' b he Ad hb oC
theorem kZ.K9 (S:kZ F h0 w0 nt ρ st a w) {s g:Nat} {e e':nM} (he:st.heap s g=some e) {w':World} (hg:w.grownBy w' (dF (ρ s g)))
 (hx:∀C,(ctx h0 w0 ρ st w).Le C→nP C w' w0.heap.size (ρ s g) e') :
 kZ F h0 w0 nt ρ (st.iY s g (some e')) a w':=by
 have k:(ctx h0 w0 ρ st w).Le (ctx h0 w0 ρ (st.iY s g (some e')) w'):=by
  refine⟨fun b' o oC=>⟨?_,oC.2.1,fun s' g' e'' h=>?_⟩,fun _=>Nat.le_refl _,fun _ _ _=>rfl⟩
  ·rw[hg.block b' (Array.getElem?_eq_some_iff.1 oC.1).1 (fun h=>oC.2.2 s g e he h.symm)];exact oC.1
  ·simp only[St.iY] at h;split at h
   ·rename_i h';obtain⟨rfl,rfl⟩:=h';exact oC.2.2 _ _ e he
   ·exact oC.2.2 _ _ _ h
 refine⟨fun t=>(S.env t).le k,fun s' g' x h=>?_,fun s1 g1 s2 g2 e1 e2 b' h1 h2 SK XR=>?_,wF S.ext hg (fun b hb=>((S.sK s g e he).2.2.RU b hb).1),S.size,S.defers,⟨fun x v h=>(S.Mo.1 x v h).le k,fun b o h=>k.h b o (S.Mo.2.1 b o h),Nat.le_trans S.Mo.2.2 hg.size⟩⟩
 ·simp only[St.iY] at h;split at h
  ·rename_i h'
   obtain⟨rfl,rfl⟩:=h'
   cases h
   exact⟨(S.sK _ _ e he).1,(S.sK _ _ e he).2.1,hx _ k⟩
  ·rename_i h'
   obtain⟨x1,x2,x3⟩:=S.sK _ _ _ h
   refine⟨x1,x2,x3.world k hg ?_⟩
   cases wY:dF (ρ s' g') with
   | none=>exact .inl rfl
   | some b =>
     right
     intro hq;exact h' (S.inj _ _ _ _ _ _ b h he wY hq.symm)
 ·have old:∀s1 g1 e1,(st.iY s g (some e')).heap s1 g1=some e1→∃e2,st.heap s1 g1=some e2:=fun s1 g1 e1 h=>by
   simp only[St.iY] at h;split at h
   ·rename_i h';obtain⟨rfl,rfl⟩:=h';exact⟨e,he⟩
   ·exact⟨_,h⟩
  obtain⟨x1,y1⟩:=old _ _ _ h1
  obtain⟨x2,y2⟩:=old _ _ _ h2
  exact S.inj _ _ _ _ _ _ b' y1 y2 SK XR
theorem kZ.store (S:kZ F h0 w0 nt ρ st a w) {s g b:Nat} {e e':nM} (he:st.heap s g=some e) (hb:dF (ρ s g)=some b) {w':World} (hg:w.grownBy w' (some b))
 (hx:∀C,(ctx h0 w0 ρ st w).Le C→nP C w' w0.heap.size (ρ s g) e') :
 kZ F h0 w0 nt ρ (st.iY s g (some e')) a w':=S.K9 he (by rw[hb];exact hg) hx
theorem kZ.L1 (S:kZ F h0 w0 nt ρ st a w) {s g:Nat} {e:nM} (he:st.heap s g=some e) {w':World} (hg:w.grownBy w' (dF (ρ s g))) (d:Nat) (x:nM) (v:Value) (h1:v.oneCell'=true)
 (yV:∀b,dF v=some b→dF (ρ s g)=some b∨w.heap.size≤b)
 (hx:∀C,(ctx h0 w0 ρ st w).Le C→nP C w' w0.heap.size v x) :
 kZ F h0 w0 nt (tT ρ d (st.aP d) v) ((st.iY s g none).new d x) a w'∧(ctx h0 w0 ρ st w).Le (ctx h0 w0 (tT ρ d (st.aP d) v) ((st.iY s g none).new d x) w')∧tT ρ d (st.aP d) v d (st.aP d)=v:=by
 have hlo:∀b,dF (ρ s g)=some b→w0.heap.size≤b:=fun b hb=>((S.sK s g e he).2.2.RU b hb).1
 have hold:∀s g,g<st.aP s→tT ρ d (st.aP d) v s g=ρ s g:=fun s g bA=>by
  unfold tT;rw[if_neg];rintro⟨rfl,rfl⟩
  omega
 have oX:tT ρ d (st.aP d) v d (st.aP d)=v:=by simp[tT]
 have Jy:∀s1 g1 e1,((st.iY s g none).new d x).heap s1 g1=some e1→(s1=d∧g1=st.aP d∧e1=x)∨(st.heap s1 g1=some e1∧¬(s1=s∧g1=g)):=fun s1 g1 e1 h=>by
  rw[KS] at h;by_cases c1:s1=d∧g1=(st.iY s g none).aP d
  ·rw[if_pos c1] at h;cases h;exact .inl ⟨c1.1,c1.2,rfl⟩
  ·rw[if_neg c1,j9] at h;by_cases c2:s1=s∧g1=g
   ·rw[if_pos c2] at h;cases h
   ·rw[if_neg c2] at h;exact .inr ⟨h,c2⟩
 have k:(ctx h0 w0 ρ st w).Le (ctx h0 w0 (tT ρ d (st.aP d) v) ((st.iY s g none).new d x) w'):=by
  refine⟨fun b o hb=>⟨?_,hb.2.1,fun s1 g1 e1 h=>?_⟩,fun s=>?_,hold⟩
  ·rw[hg.block b (Array.getElem?_eq_some_iff.1 hb.1).1 (fun h=>hb.2.2 s g e he h.symm)];exact hb.1
  ·rcases Jy _ _ _ h with ⟨rfl,rfl,rfl⟩|⟨h,_⟩
   ·rw[oX];intro hbv;rcases yV b hbv with h'|h'
    ·exact hb.2.2 s g e he h'
    ·have:=(Array.getElem?_eq_some_iff.1 hb.1).1
     omega
   ·rw[hold _ _ (S.sK _ _ _ h).1];exact hb.2.2 _ _ _ h
  ·simp only[ctx,St.new,St.iY];split
   ·rename_i h;subst h;omega
   ·exact Nat.le_refl _
 refine⟨⟨fun t=>(S.env t).le k,fun s1 g1 e1 h=>?_,fun s1 g1 s2 g2 e1 e2 b DD h2' SK XR=>?_,wF S.ext hg hlo,S.size,S.defers,⟨fun x v h=>(S.Mo.1 x v h).le k,fun b o h=>k.h b o (S.Mo.2.1 b o h),Nat.le_trans S.Mo.2.2 hg.size⟩⟩,k,oX⟩
 ·rcases Jy _ _ _ h with ⟨rfl,rfl,rfl⟩|⟨h,hn⟩
  ·refine⟨by simp[St.new,St.iY],by rw[oX];exact h1, ?_⟩
   rw[oX];exact hx _ k
  ·obtain⟨x1,x2,x3⟩:=S.sK _ _ _ h
   refine⟨by simp only[St.new,St.iY];split<;>(try subst_vars)<;>omega,by rw[hold _ _ x1];exact x2, ?_⟩
   rw[hold _ _ x1];refine x3.world k hg ?_
   cases wY:dF (ρ s1 g1) with
   | none=>exact .inl rfl
   | some b1 =>
     right
     intro heq;exact hn (S.inj _ _ _ _ _ _ b1 h he wY heq.symm)
 ·rcases Jy _ _ _ DD with ⟨rfl,rfl,rfl⟩|⟨h1,n1⟩<;>rcases Jy _ _ _ h2' with ⟨rfl,rfl,rfl⟩|⟨h2,n2⟩<;>clear DD h2'
  ·exact⟨rfl,rfl⟩
  ·rw[oX] at SK;rw[hold _ _ (S.sK _ _ _ h2).1] at XR;rcases yV b SK with h'|h'
   ·exact absurd (S.inj _ _ _ _ _ _ b h2 he XR h') n2
   ·exact absurd XR (jU S h2 h')
  ·rw[oX] at XR;rw[hold _ _ (S.sK _ _ _ h1).1] at SK;rcases yV b XR with h'|h'
   ·exact absurd (S.inj _ _ _ _ _ _ b h1 he SK h') n1
   ·exact absurd SK (jU S h1 h')
  ·rw[hold _ _ (S.sK _ _ _ h1).1] at SK;rw[hold _ _ (S.sK _ _ _ h2).1] at XR;exact S.inj _ _ _ _ _ _ b h1 h2 SK XR
end
end Go.Ab
end
section
namespace Go.Ab
open Classical
def gE:List Bool→List Value→List Value→Prop
 | [],[],[]=>True
 | true :: l,.int k _ :: xs,.int k' _ :: ys=>k=k'∧gE l xs ys
 | false :: l,.bool _ :: xs,.bool _ :: ys=>gE l xs ys
 | _,_,_=>False
theorem Ck:∀(l:List Bool) (xs ys:List AV),iC l xs ys→∃us vs,xs=us.map .v∧ys=vs.map .v∧gE l us vs
 | [],[],[],_=>⟨[],[],rfl,rfl,trivial⟩
 | true :: l,.v (.int k a) :: xs,.v (.int k' b) :: ys,h=>by
   obtain⟨us,vs,rfl,rfl,h'⟩:=Ck l xs ys h.2
   exact⟨.int k a :: us,.int k' b :: vs,rfl,rfl,h.1,h'⟩
 | false :: l,.v (.bool a) :: xs,.v (.bool b) :: ys,h=>by
   obtain⟨us,vs,rfl,rfl,h'⟩:=Ck l xs ys h
   exact⟨.bool a :: us,.bool b :: vs,rfl,rfl,h'⟩
theorem lP:∀(l:List Bool) (us vs:List Value),gE l us vs→us.length=l.length∧vs.length=l.length
 | [],[],[],_=>⟨rfl,rfl⟩
 | true :: l,.int k a :: xs,.int k' b :: ys,h=>by have:=lP l xs ys h.2;simp[this.1,this.2]
 | false :: l,.bool a :: xs,.bool b :: ys,h=>by have:=lP l xs ys h;simp[this.1,this.2]
theorem Vt (l m:List Bool):∀(us vs:List Value),gE (l++m) us vs→gE l (us.take l.length) (vs.take l.length)∧gE m (us.drop l.length) (vs.drop l.length):=by
 induction l with
 | nil=>intro us vs h;simpa [gE] using h
 | cons b l ih =>
   intro us vs h;cases b<;>cases us with
   | nil=>simp[gE] at h
   | cons u us=>cases vs with
     | nil=>cases u<;>simp[gE] at h
     | cons v vs=>cases u<;>cases v<;>simp[gE] at h<;>(have:=ih us vs (by first|exact h|exact h.2);simp[gE,this.1,this.2])<;>(try exact h.1)
def mk (agg:Bool) (us:List Value):Value:=if agg=true then .agg us.toArray else us.headD undef
section
variable {P:Program} (w:World)
theorem Ir {t:Nat} {d:TypeDesc} (h:P.underlying t=some d):(isAgg t).run P w=.ok (dB P t) w:=by
 simp only[isAgg,underlying,Sem.run_bind,run_program,Result.andThen_ok,h,Sem.run_pure,dB];cases d<;>rfl
theorem run_sizeOf {t:Nat} {i:TypeInfo} (h:P.info? t=some i):(sizeOf t).run P w=.ok i.size w:=by
 simp[sizeOf,typeInfo,h]
theorem Bp {t:Nat} {i:TypeInfo} {z:Value} (h:P.info? t=some i) (hz:i.zero=some z):(zeroValue t).run P w=.ok z w:=by
 simp[zeroValue,typeInfo,h,hz]
theorem rD {t:Nat} {i:TypeInfo} (h:P.info? t=some i):P.cellsOf t=i.size:=by simp[Program.cellsOf,h]
theorem Gr {t:Nat} {d:TypeDesc} {i:TypeInfo} (h:P.underlying t=some d) (hi:P.info? t=some i) (us:List Value) (off:Nat) (h1:dB P t=false→i.size=1) (hl:off+i.size≤us.length) :
 (part t us.toArray off).run P w=.ok (mk (dB P t) ((us.drop off).take i.size)) w:=by
 unfold part;simp only[Sem.run_bind,Ir w h,Result.andThen_ok];cases hb:dB P t with
 | true =>
   simp only[if_true,Sem.run_bind,run_sizeOf w hi,Result.andThen_ok,Sem.run_pure,mk];congr 2
   simp[List.take_drop]
 | false =>
   have:=h1 hb
   have bA:off<us.length:=by omega
   simp[bA,mk,this,List.take_one]
theorem oF:∀(d t:Nat) (m:List Bool),eZ P d t=some m→dB P t=false→m.length=1
 | 0,_,_,h,_=>by simp[eZ] at h
 | d+1,t,m,h,hp=>by
   unfold eZ at h;unfold dB at hp;cases hu:P.underlying t with
   | none=>simp[hu] at h
   | some k=>cases k<;>simp[hu] at h hp<;>(subst h;rfl)
theorem Tq {t:Nat} {k:TypeDesc} (h:P.underlying t=some k):∃i,P.info? t=some i:=info_of_underlying h
theorem xI:∀(d t:Nat) (m:List Bool),eZ P d t=some m→∃k,P.underlying t=some k
 | 0,_,_,h=>by simp[eZ] at h
 | d+1,t,m,h=>by
   unfold eZ at h;cases hu:P.underlying t with
   | none=>simp[hu] at h
   | some k=>exact⟨k,rfl⟩
def Uu (P:Program) (dd d:Nat):Prop :=
 ∀(w:World) (t:Nat) (m:List Bool),eZ P d t=some m→∀us vs,gE m us vs →
  (Op.equalIn dd t (mk (dB P t) us) (mk (dB P t) vs)).run P w=.ok (decide (us=vs)) w
theorem XS {dd d:Nat} (IH:Uu P dd d) {t:Nat} {m:List Bool} (hm:eZ P d t=some m) (hc:P.cellsOf t=m.length) {us vs:List Value} {off:Nat}
 (hl:gE m ((us.drop off).take m.length) ((vs.drop off).take m.length)) :
 ∃a b,(part t us.toArray off).run P w=.ok a w∧(part t vs.toArray off).run P w=.ok b w∧(Op.equalIn dd t a b).run P w=.ok (decide ((us.drop off).take m.length=(vs.drop off).take m.length)) w:=by
 obtain⟨k,hk⟩:=xI d t m hm
 obtain⟨i,hi⟩:=Tq hk
 have hs:i.size=m.length:=by rw[← hc,rD hi]
 have h1:dB P t=false→i.size=1:=fun h=>by rw[hs];exact oF d t m hm h
 have lens:=lP _ _ _ hl
 simp only[List.length_take,List.length_drop] at lens;by_cases hz:m.length=0
 ·have lA:dB P t=true:=by
   cases h:dB P t with
   | true=>rfl
   | false=>have:=h1 h;omega
  refine⟨.agg #[],.agg #[], ?_, ?_, ?_⟩
  ·simp[part,Ir w hk,lA,run_sizeOf w hi,hs,hz]
  ·simp[part,Ir w hk,lA,run_sizeOf w hi,hs,hz]
  ·have:=IH w t m hm _ _ hl
   rw[lA] at this;simpa [mk,hz] using this
 ·have e1:=Gr w hk hi us off h1 (by omega)
  have e2:=Gr w hk hi vs off h1 (by omega)
  refine⟨_,_,e1,e2, ?_⟩
  have:=IH w t m hm _ _ hl
  rw[hs];exact this
theorem Eb (us:List Value) (off n:Nat):us.drop off=(us.drop off).take n++us.drop (off+n):=by
 rw[← List.drop_drop,List.take_append_drop]
theorem Gs {dd d:Nat} (IH:Uu P dd d) (us vs:List Value):∀(fs:List Field) (off:Nat) (l:List Bool),Ip P (eZ P d) fs off=some l →
 gE l (us.drop off) (vs.drop off)→(Op.eqFields dd us.toArray vs.toArray fs).run P w=.ok (decide (us.drop off=vs.drop off)) w
 | [],off,l,hl,hv=>by
   simp[Ip] at hl
   subst hl;have:=lP _ _ _ hv
   rw[List.length_eq_zero_iff.1 this.1,List.length_eq_zero_iff.1 this.2];simp[Op.eqFields]
 | f :: fs,off,l,hl,hv=>by
   unfold Ip at hl;cases hm:eZ P d f.type with
   | none=>simp[hm] at hl
   | some m =>
     simp only[hm] at hl;split at hl
     ·rename_i hc;obtain⟨c1,c2,c3,c4⟩:=hc
      cases hr:Ip P (eZ P d) fs (off+m.length) with
      | none=>simp[hr] at hl
      | some l' =>
        simp[hr] at hl
        subst hl;obtain⟨v1,v2⟩:=Vt m l' _ _ hv
        rw[List.drop_drop,List.drop_drop] at v2;obtain⟨a,b,p1,p2,p3⟩:=XS w IH hm c3 v1
        have ih:=Gs IH us vs fs (off+m.length) l' hr v2
        subst c2;simp only[Op.eqFields,c1,ne_eq,not_false_eq_true,if_true,Sem.run_bind,p1,p2,p3,Result.andThen_ok];have iff:(us.drop f.offset=vs.drop f.offset)↔((us.drop f.offset).take m.length=(vs.drop f.offset).take m.length∧us.drop (f.offset+m.length)=vs.drop (f.offset+m.length)):=by
         constructor
         ·intro h;refine⟨by rw[h], ?_⟩
          rw[← List.drop_drop,← List.drop_drop,h]
         ·rintro⟨h,k⟩
          rw[Eb us f.offset m.length,Eb vs f.offset m.length,h,k]
        by_cases h:(us.drop f.offset).take m.length=(vs.drop f.offset).take m.length
        ·simp[h,ih,iff]
        ·simp[h,iff]
     ·cases hl
theorem Jz {dd d:Nat} (IH:Uu P dd d) {e:Nat} {m:List Bool} (hm:eZ P d e=some m) (hc:P.cellsOf e=m.length) (us vs:List Value):∀(n k:Nat),
 gE ((List.range n).flatMap fun _=>m) (us.drop (k * m.length)) (vs.drop (k * m.length)) →
 (Op.eqItems dd e m.length us.toArray vs.toArray ((List.range n).map (k + ·))).run P w=.ok (decide (us.drop (k * m.length)=vs.drop (k * m.length))) w
 | 0,k,hv=>by
   have:=lP _ _ _ hv
   simp only[List.range_zero,List.flatMap_nil,List.length_nil] at this;rw[List.length_eq_zero_iff.1 this.1,List.length_eq_zero_iff.1 this.2];simp[Op.eqItems]
 | n+1,k,hv=>by
   rw[List.range_succ_eq_map] at hv ⊢;simp only[List.flatMap_cons,List.flatMap_map] at hv;obtain⟨v1,v2⟩:=Vt m _ _ _ hv
   rw[List.drop_drop,List.drop_drop,show k * m.length+m.length=(k+1) * m.length by rw[Nat.add_mul];omega] at v2
   obtain⟨a,b,p1,p2,p3⟩:=XS w IH hm hc v1
   have ih:=Jz IH hm hc us vs n (k+1) v2
   simp only[List.map_cons,Nat.add_zero,List.map_map,Op.eqItems,Sem.run_bind,p1,p2,p3,Result.andThen_ok];have hmap:(List.range n).map ((k + ·) ∘ Nat.succ)=(List.range n).map (k+1 + ·):=by
    apply List.map_congr_left
    intro x _;simp only[Function.comp];omega
   rw[hmap];have iff:(us.drop (k * m.length)=vs.drop (k * m.length))↔((us.drop (k * m.length)).take m.length=(vs.drop (k * m.length)).take m.length∧us.drop ((k+1) * m.length)=vs.drop ((k+1) * m.length)):=by
    rw[show (k+1) * m.length=k * m.length+m.length by rw[Nat.add_mul];omega]
    constructor
    ·intro h;refine⟨by rw[h], ?_⟩
     rw[← List.drop_drop,← List.drop_drop,h]
    ·rintro⟨h,k'⟩
     rw[Eb us _ m.length,Eb vs _ m.length,h,k']
   by_cases h:(us.drop (k * m.length)).take m.length=(vs.drop (k * m.length)).take m.length
   ·simp[h,ih,iff]
   ·simp[h,iff]
theorem Bq:∀(d dd:Nat),d≤dd→Uu P dd d
 | 0,_,_=>fun w t m hm=>by simp[eZ] at hm
 | d+1,0,h=>absurd h (by omega)
 | d+1,dd+1,h=>by
   intro w t m hm us vs hv;have IH:=Bq d dd (by omega)
   unfold eZ at hm;cases hu:P.underlying t with
   | none=>simp[hu] at hm
   | some k =>
     cases k<;>simp only[hu] at hm<;>(try (cases hm;done))
     case bool =>
      cases hm
      have lA:dB P t=false:=by simp[dB,hu]
      cases us with
      | nil=>simp[gE] at hv
      | cons u us=>cases vs with
        | nil=>cases u<;>simp[gE] at hv
        | cons v vs =>
          cases u<;>cases v<;>simp[gE] at hv
          cases us<;>cases vs<;>simp[gE] at hv
          rename_i a b;simp[lA,mk,run_equalIn_bool' w dd t a b hu]
          rw[Bool.eq_iff_iff];simp
     case int q =>
      cases hm
      have lA:dB P t=false:=by simp[dB,hu]
      cases us with
      | nil=>simp[gE] at hv
      | cons u us=>cases vs with
        | nil=>cases u<;>simp[gE] at hv
        | cons v vs =>
          cases u<;>cases v<;>simp[gE] at hv
          cases us<;>cases vs<;>simp[gE] at hv
          rename_i k1 a k2 b;subst hv;simp[lA,mk,run_equalIn_int w dd t k1 q a b hu]
          rw[Bool.eq_iff_iff];simp
     case struct fs =>
      have lA:dB P t=true:=by simp[dB,hu]
      split at hm
      ·cases hm
      ·rename_i xS;have XT:P.fieldsOf t=fs:=by simp[Program.fieldsOf,hu]
       rw[lA];simp only[mk,if_true];rw[run_equalIn_struct w dd t _ _ (by rw[XT];exact hu) (by simpa using xS),XT]
       have:=Gs w IH us vs fs.toList 0 m hm (by simpa using hv)
       simpa using this
     case array n e =>
      have lA:dB P t=true:=by simp[dB,hu]
      cases hm':eZ P d e with
      | none=>simp[hm'] at hm
      | some l =>
        simp only[hm'] at hm;split at hm
        ·rename_i hc;cases hm
         obtain⟨i,hi⟩:=Option.isSome_iff_exists.1 hc.2
         rw[lA];simp only[mk,if_true];rw[run_equalIn_array w dd _ _ hu hi];have:=Jz w IH hm' hc.1 us vs n 0 (by simpa using hv)
         rw[hc.1];simpa using this
        ·cases hm
end
end Go.Ab
end
section
namespace Go.Ab
open Classical
section
variable {P:Program} {h0:Nat→Obj→Prop} {w0:World} {F:Gb} {nt:Nat} {ρ:Nat→Nat→Value} {st:St} {a:Act} {w:World}
theorem kZ.ev (S:kZ F h0 w0 nt ρ st a w) (x:Operand):cY (ctx h0 w0 ρ st w) (st.ev x) (a.eval x):=by
 cases x with
 | tmp t=>exact S.env t
 | const v=>exact .v v
 | global g=>exact .v _
 | func f=>exact .v _
theorem iN {C:Ctx} {x y:Value} (h:cY C (.v x) y):y=x:=by cases h;rfl
theorem DE (us vs:List Value):us.map AV.v=vs.map AV.v↔us=vs:=by
 constructor
 ·intro h;induction us generalizing vs with
  | nil=>cases vs with
    | nil=>rfl
    | cons v vs=>simp at h
  | cons u us ih=>cases vs with
    | nil=>simp at h
    | cons v vs =>
      simp at h
      rw[h.1,ih vs h.2]
 ·intro h;rw[h]
theorem Ap {C:Ctx} {us:List Value} {y:Value} (h:cY C (.agg (us.map .v)) y):y=.agg us.toArray:=by
 cases h with
 | agg cs a hl hr h1 =>
   congr 1
   apply Array.ext'
   simp only
   apply List.ext_getElem?
   intro i;by_cases hi:i<us.length
   ·have ha:i<a.size:=by simpa [← hl] using hi
    have:=hr i (.v us[i]) a[i] (by simp[hi]) (by simp[ha])
    have:=iN this
    simp[hi,ha,this]
   ·have ha:¬i<a.size:=by simpa [← hl] using hi
    simp[hi,ha]
theorem dH {α β:Type} {x:Sem α} {f:α→Sem β} {v:α} {w w':World} (h:x.run P w=.ok v w'):(x >>= f).run P w=(f v).run P w':=by
 rw[Sem.run_bind,h];rfl
theorem So (op:BinOp) (qC:op=.eql∨op=.neq) {T:Nat} {xs ys:List AV} {b:Bool} {C:Ctx} {u v:Value} (X Y:Operand) (h:uS P T xs ys=some b)
 (hu:cY C (.agg xs) u) (hv:cY C (.agg ys) v) :
 (do eqGuard op T X Y u v;binOp op T u v:Sem Value).run P w=.ok (.bool (if op=.eql then b else !b)) w:=by
 unfold uS at h;cases hl:eZ P 20 T with
 | none=>simp[hl] at h
 | some l =>
   simp only[hl] at h;split at h
   ·rename_i hc;obtain⟨lA,hg,hf⟩:=hc
    simp only[Option.some.injEq] at h;obtain⟨us,vs,rfl,rfl,hv'⟩:=Ck _ _ _ hf
    have eu:=Ap hu
    have ev:=Ap hv
    subst eu;subst ev;obtain⟨k,hk⟩:=xI 20 T l hl
    have he:=Bq (P:=P) 20 10000 (by omega) w T l hl us vs hv'
    rw[lA] at he;simp only[mk,if_true] at he;have hgd:=run_eqGuard_agg (P:=P) w op T X Y us.toArray vs.toArray hg
    rw[dH hgd];have hd:decide (us=vs)=b:=by
     rw[← h,Bool.eq_iff_iff];simp[DE]
    rcases qC with rfl|rfl
    ·rw[run_eql_struct,he];simp[hd]
    ·rw[run_neq_struct,he];simp[hd]
   ·cases h
theorem Mx {op:BinOp} {T:Nat} {b:Bool} {z:AV} {C:Ctx} {p:Option Addr} {n cap:Nat} (X Y:Operand) (h:sO P op T b=some z) (hb:p.isNone=b:=by rfl) :
 ∃r,(do eqGuard op T X Y (.slice p n cap) (.slice none 0 0);binOp op T (.slice p n cap) (.slice none 0 0):Sem Value).run P w=.ok r w∧cY C z r:=by
 unfold sO at h;split at h
 ·rename_i e hT;have hgd:(eqGuard op T X Y (.slice p n cap) (.slice none 0 0)).run P w=.ok () w:=by
   cases op<;>simp[eqGuard]
  rw[dH hgd];have he:=run_equal_slice_nil (P:=P) w T e p n cap hT
  rw[hb] at he;cases op<;>simp only at h<;>(try (cases h;done))<;>simp only[Option.some.injEq] at h<;>subst h<;>refine⟨_, ?_,.v _⟩<;>simp[binOp,he]
 ·cases h
theorem SL {op:BinOp} {T:Nat} {x y z:AV} {C:Ctx} {u v:Value} (X Y:Operand) (h:gD P op T x y=some z) (hu:cY C x u) (hv:cY C y v) :
 ∃r,(do eqGuard op T X Y u v;binOp op T u v:Sem Value).run P w=.ok r w∧cY C z r:=by
 unfold gD at h;split at h
 ·rename_i k a k' b
  have eu:=iN hu
  have ev:=iN hv
  subst eu;subst ev;have hgd:(eqGuard op T X Y (.int k a) (.int k' b)).run P w=.ok () w:=by
   cases op<;>simp[eqGuard]
  rw[dH hgd];cases op<;>simp only at h<;>split at h<;>(try (cases h;done))<;>simp only[Option.some.injEq] at h<;>subst h<;>refine⟨_, ?_,.v _⟩ <;>
   (try (rename_i hk;first|subst hk|(obtain⟨hk,hb⟩:=hk;subst hk)))<;>simp[binOp,Op.intArith,Op.intDiv,Op.intBits,Op.intCmp,Op.shift, *]
 ·rename_i a b;have eu:=iN hu
  have ev:=iN hv
  subst eu;subst ev;have hgd:(eqGuard op T X Y (.bool a) (.bool b)).run P w=.ok () w:=by
   cases op<;>simp[eqGuard]
  rw[dH hgd];split at h
  ·rename_i hT;cases op<;>simp only at h<;>(try (cases h;done))<;>simp only[Option.some.injEq] at h<;>subst h<;>refine⟨_, ?_,.v _⟩<;>simp[binOp,run_equal_bool w T a b hT]
  ·cases h
 ·rename_i xs ys;cases op<;>simp only at h<;>(try (cases h;done))<;>cases he:uS P T xs ys with
  | none=>simp[he] at h
  | some b =>
    simp only[he,Option.map_some,Option.some.injEq] at h;subst h;first
     | exact⟨_,So (w:=w) .eql (.inl rfl) X Y he hu hv,.v _⟩
     | exact⟨_,So (w:=w) .neq (.inr rfl) X Y he hu hv,.v _⟩
 ·rename_i n c cs;have ev:=iN hv
  subst ev;cases hu with
  | sl _ _ b off cap arr T' fr nA hb hle hh h1=>exact Mx X Y h
 ·have eu:=iN hu
  have ev:=iN hv
  subst eu;subst ev;exact Mx (p:=none) X Y h
 ·cases h
theorem l4 {op:UnOp} {x z:AV} {C:Ctx} {u:Value} (h:unA op x=some z) (hu:cY C x u):∃r,(Op.unary op u).run P w=.ok r w∧cY C z r:=by
 unfold unA at h;split at h<;>(try (cases h;done))<;>simp only[Option.some.injEq] at h<;>subst h<;>(have eu:=iN hu;subst eu;refine⟨_, ?_,.v _⟩)<;>simp[Op.unary,Op.intArith,Op.intBits]
theorem aY {t:Nat} {d:TypeDesc} (h:P.underlying t=some d):(underlying t).run P w=.ok d w:=by simp[underlying,h]
theorem lU (b off k:Nat):(⟨b,off,none⟩:Addr).add k=⟨b,off+k,none⟩:=by
 unfold Addr.add;split
 ·rename_i h;subst h;rfl
 ·rfl
theorem My {x z:AV} {k:Nat} {C:Ctx} {u:Value} (h:vA x k=some z) (hu:cY C x u):∃b off,u=.pointer (some ⟨b,off,none⟩)∧cY C z (.pointer (some ⟨b,off+k,none⟩)):=by
 cases x<;>simp[vA] at h
 ·rename_i cs o;obtain⟨hk,rfl⟩:=h
  cases hu with
  | ip _ _ b off arr T fr hb hle hr h1=>exact⟨b,off+o,rfl,by rw[Nat.add_assoc];exact .ip cs (o+k) b off arr T fr hb hle hr h1⟩
 ·subst h;cases hu with
  | ptr s g off b hg hb=>exact⟨b,_,rfl,.ptr _ _ _ b hg hb⟩
theorem Tr {x z:AV} {T f k:Nat} {C:Ctx} {u:Value} (hf:aV P T f=some k) (h:vA x k=some z) (hu:cY C x u) :
 ∃r,(Instr.fieldAt T u f).run P w=.ok r w∧cY C z r:=by
 obtain⟨b,off,rfl,hz⟩:=My h hu
 unfold aV at hf;split at hf
 ·rename_i fs hT;split at hf
  ·rename_i fd hfd;split at hf
   ·cases hf
   ·rename_i gW;simp only[Option.some.injEq] at hf;subst hf;have hi:∃i,P.info? fd.type=some i:=by
     cases h:P.info? fd.type with
     | some i=>exact⟨i,rfl⟩
     | none=>simp[Program.cellsOf,h] at gW
    obtain⟨i,hi⟩:=hi
    rw[rD hi] at gW;refine⟨_, ?_,hz⟩
    simp[Instr.fieldAt,aY hT,hfd,Instr.sureAddr,fieldPlace,run_sizeOf w hi,gW,lU]
  ·cases hf
 ·cases hf
theorem Mz {T n sz:Nat} (h:jM P T=some (n,sz)):∃e i,P.underlying T=some (.array n e)∧P.info? e=some i∧i.size=sz∧sz≠0:=by
 unfold jM at h;split at h
 ·rename_i n' e hT
  split at h
  ·cases h
  ·rename_i gW;simp only[Option.some.injEq,Prod.mk.injEq] at h;obtain⟨rfl,rfl⟩:=h
   cases hi:P.info? e with
   | none=>simp[Program.cellsOf,hi] at gW
   | some i=>exact⟨e,i,hT,hi,(rD hi).symm,gW⟩
 ·cases h
theorem kA {T e sz by_:Nat} (h:dM P T=some (e,sz,by_)):∃i z,P.underlying T=some (.slice e)∧P.info? e=some i∧i.zero=some z∧i.size=sz∧z.cells.size=sz∧i.bytes=by_∧0<sz:=by
 unfold dM at h;split at h
 ·rename_i e' hT
  split at h
  ·rename_i i hi;split at h
   ·rename_i z hz;split at h
    ·cases h
    ·rename_i gW;simp only[Option.some.injEq,Prod.mk.injEq] at h;obtain⟨rfl,rfl,rfl⟩:=h
     simp only[not_or,ne_eq,Decidable.not_not] at gW;exact⟨i,z,hT,hi,hz,rfl,gW.2,rfl,by omega⟩
   ·cases h
  ·cases h
 ·cases h
theorem Na (S:kZ F h0 w0 nt ρ st a w) {x:AV} {cs:List AV} {u:Value} (h:qI st x=some cs) (hu:cY (ctx h0 w0 ρ st w) x u) :
 ∃b off arr T fr,u=.pointer (some ⟨b,off,none⟩)∧w.heap[b]? = some (.cells arr T fr)∧gC (ctx h0 w0 ρ st w) cs ((arr.toList.drop off).take cs.length):=by
 cases x<;>simp[qI] at h
 ·subst h;cases hu with
  | ip Du o' b off arr T fr hb hle hr h1 =>
    refine⟨b,_,arr,T,fr,rfl,hb.1,⟨by simp;omega,fun i x y hx hy=>?_,fun i y hy=>?_⟩⟩
    ·have hi:=(List.getElem?_eq_some_iff.1 hx).1
     rw[List.getElem?_take,if_pos hi,List.getElem?_drop] at hy;rw[List.getElem?_drop] at hx;exact hr _ x y hx (by rw[← Nat.add_assoc];simpa using hy)
    ·rw[List.getElem?_take] at hy;split at hy
     ·rename_i hi;rw[List.getElem?_drop] at hy;simp only[List.length_drop] at hi;have hy':=hy
      simp only[Array.getElem?_toList,Nat.add_assoc] at hy'
      exact h1 _ y (by omega) hy'
     ·cases hy
 ·rename_i s g o;cases hu with
  | ptr s g off b hg hb =>
    cases he:st.heap s g with
    | none=>simp[he] at h
    | some e =>
      obtain⟨_,_,her⟩:=S.sK s g e he
      cases e with
      | cells es =>
        simp[he] at h;subst h;obtain⟨b',arr,T,lE,_,hh,hc⟩:=her
        have wY:b'=b:=by
         have h2:dF (ρ s g)=some b:=hb
         rw[lE] at h2;simpa [dF] using h2
        subst wY;refine⟨b',o,arr,T,(0,0),rfl,hh, ?_⟩
        have:=hc.drop o
        rwa [List.take_of_length_le (by rw[this.len];exact Nat.le_refl _)]
      | row e sz n es =>
        simp[he] at h;subst h;obtain⟨xs,ho,hc⟩:=her
        rcases ho.2 with ⟨p,lE,_⟩|⟨b',cap,cur,lE,_,hh,_,_,_,ht,qJ⟩
        ·have h2:dF (ρ s g)=some b:=hb
         rw[lE,pQ] at h2;cases h2
        ·have wY:b'=b:=by
          have h2:dF (ρ s g)=some b:=hb
          rw[lE,kJ qJ] at h2;simpa using h2
         subst wY;refine⟨b',o,cur,e,(0,0),rfl,hh, ?_⟩
         have:=hc.drop o
         have hl:=this.len
         rw[← ht] at this;rw[List.drop_take] at this;have e1:(es.drop o).length=n * sz-o:=by rw[hl,List.length_drop,ho.1]
         rw[e1];exact this
      | map es=>simp[he] at h
theorem Sp (w:World) {b off:Nat} {arr:Array Value} {B:Nat} {fr:Nat × Nat} {T:Nat} {i:TypeInfo} {d:TypeDesc} (hb:w.heap[b]? = some (.cells arr B fr)) (hi:P.info? T=some i) (hu:P.underlying T=some d)
 (hl:off+(if dB P T=true then i.size else 1)≤arr.size) :
 (loadVar T ⟨b,off,none⟩).run P w=.ok (if dB P T=true then .agg ((arr.toList.drop off).take i.size).toArray else arr.toList.getD off undef) w:=by
 unfold loadVar;rw[dH (Ir w hu)];have oS:∀j,w.cell? ((⟨b,off,none⟩:Addr).add j)=arr[off+j]?:=fun j=>by rw[lU];exact cell_of_row w b (off+j) arr B fr hb
 cases lA:dB P T with
 | true =>
   simp only[lA,if_true] at hl;simp only[if_true];rw[dH (run_sizeOf w hi)];have:=run_loadCells_list (P:=P) w ⟨b,off,none⟩ ((arr.toList.drop off).take i.size) (fun j v hv=>by
    rw[oS];rw[List.getElem?_take] at hv;by_cases hj:j<i.size
    ·rw[if_pos hj,List.getElem?_drop] at hv;simpa using hv
    ·rw[if_neg hj] at hv;cases hv)
   have hlen:((arr.toList.drop off).take i.size).length=i.size:=by simp;omega
   rw[hlen] at this;rw[dH this];simp
 | false =>
   simp only[lA,Bool.false_eq_true,if_false] at hl ⊢;have h0:=oS 0
   simp only[Addr.add,if_true,Nat.add_zero] at h0;have bA:off<arr.size:=by omega
   simp[h0,bA]
theorem Aq {T:Nat} {bb:Bool} {k:Nat} (h:fP P T=some (bb,k)):∃i d,P.info? T=some i∧P.underlying T=some d∧dB P T=bb∧i.size=k:=by
 unfold fP at h;cases hi:P.info? T with
 | none=>simp[hi] at h
 | some i =>
   simp only[hi] at h;cases hu:P.underlying T with
   | none=>simp[hu] at h
   | some d =>
     simp only[hu] at h;refine⟨i,d,rfl,rfl, ?_, ?_⟩
     ·cases d<;>simp_all [dB]
     ·cases d<;>simp_all
theorem Vu (S:kZ F h0 w0 nt ρ st a w) {T:Nat} {x z:AV} {cs:List AV} {u:Value} (hr:qI st x=some cs) (h:xO P T cs=some z) (hu:cY (ctx h0 w0 ρ st w) x u) :
 ∃r,(Instr.loadAt T u).run P w=.ok r w∧cY (ctx h0 w0 ρ st w) z r:=by
 obtain⟨b,off,arr,B,fr,rfl,hb,hc⟩:=Na S hr hu
 unfold xO at h;have hlen:=hc.len
 simp only[List.length_take,List.length_drop,Array.length_toList] at hlen;split at h
 ·rename_i k hk;obtain⟨i,d,hi,hd,lA,rfl⟩:=Aq hk
  split at h
  ·rename_i hle;obtain⟨uQ,hle⟩:=hle
   simp only[Option.some.injEq] at h;subst h;refine⟨_,by
    simp only[Instr.loadAt,Instr.sureAddr];rw[dH (Sem.run_pure P w _)];exact Sp w hb hi hd (by rw[lA];simp only[if_true];omega), ?_⟩
   rw[lA];simp only[if_true];have:=hc.take i.size
   rw[List.take_take,Nat.min_eq_left hle] at this;exact .agg _ _ (by simpa using this.len) (fun j x y hx hy=>this.rel j x y hx (by simpa using hy)) (fun j y hy=>this.one j y (by simpa using hy))
  ·cases h
 ·rename_i k hk;obtain⟨i,d,hi,hd,lA,rfl⟩:=Aq hk
  cases cs with
  | nil=>simp at h
  | cons c cs =>
    simp at h
    subst h;have bA:off<arr.size:=by simp at hlen;omega
    refine⟨_,by
     simp only[Instr.loadAt,Instr.sureAddr];rw[dH (Sem.run_pure P w _)];exact Sp w hb hi hd (by rw[lA];simp;omega), ?_⟩
    rw[lA];simp only[Bool.false_eq_true,if_false];refine hc.rel 0 c _ rfl ?_
    simp[bA]
 ·cases h
theorem sL (S:kZ F h0 w0 nt ρ st a w) {x:AV} {n:Nat} {cs:List AV} {u:Value} (h:aR st x=some (n,cs)) (hu:cY (ctx h0 w0 ρ st w) x u) :
 ∃p cap,u=.slice p n cap∧(cs≠[]→∃b off arr T fr,p=some ⟨b,off,none⟩∧w.heap[b]? = some (.cells arr T fr)∧gC (ctx h0 w0 ρ st w) cs ((arr.toList.drop off).take cs.length)):=by
 unfold aR at h;split at h
 ·rename_i n' Du
  simp only[Option.some.injEq,Prod.mk.injEq] at h;obtain⟨rfl,rfl⟩:=h
  cases hu with
  | KQ n cap p nA=>exact⟨p,cap,rfl,fun h=>absurd rfl h⟩
  | sl n cs'' b off cap arr T fr nA hb hle hr h1 =>
    refine⟨_,cap,rfl,fun _=>⟨b,off,arr,T,fr,rfl,hb.1,⟨by simp;omega,fun i x y hx hy=>?_,fun i y hy=>?_⟩⟩⟩
    ·have hi:=(List.getElem?_eq_some_iff.1 hx).1
     rw[List.getElem?_take,if_pos hi,List.getElem?_drop] at hy;exact hr i x y hx (by simpa using hy)
    ·rw[List.getElem?_take] at hy;split at hy
     ·rename_i hi;rw[List.getElem?_drop] at hy;exact h1 i y hi (by simpa using hy)
     ·cases hy
 ·rename_i n' Du
  simp only[Option.some.injEq,Prod.mk.injEq] at h;obtain⟨rfl,rfl⟩:=h
  cases hu with
  | cl0 n p=>exact⟨p,_,rfl,fun h=>absurd rfl h⟩
  | cl n cs'' b off arr T fr hb hle hr h1 =>
    refine⟨_,_,rfl,fun _=>⟨b,off,arr,T,fr,rfl,hb.1,⟨by simp;omega,fun i x y hx hy=>?_,fun i y hy=>?_⟩⟩⟩
    ·have hi:=(List.getElem?_eq_some_iff.1 hx).1
     rw[List.getElem?_take,if_pos hi,List.getElem?_drop] at hy;exact hr i x y hx (by simpa using hy)
    ·rw[List.getElem?_take] at hy;split at hy
     ·rename_i hi;rw[List.getElem?_drop] at hy;exact h1 i y hi (by simpa using hy)
     ·cases hy
 ·rename_i s g;cases he:st.heap s g with
  | none=>simp[he] at h
  | some e =>
    cases e with
    | row e sz n' es =>
      simp[he] at h
      obtain⟨rfl,rfl⟩:=h
      obtain⟨_,_,xs,ho,hc⟩:=S.sK s g _ he
      cases hu with
      | own s g hg h1 =>
        show ∃p cap,ρ s g=_∧_
        rcases ho.2 with ⟨p,lE,hn⟩|⟨b',cap,cur,lE,_,hh,_,_,_,ht,qJ⟩
        ·refine⟨p,0,by rw[lE,hn],fun gW=>?_⟩
         have:xs.length=0:=by rw[ho.1,hn];simp
         have:=hc.len
         exact absurd (List.length_eq_zero_iff.1 (by omega)) gW
        ·refine⟨_,cap,lE,fun _=>⟨b',0,cur,e,(0,0),rfl,hh, ?_⟩⟩
         rw[hc.len,ho.1,List.drop_zero,ht];exact hc
    | _=>simp[he] at h
 ·rename_i s g o n'
  cases he:st.heap s g with
  | none=>simp[he] at h
  | some e =>
    cases e with
    | row e sz N es =>
      simp only[he] at h;split at h
      ·rename_i hle;simp only[Option.some.injEq,Prod.mk.injEq] at h;obtain⟨rfl,rfl⟩:=h
       obtain⟨_,_,xs,ho,hc⟩:=S.sK s g _ he
       cases hu with
       | vw _ _ _ _ b cap hg hb nA yS =>
         refine⟨_,cap,rfl,fun gW=>?_⟩
         rcases ho.2 with ⟨p,lE,hn⟩|⟨b',AU,cur,lE,_,hh,_,_,_,ht,qJ⟩
         ·exfalso
          change dF (ρ s g)=some b at hb
          rw[lE] at hb;cases p<;>cases hb
         ·change dF (ρ s g)=some b at hb
          rw[lE,kJ qJ] at hb;simp only[Option.some.injEq] at hb;subst hb;refine⟨b',o,cur,e,(0,0),rfl,hh, ?_⟩
          have hxl:xs.length=es.length:=hc.len.symm
          have:((cur.toList.drop o).take ((es.drop o).take (n' * sz)).length)=(xs.drop o).take (n' * sz):=by
           have hl:((es.drop o).take (n' * sz)).length=n' * sz:=by simp;omega
           rw[hl,← ht,List.drop_take,List.take_take,Nat.min_eq_left (by rw[← ho.1];omega)]
          rw[this];exact (hc.drop o).take _
      ·cases h
    | cells es =>
      simp only[he] at h;split at h
      ·rename_i hle;simp only[Option.some.injEq,Prod.mk.injEq] at h;obtain⟨rfl,rfl⟩:=h
       obtain⟨_,_,b',arr,T',lE,_,hh,hc⟩:=S.sK s g _ he
       cases hu with
       | vw _ _ _ _ b cap hg hb nA yS =>
         refine⟨_,cap,rfl,fun gW=>?_⟩
         change dF (ρ s g)=some b at hb
         rw[lE] at hb;simp only[dF,Option.some.injEq] at hb;subst hb;refine⟨b',o,arr,T',(0,0),rfl,hh, ?_⟩
         have hl:((es.drop o).take n').length=n':=by simp;omega
         rw[hl];exact (hc.drop o).take _
      ·cases h
    | _=>simp[he] at h
 ·simp only[Option.some.injEq,Prod.mk.injEq] at h;obtain⟨rfl,rfl⟩:=h
  have:=iN hu
  subst this;exact⟨none,0,rfl,fun h=>absurd rfl h⟩
 ·cases h
theorem Ts (S:kZ F h0 w0 nt ρ st a w) {T:Nat} {x i z:AV} {u v:Value} (h:bF P st T x i=some z) (hu:cY (ctx h0 w0 ρ st w) x u) (hv:cY (ctx h0 w0 ρ st w) i v) :
 ∃r,(Instr.indexAt T u v).run P w=.ok r w∧cY (ctx h0 w0 ρ st w) z r:=by
 unfold bF at h;split at h
 ·rename_i k j;have:=iN hv
  subst this;split at h
  ·rename_i n sz ha;obtain⟨e,ei,hT,hi,rfl,gW⟩:=Mz ha
   split at h
   ·rename_i hj;obtain⟨b,off,rfl,hz⟩:=My h hu
    refine⟨_, ?_,hz⟩
    simp[Instr.indexAt,asIntOf,aY hT,Instr.sureAddr,hj,run_sizeOf w hi,lU]
   ·cases h
  ·split at h
   ·rename_i e sz by_ hs;obtain⟨ei,ez,hT,hi,AW,rfl,Sq,rfl,Br⟩:=kA hs
    split at h
    ·rename_i n cs;split at h
     ·rename_i hj;simp only[Option.some.injEq] at h;subst h;obtain⟨j1,j2,j3⟩:=hj
      cases hu with
      | KQ n cap p nA=>simp at j3;omega
      | sl n cs b off cap arr T' fr nA hb hle hr h1 =>
        refine⟨_, ?_,.ip ((cs.drop (j.toNat * ei.size)).take ei.size) 0 b (off+j.toNat * ei.size) arr T' fr hb (by simp;omega) (fun i x y hx hy=>?_) (fun i y Cl hy=>?_)⟩
        ·simp[Instr.indexAt,asIntOf,aY hT,j1,j2,run_sizeOf w hi,lU]
        ·rw[List.getElem?_take] at hx;split at hx
         ·rw[List.getElem?_drop] at hx;exact hr _ x y hx (by rw[← Nat.add_assoc];exact hy)
         ·cases hx
        ·simp only[List.length_take,List.length_drop] at Cl
         exact h1 (j.toNat * ei.size+i) y (by omega) (by rw[← Nat.add_assoc];exact hy)
     ·cases h
    ·rename_i s g;cases he:st.heap s g with
     | none=>simp[he] at h
     | some e' =>
       cases e' with
       | row e2 sz2 n es =>
         simp only[he] at h;split at h
         ·rename_i hj;obtain⟨j1,j2,rfl,rfl⟩:=hj
          simp only[Option.some.injEq] at h;subst h;obtain⟨bA,_,xs,ho,hc⟩:=S.sK s g _ he
          cases hu with
          | own s g hg h1 =>
            rcases ho.2 with ⟨p,lE,hn⟩|⟨b',cap,cur,lE,_,hh,_,_,_,ht,qJ⟩
            ·omega
            ·refine⟨.pointer (some ⟨b',j.toNat * ei.size,none⟩), ?_,.ptr s g _ b' bA (by show dF (ρ s g)=_;rw[lE,kJ qJ])⟩
             show (Instr.indexAt T (ρ s g) _).run P w=_
             rw[lE];simp[Instr.indexAt,asIntOf,aY hT,j1,j2,run_sizeOf w hi,lU]
         ·cases h
       | _=>simp[he] at h
    ·rename_i s g o n;split at h
     ·rename_i hj;obtain⟨j1,j2⟩:=hj
      simp only[Option.some.injEq] at h;subst h;cases hu with
      | vw _ _ _ _ b cap hg hb nA yS =>
        refine⟨.pointer (some ⟨b,o+j.toNat * ei.size,none⟩), ?_,.ptr s g _ b hg hb⟩
        simp[Instr.indexAt,asIntOf,aY hT,j1,j2,run_sizeOf w hi,lU]
     ·cases h
    ·cases h
   ·cases h
 ·cases h
end
end Go.Ab
end
section
namespace Go.Ab
open Classical
theorem foldl_set (off:Nat):∀(vs:List Value) (k:Nat) (cs:Array Value),off+k+vs.length≤cs.size →
 ((vs.zipIdx k).foldl (fun cs (x:Value × Nat)=>cs.setIfInBounds (off+x.2) x.1) cs).toList=cs.toList.take (off+k)++vs++cs.toList.drop (off+k+vs.length)
 | [],k,cs,h=>by simp
 | v :: vs,k,cs,h=>by
   simp only[List.zipIdx_cons,List.foldl_cons];simp only[List.length_cons] at h;rw[foldl_set off vs (k+1) (cs.setIfInBounds (off+k) v) (by simp;omega)]
   have bA:off+k<cs.size:=by omega
   have Qh:off+k<cs.toList.length:=by simpa using bA
   have e1:(cs.setIfInBounds (off+k) v).toList=cs.toList.set (off+k) v:=by simp
   rw[e1,show off+(k+1)=off+k+1 by omega]
   have e2:cs.toList.set (off+k) v=cs.toList.take (off+k)++v :: cs.toList.drop (off+k+1):=by
    rw[List.set_eq_take_append_cons_drop,if_pos Qh]
   have l1:(cs.toList.take (off+k)).length=off+k:=by simp;omega
   have e3:(cs.toList.set (off+k) v).take (off+k+1)=cs.toList.take (off+k)++[v]:=by
    rw[e2,List.take_append,l1,List.take_of_length_le (by rw[l1];omega),show off+k+1-(off+k)=1 by omega]
    simp
   have e4:(cs.toList.set (off+k) v).drop (off+k+1+vs.length)=cs.toList.drop (off+k+(vs.length+1)):=by
    rw[e2,List.drop_append,l1,List.drop_of_length_le (by rw[l1];omega),show off+k+1+vs.length-(off+k)=vs.length+1 by omega]
    simp only[List.drop_succ_cons,List.nil_append,List.drop_drop];congr 1
    omega
   rw[e3,e4];simp
section
variable {P:Program} {h0:Nat→Obj→Prop} {w0:World} {F:Gb} {nt:Nat} {ρ:Nat→Nat→Value} {st:St} {a:Act} {w:World}
theorem Ku {C:Ctx} {place:Nat→Option (Nat × Nat)}:∀(parts:List (Nat × AV)) (pv:List (Nat × Value)) (cells:List AV) (ys:Array Value) (out:List AV),
 parts.map (·.1)=pv.map (·.1)→lO C (parts.map (·.2)) (pv.map (·.2))→(∀p∈parts,p.2.jD=true)→gC C cells ys.toList→gT place cells parts=some out →
 ∃zs,Instr.fill place ys pv=some zs∧gC C out zs.toList
 | [],pv,cells,ys,out,h1,h2,h3,h4,h5=>by
   cases pv with
   | nil=>simp[gT] at h5;subst h5;exact⟨ys,rfl,h4⟩
   | cons p pv=>simp at h1
 | (i,x) :: parts,[],cells,ys,out,h1,_,_,_,_=>by simp at h1
 | (i,x) :: parts,(i',v) :: pv,cells,ys,out,h1,h2,h3,h4,h5=>by
   simp only[List.map_cons,List.cons.injEq] at h1;obtain⟨rfl,h1⟩:=h1
   simp only[List.map_cons] at h2;have hx:=h2.head
   have hc:=hx.cells (h3 (i,x) (by simp))
   unfold gT at h5;unfold Instr.fill;cases hp:place i with
   | none=>simp[hp] at h5
   | some os =>
     obtain⟨off,size⟩:=os
     simp only[hp] at h5 ⊢;split at h5
     ·rename_i L3;obtain⟨c1,c2⟩:=L3
      have hl:=hc.len
      have hl4:=h4.len
      simp only[Array.length_toList] at hl hl4;have gW:¬(v.cells.size≠size∨off+v.cells.size > ys.size):=by omega
      have hne':(decide (v.cells.size≠size) || decide (off+v.cells.size > ys.size))=false:=by simp;omega
      rw[if_neg (by simpa using gW)]
      refine Ku parts pv _ _ out h1 h2.tail (fun p hp'=>h3 p (by simp[hp'])) ?_ h5
      have e:=foldl_set off v.cells.toList 0 ys (by simp;omega)
      simp only[Nat.add_zero,Array.length_toList] at e;have e2:(v.cells.zipIdx.foldl (fun cs (x:Value × Nat)=>cs.setIfInBounds (off+x.2) x.1) ys).toList=ys.toList.take off++v.cells.toList++ys.toList.drop (off+v.cells.size):=by
       rw[← e,← Array.foldl_toList,Array.toList_zipIdx]
      show gC C _ (v.cells.zipIdx.foldl (fun cs (x:Value × Nat)=>cs.setIfInBounds (off+x.2) x.1) ys).toList
      rw[e2];have e3:off+size=off+v.cells.size:=by omega
      rw[e3];exact ((h4.take off).app hc).app (h4.drop _)
     ·cases h5
theorem yW {T:Nat} {z:List Value} (h:dZ P T=some z):∃i zv,P.info? T=some i∧i.zero=some zv∧z=zv.cells.toList∧∀y∈z,y.oneCell'=true:=by
 unfold dZ at h;split at h
 ·rename_i i hi;cases hz:i.zero with
  | none=>simp[hz] at h
  | some zv =>
    simp only[hz] at h;split at h
    ·rename_i h1;simp only[Option.some.injEq] at h;subst h;exact⟨i,zv,hi,hz,rfl,List.all_eq_true.1 h1⟩
    ·cases h
 ·cases h
theorem KT (S:kZ F h0 w0 nt ρ st a w) {T:Nat} {parts:Array (Nat × Operand)} {z:AV} (h:iU P st T parts.toList=some z) :
 ∃r,(Instr.build T (parts.map fun (i,x)=>(i,a.eval x))).run P w=.ok r w∧cY (ctx h0 w0 ρ st w) z r:=by
 unfold iU at h;cases hz:dZ P T with
 | none=>simp[hz] at h
 | some zs =>
   cases hp:placeOf P T with
   | none=>simp[hz,hp] at h
   | some place =>
     simp only[hz,hp] at h;split at h
     ·rename_i xS;simp only[Option.map_eq_some_iff] at h;obtain⟨out,hf,rfl⟩:=h
      obtain⟨i,zv,hi,KU,rfl,L4⟩:=yW hz
      have gB:lO (ctx h0 w0 ρ st w) ((parts.toList.map fun p=>(p.1,st.ev p.2)).map (·.2)) ((parts.toList.map fun p=>(p.1,a.eval p.2)).map (·.2)):=by
       simp only[List.map_map];exact lO.map _ _ _ fun p _=>S.ev p.2
      obtain⟨cells,KV,oS⟩:=Ku (place:=place) (parts.toList.map fun p=>(p.1,st.ev p.2)) (parts.toList.map fun p=>(p.1,a.eval p.2)) _ zv.cells out (by simp) gB
       (fun p hp'=>by
        obtain⟨q,hq,rfl⟩:=List.mem_map.1 hp'
        exact List.all_eq_true.1 xS q hq) (gC.vs _ _ L4) hf
      have hbuilt:P.built T (parts.map fun (i,x)=>(i,a.eval x)).toList=some cells:=by
       unfold Program.built;unfold placeOf at hp;split at hp
       ·rename_i fs hu;split at hp
        ·rename_i Kv;simp only[Option.some.injEq] at hp;simp only[hi,hu,KU];have hm:fs.toList.mapM (fun f=>(P.info? f.type).map fun i=>(f.offset,i.size))=some (fs.toList.map fun f=>(f.offset,P.cellsOf f.type)):=by
          have L5:∀f∈fs.toList,(P.info? f.type).isSome=true:=fun f hf=>Array.all_eq_true_iff_forall_mem.1 Kv f (Array.mem_toList_iff.1 hf)
          generalize fs.toList=l at L5
          induction l with
          | nil=>rfl
          | cons f l ih =>
            obtain⟨j,hj⟩:=Option.isSome_iff_exists.1 (L5 f (by simp))
            rw[List.mapM_cons,ih fun g hg=>L5 g (by simp[hg])]
            simp[hj,rD hj]
         rw[hm];simp only
         have:(fun x=>(fs.toList.map fun f=>(f.offset,P.cellsOf f.type)).toArray[x]?)=place:=by
          rw[← hp];funext j
          simp
         rw[this];simpa using KV
        ·cases hp
       ·rename_i n e hu;split at hp
        ·rename_i hsome;obtain⟨ie,Bs⟩:=Option.isSome_iff_exists.1 hsome
         simp only[Option.some.injEq] at hp;simp only[hi,hu,KU,Bs];rw[← hp] at KV;simpa [rD Bs] using KV
        ·cases hp
       ·cases hp
      refine⟨_,run_build w T _ cells hbuilt, ?_⟩
      exact .agg _ _ (by simpa using oS.len) (fun j x y hx hy=>oS.rel j x y hx (by simpa using hy)) (fun j y hy=>oS.one j y (by simpa using hy))
     ·cases h
end
end Go.Ab
end
