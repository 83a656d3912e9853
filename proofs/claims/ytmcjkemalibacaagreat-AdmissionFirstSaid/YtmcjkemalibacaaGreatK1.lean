/-
  Part 1 of the proof: an evaluator of programs, its soundness, and what functions of this program compute.
-/
import Derived.WalkKit
import Derived.Laws.AppendOwn
import Derived.Laws.StructEq
import Derived.DeepKeys
import Derived.Laws.Cover3
import Derived.Laws.Tables
import Derived.Laws.OwnMore
import Derived.Great.BuildSlice
set_option linter.all false
set_option maxRecDepth 20000
set_option maxHeartbeats 40000000
section
namespace Go.Ab
open Classical
inductive AV where
 | v (x:Value)
 | agg (cs:List AV)
 | sl (n:Nat) (cs:List AV)
 | cl (n:Nat) (cs:List AV)
 | ip (cs:List AV) (o:Nat)
 | ptr (s g off:Nat)
 | own (s g:Nat)
 | mp (s g:Nat)
 | clo (f:Nat) (caps:List AV)
 | tup (vs:List AV)
 | uniq (e sz n:Nat) (cs:List AV)
 | vw (s g o n:Nat)
class Ext where
 mv:Nat→Bool
 keep:Nat→Bool
 eat:Nat→Bool
 inl:Nat→Option Nat→Bool
 dyn:Nat→Nat→Option Nat→List (Nat × Nat)
 pa:Nat→Nat→Bool
 ext:Nat→List AV→Option AV
inductive Ent where
 | cells (cs:List AV)
 | row (e sz n:Nat) (cs:List AV)
 | map (es:List (AV × AV))
structure St where
 env:Nat→AV
 heap:Nat→Nat→Option Ent
 cnt:Nat→Nat
def St.put (st:St) (d:Option Nat) (x:AV):St :=
 match d with
 | none=>st
 | some d=>{ st with env:=fun t=>if t=d then x else st.env t }
def St.setH (st:St) (s g:Nat) (e:Option Ent):St :=
 { st with heap:=fun s' g'=>if s'=s∧g'=g then e else st.heap s' g' }
def St.news (st:St) (d:Nat) (es:List Ent):St :=
 { st with heap:=fun s' g'=>if s'=d∧st.cnt d≤g'∧g' - st.cnt d < es.length then es[g' - st.cnt d]? else st.heap s' g',cnt:=fun s=>if s=d then st.cnt d+es.length else st.cnt s }
def St.new (st:St) (d:Nat) (e:Ent):St :=
 { st with heap:=fun s' g'=>if s'=d∧g'=st.cnt d then some e else st.heap s' g',cnt:=fun s=>if s=d then st.cnt d+1 else st.cnt s }
def St.ev (st:St):Operand→AV
 | .tmp t=>st.env t
 | .const x=>.v x
 | .global g=>.v (.pointer (some ⟨g,0,none⟩))
 | .func f=>.v (.func (.func f) #[] #[])
structure Eff where
 dst:Option Nat
 val:AV
 upd:Option (Nat × Nat × Option Ent):=none
 new:Option (Nat × List Ent):=none
def Eff.apply (e:Eff) (st:St):St :=
 let s1:=match e.upd with
  | some (s,g,x)=>st.setH s g x
  | none=>st
 let s2:=match e.new with
  | some (d,x)=>s1.news d x
  | none=>s1
 s2.put e.dst e.val
def AV.cells:AV→List AV
 | .agg cs=>cs
 | x=>[x]
inductive Flat:AV→Prop
 | v (x:Value):Flat (.v x)
 | agg (cs:List AV) (h:∀ x∈cs,Flat x):Flat (.agg cs)
 | sl (n:Nat) (cs:List AV) (h:∀ x∈cs,Flat x):Flat (.sl n cs)
 | cl (n:Nat) (cs:List AV) (h:∀ x∈cs,Flat x):Flat (.cl n cs)
 | ip (cs:List AV) (o:Nat) (h:∀ x∈cs,Flat x):Flat (.ip cs o)
 | clo (f:Nat) (cs:List AV) (h:∀ x∈cs,Flat x):Flat (.clo f cs)
 | tup (cs:List AV) (h:∀ x∈cs,Flat x):Flat (.tup cs)
inductive MemFree:AV→Prop
 | v (x:Value):MemFree (.v x)
 | agg (cs:List AV) (h:∀ x∈cs,MemFree x):MemFree (.agg cs)
 | tup (cs:List AV) (h:∀ x∈cs,MemFree x):MemFree (.tup cs)
def bnd {α β:Type} (x:Option α) (f:α→Option β):Option β :=
 match x with
 | some a=>f a
 | none=>none
section tables
variable (P:Program)
def fieldOff (T f:Nat):Option Nat :=
 match P.underlying T with
 | some (.struct fs) =>
   match fs[f]? with
   | some fd=>if P.cellsOf fd.type=0 then none else some fd.offset
   | none=>none
 | _=>none
def arrInfo (T:Nat):Option (Nat × Nat) :=
 match P.underlying T with
 | some (.array n e)=>if P.cellsOf e=0 then none else some (n,P.cellsOf e)
 | _=>none
def slInfo (T:Nat):Option (Nat × Nat × Nat) :=
 match P.underlying T with
 | some (.slice e) =>
   match P.info? e with
   | some i =>
     match i.zero with
     | some z=>if i.size=0∨z.cells.size≠i.size then none else some (e,i.size,i.bytes)
     | none=>none
   | none=>none
 | _=>none
def ldInfo (T:Nat):Option (Bool × Nat) :=
 match P.info? T with
 | none=>none
 | some i =>
   match P.underlying T with
   | some (.struct _)=>some (true,i.size)
   | some (.array _ _)=>some (true,i.size)
   | some _=>some (false,i.size)
   | none=>none
def zeroL (T:Nat):Option (List Value) :=
 match P.info? T with
 | some i =>
   match i.zero with
   | some z=>if (z.cells.toList.all fun y=>y.oneCell')=true then some z.cells.toList else none
   | none=>none
 | none=>none
def intKind (T:Nat):Option IntKind :=
 match P.underlying T with
 | some (.int k)=>some k
 | _=>none
def isAggT (t:Nat):Bool :=
 match P.underlying t with
 | some (.struct _)=>true
 | some (.array _ _)=>true
 | _=>false
def leavesL (f:Nat→Option (List Bool)):List Field→Nat→Option (List Bool)
 | [],_=>some []
 | fd :: r,off =>
   match f fd.type with
   | some m =>
     if fd.name ≠ "_" ∧ fd.offset = off ∧ P.cellsOf fd.type = m.length ∧ (P.info? fd.type).isSome = true then (leavesL f r (off + m.length)).map (m ++ ·) else none
   | none=>none
def eqLeaves:Nat→Nat→Option (List Bool)
 | 0,_=>none
 | d+1,t =>
   match P.underlying t with
   | some .bool=>some [false]
   | some (.int _)=>some [true]
   | some (.struct fs)=>if P.stoodInHeld t=true then none else leavesL P (eqLeaves d) fs.toList 0
   | some (.array n e) =>
     match eqLeaves d e with
     | some m=>if P.cellsOf e=m.length∧(P.info? e).isSome=true then some ((List.range n).flatMap fun _=>m) else none
     | none=>none
   | _=>none
end tables
def Leafy:List Bool→List AV→List AV→Prop
 | [],[],[]=>True
 | true :: l,.v (.int k _) :: xs,.v (.int k' _) :: ys=>k=k'∧Leafy l xs ys
 | false :: l,.v (.bool _) :: xs,.v (.bool _) :: ys=>Leafy l xs ys
 | _,_,_=>False
section ops
variable (P:Program)
noncomputable def eqAgg (T:Nat) (xs ys:List AV):Option Bool :=
 match eqLeaves P 20 T with
 | some l=>if isAggT P T=true∧P.eqGuardType P.depth T=false∧Leafy l xs ys then some (decide (xs=ys)) else none
 | none=>none
def nilCmp (op:BinOp) (T:Nat) (b:Bool):Option AV :=
 match P.underlying T with
 | some (.slice _) =>
   match op with
   | .eql=>some (.v (.bool b))
   | .neq=>some (.v (.bool (!b)))
   | _=>none
 | _=>none
noncomputable def binA (op:BinOp) (T:Nat) (x y:AV):Option AV :=
 match x,y with
 | .v (.int k a),.v (.int k' b) =>
   match op with
   | .shl=>if b < 0 then none else some (.v (.int k (k.wrap (a * 2 ^ (min b.toNat k.bits)))))
   | .shr=>if b < 0 then none else some (.v (.int k (a.fdiv (2 ^ (min b.toNat k.bits)))))
   | .add=>if k=k' then some (.v (.int k (k.wrap (a+b)))) else none
   | .sub=>if k=k' then some (.v (.int k (k.wrap (a - b)))) else none
   | .mul=>if k=k' then some (.v (.int k (k.wrap (a * b)))) else none
   | .quo=>if k=k'∧b≠0 then some (.v (.int k (k.wrap (a.tdiv b)))) else none
   | .rem=>if k=k'∧b≠0 then some (.v (.int k (a.tmod b))) else none
   | .and=>if k=k' then some (.v (.int k (k.wrap (BitVec.ofInt k.bits a &&& BitVec.ofInt k.bits b).toNat))) else none
   | .or=>if k=k' then some (.v (.int k (k.wrap (BitVec.ofInt k.bits a ||| BitVec.ofInt k.bits b).toNat))) else none
   | .xor=>if k=k' then some (.v (.int k (k.wrap (BitVec.ofInt k.bits a ^^^ BitVec.ofInt k.bits b).toNat))) else none
   | .andNot=>if k=k' then some (.v (.int k (k.wrap (BitVec.ofInt k.bits a &&& ~~~ BitVec.ofInt k.bits b).toNat))) else none
   | .eql=>if k=k' then some (.v (.bool (a == b))) else none
   | .neq=>if k=k' then some (.v (.bool (a != b))) else none
   | .lss=>if k=k' then some (.v (.bool (decide (a < b)))) else none
   | .leq=>if k=k' then some (.v (.bool (decide (a≤b)))) else none
   | .gtr=>if k=k' then some (.v (.bool (decide (a > b)))) else none
   | .geq=>if k=k' then some (.v (.bool (decide (a≥b)))) else none
 | .v (.bool a),.v (.bool b) =>
   match P.underlying T with
   | some .bool =>
     match op with
     | .eql=>some (.v (.bool (a == b)))
     | .neq=>some (.v (.bool (!(a == b))))
     | _=>none
   | _=>none
 | .agg xs,.agg ys =>
   match op with
   | .eql=>(eqAgg P T xs ys).map fun b=>.v (.bool b)
   | .neq=>(eqAgg P T xs ys).map fun b=>.v (.bool (!b))
   | _=>none
 | .sl _ (_ :: _),.v (.slice none 0 0)=>nilCmp P op T false
 | .v (.slice none 0 0),.v (.slice none 0 0)=>nilCmp P op T true
 | _,_=>none
def unA (op:UnOp) (x:AV):Option AV :=
 match op,x with
 | .not,.v (.bool b)=>some (.v (.bool (!b)))
 | .neg,.v (.int k n)=>some (.v (.int k (k.wrap (0 - n))))
 | .xor,.v (.int k n)=>some (.v (.int k (k.wrap (BitVec.ofInt k.bits (if k.signed then -1 else k.max) ^^^ BitVec.ofInt k.bits n).toNat)))
 | _,_=>none
def addOff (x:AV) (k:Nat):Option AV :=
 match x with
 | .ptr s g o=>some (.ptr s g (o+k))
 | .ip cs o=>if o+k≤cs.length then some (.ip cs (o+k)) else none
 | _=>none
def readAt (st:St) (x:AV):Option (List AV) :=
 match x with
 | .ip cs o=>some (cs.drop o)
 | .ptr s g o =>
   match st.heap s g with
   | some (.cells cs)=>some (cs.drop o)
   | some (.row _ _ _ cs)=>some (cs.drop o)
   | _=>none
 | _=>none
def loadVal (T:Nat) (cs:List AV):Option AV :=
 match ldInfo P T with
 | some (true,k)=>if 0 < k∧k≤cs.length then some (.agg (cs.take k)) else none
 | some (false,_)=>cs.head?
 | none=>none
def sliceView (st:St) (x:AV):Option (Nat × List AV) :=
 match x with
 | .sl n cs=>some (n,cs)
 | .cl n cs=>some (n,cs)
 | .own s g =>
   match st.heap s g with
   | some (.row _ _ n cs)=>some (n,cs)
   | _=>none
 | .vw s g o n =>
   match st.heap s g with
   | some (.row _ sz _ cs)=>if o+n * sz≤cs.length then some (n,(cs.drop o).take (n * sz)) else none
   | some (.cells cs)=>if o+n≤cs.length then some (n,(cs.drop o).take n) else none
   | _=>none
 | .v (.slice none 0 0)=>some (0,[])
 | _=>none
def indexAddrA (st:St) (T:Nat) (x i:AV):Option AV :=
 match i with
 | .v (.int _ i) =>
   match arrInfo P T with
   | some (n,sz)=>if 0≤i∧i < n then addOff x (i.toNat * sz) else none
   | none =>
     match slInfo P T with
     | some (e,sz,_) =>
       match x with
       | .sl n cs=>if 0≤i∧i < n∧i.toNat * sz+sz≤cs.length then some (.ip ((cs.drop (i.toNat * sz)).take sz) 0) else none
       | .own s g =>
         match st.heap s g with
         | some (.row e' sz' n _)=>if 0≤i∧i < n∧e'=e∧sz'=sz then some (.ptr s g (i.toNat * sz)) else none
         | _=>none
       | .vw s g o n=>if 0≤i∧i < n then some (.ptr s g (o+i.toNat * sz)) else none
       | _=>none
     | none=>none
 | _=>none
def fillA (place:Nat→Option (Nat × Nat)) (cells:List AV):List (Nat × AV)→Option (List AV)
 | []=>some cells
 | (i,x) :: rest =>
   match place i with
   | none=>none
   | some (off,size) =>
     if x.cells.length=size∧off+size≤cells.length then fillA place (cells.take off ++ x.cells ++ cells.drop (off+size)) rest else none
def placeOf (T:Nat):Option (Nat→Option (Nat × Nat)) :=
 match P.underlying T with
 | some (.struct fs)=>if fs.all (fun f=>(P.info? f.type).isSome) then some fun i=>(fs[i]?).map fun f=>(f.offset,P.cellsOf f.type) else none
 | some (.array _ e)=>if (P.info? e).isSome then some fun i=>some (i * P.cellsOf e,P.cellsOf e) else none
 | _=>none
def AV.stor:AV→Bool
 | .v x=>x.oneCell'
 | .tup _=>false
 | .uniq _ _ _ _=>false
 | _=>true
def buildA (st:St) (T:Nat) (parts:List (Nat × Operand)):Option AV :=
 match zeroL P T,placeOf P T with
 | some z,some place =>
   if (parts.all fun p=>(st.ev p.2).stor)=true then (fillA place (z.map .v) (parts.map fun p=>(p.1,st.ev p.2))).map .agg else none
 | _,_=>none
def sliceA (st:St) (T:Nat) (x:AV) (lo hi:Option Operand):Option AV :=
 match slInfo P T with
 | some (_,sz,_) =>
   match x with
   | .sl n cs =>
     match (match hi with | some h=>st.ev h | none=>.v (.int .i64 n)),(match lo with | some l=>st.ev l | none=>.v (.int .i64 0)) with
     | .v (.int _ h),.v (.int _ l) =>
       if 0≤l∧l≤h∧h≤n∧cs.length=n * sz then some (.sl (h - l).toNat ((cs.drop (l.toNat * sz)).take ((h - l).toNat * sz))) else none
     | _,_=>none
   | .v (.slice none 0 0) =>
     match (match hi with | some h=>st.ev h | none=>.v (.int .i64 0)),(match lo with | some l=>st.ev l | none=>.v (.int .i64 0)) with
     | .v (.int _ h),.v (.int _ l)=>if l=0∧h=0 then some x else none
     | _,_=>none
   | .own s g =>
     match st.heap s g with
     | some (.row _ _ n _) =>
       match (match hi with | some h=>st.ev h | none=>.v (.int .i64 n)),(match lo with | some l=>st.ev l | none=>.v (.int .i64 0)) with
       | .v (.int _ h),.v (.int _ l)=>if 0≤l∧l≤h∧h≤n then (if l=h then some (.sl 0 []) else some (.vw s g (l.toNat * sz) (h - l).toNat)) else none
       | _,_=>none
     | _=>none
   | _=>none
 | none =>
   match arrInfo P T,x,lo,hi with
   | some (n,_),.ptr s g o,none,none=>some (.vw s g o n)
   | _,_,_,_=>none
def sliceA3 (st:St) (T:Nat) (x:AV) (lo:Option Operand) (hi mx:Operand):Option AV :=
 match slInfo P T with
 | some (_,sz,_) =>
   match st.ev hi,st.ev mx,(match lo with | some l=>st.ev l | none=>.v (.int .i64 0)) with
   | .v (.int _ h),.v (.int _ m),.v (.int _ l) =>
     match x with
     | .sl n cs=>if 0≤l∧l≤h∧h=m∧h≤n∧cs.length=n * sz then some (.cl (h - l).toNat ((cs.drop (l.toNat * sz)).take ((h - l).toNat * sz))) else none
     | .v (.slice none 0 0)=>if l=0∧h=0∧m=0 then some x else none
     | _=>none
   | _,_,_=>none
 | none=>none
def mapKeyOk (l:List Bool) (k:Nat):Bool :=
 match P.underlying k with
 | some (.int _)=>true
 | some .bool=>true
 | some (.array n e) =>
   match P.underlying e with
   | some (.int _)=>decide (P.cellsOf e=1) && decide (l.length=n) && (P.info? e).isSome && decide (n≤10000)
   | _=>false
 | _=>false
def zeroA (T:Nat):Option AV :=
 match P.info? T with
 | some i =>
   match i.zero with
   | some (.agg cs)=>if (cs.toList.all fun y=>y.oneCell')=true then some (.agg (cs.toList.map .v)) else none
   | some y=>if y.oneCell'=true then some (.v y) else none
   | none=>none
 | none=>none
def mapInfo (T:Nat):Option (Nat × AV) :=
 match P.underlying T with
 | some (.map k e) =>
   match eqLeaves P 20 k,zeroA P e with
   | some l,some z=>if mapKeyOk P l k=true then some (k,z) else none
   | _,_=>none
 | _=>none
def keyOkA (k:Nat) (x y:AV):Prop :=
 match eqLeaves P 20 k with
 | some l=>Leafy l x.cells y.cells∧(isAggT P k=true→(∃ cs,x=.agg cs)∧∃ cs,y=.agg cs)∧(isAggT P k=false→(∃ u,x=.v u)∧∃ u,y=.v u)
 | none=>False
noncomputable def mget:List (AV × AV)→AV→Option AV
 | [],_=>none
 | p :: r,x=>if p.1=x then some p.2 else mget r x
noncomputable def mset:List (AV × AV)→AV→AV→List (AV × AV)
 | [],x,y=>[(x,y)]
 | p :: r,x,y=>if p.1=x then (x,y) :: r else p :: mset r x y
noncomputable def lookA (st:St) (T:Nat) (m x:AV) (ok:Bool):Option AV :=
 match m with
 | .mp s g =>
   match st.heap s g,mapInfo P T with
   | some (.map es),some (k,z) =>
     if keyOkA P k x x∧∀ p∈es,keyOkA P k x p.1 then
      match mget es x with
      | some v=>some (if ok=true then .tup [v,.v (.bool true)] else v)
      | none=>some (if ok=true then .tup [z,.v (.bool false)] else z)
     else none
   | _,_=>none
 | _=>none
noncomputable def mapSetA (st:St) (T:Nat) (m x y:AV):Option (Nat × Nat × Ent) :=
 match m with
 | .mp s g =>
   match st.heap s g,mapInfo P T with
   | some (.map es),some (k,_)=>if (keyOkA P k x x∧∀ p∈es,keyOkA P k x p.1)∧y.stor=true then some (s,g,.map (mset es x y)) else none
   | _,_=>none
 | _=>none
def fieldInfo (T f:Nat):Option (Nat × Bool × Nat) :=
 match P.underlying T with
 | some (.struct fs) =>
   match fs[f]? with
   | some fd =>
     match ldInfo P fd.type with
     | some (b,k)=>if b=true∨k=1 then some (fd.offset,b,k) else none
     | none=>none
   | none=>none
 | _=>none
def fieldA (T f:Nat) (x:AV):Option AV :=
 match x with
 | .agg cs =>
   match fieldInfo P T f with
   | some (off,true,k)=>if off+k≤cs.length then some (.agg ((cs.drop off).take k)) else none
   | some (off,false,_)=>cs[off]?
   | none=>none
 | _=>none
noncomputable def opVal (st:St):Op→Option AV
 | .move x=>some (st.ev x)
 | .assign x=>some (st.ev x)
 | .pick c a b =>
   match st.ev c with
   | .v (.bool t)=>some (if t=true then st.ev a else st.ev b)
   | _=>none
 | .binOp op T x y _=>binA P op T (st.ev x) (st.ev y)
 | .unOp op _ x=>unA op (st.ev x)
 | .convert src dst x =>
   match st.ev x,intKind P dst,intKind P src with
   | .v (.int _ n),some k,some _=>some (.v (.int k (k.wrap n)))
   | _,_,_=>none
 | .nilCheck x =>
   match st.ev x with
   | .ptr s g o=>some (.ptr s g o)
   | .ip cs o=>some (.ip cs o)
   | _=>none
 | .field T x f=>fieldA P T f (st.ev x)
 | .fieldAddr T x f =>
   match fieldOff P T f with
   | some k=>addOff (st.ev x) k
   | none=>none
 | .indexAddr T x i=>indexAddrA P st T (st.ev x) (st.ev i)
 | .load T a=>bnd (readAt st (st.ev a)) (loadVal P T)
 | .extract t i =>
   match st.ev t with
   | .tup vs=>vs[i]?
   | _=>none
 | .build T parts=>buildA P st T parts.toList
 | .slice T x lo hi none=>sliceA P st T (st.ev x) lo hi
 | .slice T x lo (some h) (some m)=>sliceA3 P st T (st.ev x) lo h m
 | .lookup T x i ok=>lookA P st T (st.ev x) (st.ev i) ok
 | .makeFunc (.func f) first captured=>if first=#[] then some (.clo f (captured.toList.map st.ev)) else none
 | _=>none
def storeA (st:St) (T:Nat) (a x:AV):Option (Nat × Nat × Ent) :=
 match a with
 | .ptr s g o =>
   match ldInfo P T with
   | some (_,k) =>
     if x.cells.length=k∧x.stor=true then
      match st.heap s g with
      | some (.cells cs)=>if o+k≤cs.length then some (s,g,.cells (cs.take o ++ x.cells ++ cs.drop (o+k))) else none
      | some (.row e sz n cs)=>if o+k≤cs.length then some (s,g,.row e sz n (cs.take o ++ x.cells ++ cs.drop (o+k))) else none
      | _=>none
     else none
   | none=>none
 | _=>none
def appendA (st:St) (T:Nat) (s x:AV):Option (Option (Nat × Nat) × Ent) :=
 match slInfo P T with
 | some (e,sz,by_) =>
   match sliceView st x with
   | some (m,news) =>
     if news.length=m * sz then
      match s with
      | .v (.slice none 0 0) =>
        if m * by_≤140737488355328∧m≤maxLen then some (none,.row e sz m news) else none
      | .own s' g' =>
        match st.heap s' g' with
        | some (.row e' sz' n cs) =>
          if e'=e∧sz'=sz∧(n+m) * by_≤140737488355328∧n+m≤maxLen then
           some (some (s',g'),.row e sz (n+m) (cs ++ news))
          else none
        | _=>none
      | .cl n cs =>
        if cs.length=n * sz∧(n=0∨0 < m)∧(n+m) * by_≤140737488355328∧n+m≤maxLen then some (none,.row e sz (n+m) (cs ++ news)) else none
      | _=>none
     else none
   | none=>none
 | none=>none
def nilApp (st:St) (T:Nat) (s x:AV):Prop:=s=.v (.slice none 0 0)∧(slInfo P T).isSome=true∧(sliceView st x).map Prod.fst=some 0
noncomputable def expo1 (st:St) (x:AV):Option AV :=
 if Flat x then some x else
 match x with
 | .own s g =>
   match st.heap s g with
   | some (.row _ _ n cs)=>if ∀ c∈cs,Flat c then some (.sl n cs) else none
   | _=>none
 | .vw s g o n =>
   match st.heap s g with
   | some (.row _ sz _ cs)=>if (∀ c∈cs,Flat c)∧o+n * sz≤cs.length then some (.sl n ((cs.drop o).take (n * sz))) else none
   | _=>none
 | .ptr s g o =>
   match st.heap s g with
   | some (.cells cs)=>if ∀ c∈cs,Flat c then some (.ip cs o) else none
   | _=>none
 | _=>none
def optAll {α:Type}:List (Option α)→Option (List α)
 | []=>some []
 | some x :: r=>(optAll r).map (x :: ·)
 | none :: _=>none
noncomputable def expo (st:St) (x:AV):Option AV :=
 if Flat x then some x else
 match x with
 | .agg cs=>(optAll (cs.map (expo1 st))).map .agg
 | .clo f caps=>(optAll (caps.map (expo1 st))).map (.clo f)
 | x=>expo1 st x
def asFn:AV→Option (Nat × List AV)
 | .v (.func (.func f) first caps)=>if first=#[]∧caps=#[] then some (f,[]) else none
 | .clo f caps=>some (f,caps)
 | _=>none
def opnC (d c:Nat):AV→AV × List Ent
 | .uniq e sz n cs=>(.own d c,[.row e sz n cs])
 | x=>(x,[])
def opnL (f:Nat→AV→AV × List Ent):Nat→List AV→List AV × List Ent
 | _,[]=>([],[])
 | c,x :: xs=>((f c x).1 :: (opnL f (c+(f c x).2.length) xs).1,(f c x).2 ++ (opnL f (c+(f c x).2.length) xs).2)
def opn1 (d c:Nat):AV→AV × List Ent
 | .agg cs=>(.agg (opnL (opnC d) c cs).1,(opnL (opnC d) c cs).2)
 | x=>opnC d c x
def opn (d c:Nat):AV→AV × List Ent
 | .tup vs=>(.tup (opnL (opn1 d) c vs).1,(opnL (opn1 d) c vs).2)
 | x=>opn1 d c x
def FreshC:AV→Prop
 | .uniq _ _ _ cs=>∀ c∈cs,MemFree c
 | x=>MemFree x
def Fresh1:AV→Prop
 | .agg cs=>∀ c∈cs,FreshC c
 | x=>FreshC x
def Fresh:AV→Prop
 | .tup vs=>∀ x∈vs,Fresh1 x
 | x=>Fresh1 x
noncomputable def putRes (r:AV) (st:St) (dst:Option Nat):Option Eff :=
 if Flat r then some { dst:=dst,val:=r } else
 match dst with
 | some d=>some { dst:=some d,val:=(opn d (st.cnt d) r).1,new:=some (d,(opn d (st.cnt d) r).2)}
 | none=>none
noncomputable def callFn (call:Nat→List AV→Option AV) (g:Nat) (args:List AV) (st:St) (dst:Option Nat):Option Eff :=
 if ∀ x∈args,Flat x then bnd (call g args) fun r=>putRes r st dst
 else
  match optAll (args.map (expo st)) with
  | some xs=>bnd (call g xs) fun r=>if Fresh r then putRes r st dst else none
  | none=>none
noncomputable def callMv (call:Nat→List AV→Option AV) (g:Nat) (args:List AV) (st:St) (dst:Option Nat):Option Eff :=
 match args with
 | .own s k :: rest =>
   match st.heap s k with
   | some (.row e sz n cs) =>
     if (∀ c∈cs,Flat c)∧∀ x∈rest,Flat x then
      match call g (.uniq e sz n cs :: rest) with
      | some (.uniq e' sz' n' cs') =>
        match dst with
        | some d=>some { dst:=some d,val:=.own d (st.cnt d),upd:=some (s,k,none),new:=some (d,[.row e' sz' n' cs'])}
        | none=>none
      | some (.tup [.uniq e' sz' n' cs'])=>some { dst:=dst,val:=.tup [],upd:=some (s,k,some (.row e' sz' n' cs'))}
      | _=>none
     else none
   | _=>none
 | args=>if ∀ x∈args,Flat x then callFn call g args st dst else none
def ownKey:AV→List (Nat × Nat)
 | .own s g=>[(s,g)]
 | _=>[]
def ownKeys1:AV→List (Nat × Nat)
 | .agg cs=>cs.flatMap ownKey
 | x=>ownKey x
def ownKeys:AV→List (Nat × Nat)
 | .tup vs=>vs.flatMap ownKeys1
 | x=>ownKeys1 x
def EatOk (x:AV):Prop:=Flat x∨(∃ s k,x=.own s k)∨∃ cs,x=.agg cs∧∀ c∈cs,Flat c∨∃ s k,c=.own s k
noncomputable def eatRes (r:AV) (st:St) (dst:Option Nat) (s k:Nat):Option Eff :=
 if Flat r then some { dst:=dst,val:=r,upd:=some (s,k,none)} else
 match r,dst with
 | .uniq e sz n cs,some d=>if ∀ c∈cs,MemFree c then some { dst:=some d,val:=.own d (st.cnt d),upd:=some (s,k,none),new:=some (d,[.row e sz n cs])} else none
 | _,_=>none
noncomputable def callEat (call:Nat→List AV→Option AV) (g:Nat) (args:List AV) (st:St) (dst:Option Nat):Option Eff :=
 match args.flatMap ownKeys1 with
 | [(s,k)] =>
   if ∀ x∈args,EatOk x then
    match optAll (args.map (expo st)) with
    | some xs=>bnd (call g xs) fun r=>eatRes r st dst s k
    | none=>none
   else none
 | _=>callFn call g args st dst
section ext
variable [Ext]
noncomputable def callVal (call:Nat→List AV→Option AV) (f:Operand) (args:List AV) (st:St) (dst:Option Nat):Option Eff :=
 match f with
 | .func g=>if Ext.mv g=true then callMv call g args st dst else if Ext.eat g=true then callEat call g args st dst else callFn call g args st dst
 | f =>
   match asFn (st.ev f) with
   | some (g,caps)=>callFn call g (args ++ caps) st dst
   | none=>none
noncomputable def callEff (call:Nat→List AV→Option AV) (c:Call) (dst:Option Nat) (st:St):Option Eff :=
 match c.callee with
 | .value f=>callVal call f (c.args.toList.map st.ev) st dst
 | .builtin .len =>
   match c.args.toList,c.argTypes.toList with
   | [x],[T] =>
     match slInfo P T,sliceView st (st.ev x) with
     | some _,some (n,_)=>some { dst:=dst,val:=.v (.int .i64 n)}
     | _,_=>none
   | _,_=>none
 | .builtin .min =>
   match c.args.toList with
   | [x,y] =>
     match st.ev x,st.ev y with
     | .v (.int k a),.v (.int _ b)=>some { dst:=dst,val:=.v (.int k (if b < a then b else a))}
     | _,_=>none
   | _=>none
 | .builtin .max =>
   match c.args.toList with
   | [x,y] =>
     match st.ev x,st.ev y with
     | .v (.int k a),.v (.int _ b)=>some { dst:=dst,val:=.v (.int k (if b > a then b else a))}
     | _,_=>none
   | _=>none
 | .builtin .append =>
   bnd dst fun d =>
    match c.args.toList,c.argTypes.toList with
    | [s,x],[T,T'] =>
      if T=T' then
       if Ext.pa T d=true∧nilApp P st T (st.ev s) (st.ev x) then some { dst:=some d,val:=.v (.slice none 0 0)} else
       bnd (appendA P st T (st.ev s) (st.ev x)) fun ur=>some { dst:=some d,val:=.own d (st.cnt d),upd:=ur.1.map fun p=>(p.1,p.2,none),new:=some (d,[ur.2])}
      else none
    | _,_=>none
 | _=>none
noncomputable def opEff (call:Nat→List AV→Option AV) (o:Oper) (st:St):Option Eff :=
 match o.op with
 | .alloc T =>
   bnd o.dst fun d=>bnd (zeroL P T) fun z=>some { dst:=some d,val:=.ptr d (st.cnt d) 0,new:=some (d,[.cells (z.map .v)])}
 | .box _ x =>
   bnd o.dst fun d=>if (st.ev x).stor=true then some { dst:=some d,val:=.ptr d (st.cnt d) 0,new:=some (d,[.cells (st.ev x).cells])} else none
 | .buildSlice T n parts =>
   bnd o.dst fun d=>bnd (slInfo P T) fun t=>bnd (zeroL P t.1) fun z =>
    if (0 < n∨parts=#[])∧n * t.2.1≤2 ^ 24∧(parts.toList.all fun p=>(st.ev p.2).stor)=true then
     bnd (fillA (fun i=>some (i * t.2.1,t.2.1)) ((List.range n).flatMap fun _=>z.map .v) (parts.toList.map fun p=>(p.1,st.ev p.2))) fun cs =>
      some { dst:=some d,val:=.own d (st.cnt d),new:=some (d,[.row t.1 t.2.1 n cs])}
    else none
 | .makeSlice T l c =>
   bnd o.dst fun d=>bnd (slInfo P T) fun t=>bnd (zeroL P t.1) fun z =>
    match st.ev l,st.ev c with
    | .v (.int .i64 n),.v (.int .i64 m) =>
      if 0≤n∧n=m∧n * t.2.2≤140737488355328∧n≤maxLen then
       some { dst:=some d,val:=.own d (st.cnt d),new:=some (d,[.row t.1 t.2.1 n.toNat ((List.range n.toNat).flatMap fun _=>z.map .v)])}
      else none
    | _,_=>none
 | .store T a x=>(storeA P st T (st.ev a) (st.ev x)).map fun u=>{ dst:=o.dst,val:=.v undef,upd:=some (u.1,u.2.1,some u.2.2)}
 | .makeMap _ none=>bnd o.dst fun d=>some { dst:=some d,val:=.mp d (st.cnt d),new:=some (d,[.map []])}
 | .mapUpdate T m x y=>(mapSetA P st T (st.ev m) (st.ev x) (st.ev y)).map fun u=>{ dst:=o.dst,val:=.v undef,upd:=some (u.1,u.2.1,some u.2.2)}
 | .call c=>callEff P call c o.dst st
 | op=>(opVal P st op).map fun x=>{ dst:=o.dst,val:=x }
def gv (ops:Array Oper) (st:St) (g:Option (Nat × Bool)):Option Bool :=
 match g with
 | none=>some true
 | some (j,want) =>
   match (ops[j]?).bind (·.dst) with
   | some d =>
     match st.env d with
     | .v x=>match x with
       | .bool b=>some (b == want)
       | _=>some false
     | _=>none
   | none=>some false
noncomputable def evOp (call:Nat→List AV→Option AV) (ops:Array Oper) (o:Oper) (st:St):Option St :=
 match gv ops st o.guard with
 | some b=>if b=true then (opEff P call o st).map fun e=>e.apply st else some (st.put o.dst (.v undef))
 | none=>none
noncomputable def evOps (call:Nat→List AV→Option AV) (ops:Array Oper):List Oper→St→Option St
 | [],st=>some st
 | o :: r,st=>bnd (evOp P call ops o st) (evOps call ops r)
def isInl (o:Oper):Option (Nat × List Operand) :=
 match o.op with
 | .call { callee:=.value (.func g),args,.. }=>if Ext.inl g o.dst=true then some (g,args.toList) else none
 | _=>none
def noI (o:Oper):Bool:=(isInl o).isNone
def noInl (ops:Array Oper):Bool:=ops.all noI
def firstDst (ops:Array Oper):Option Nat:=(ops[0]?).bind (·.dst)
def St.back (st:St) (s:St):St:=⟨st.env,s.heap,s.cnt⟩
noncomputable def evOpI (b:Bool) (call:Nat→List AV→Option AV) (inl:Nat→List AV→St→Option (AV × St)) (ops:Array Oper) (o:Oper) (st:St):Option St :=
 match (if b=true then isInl o else none) with
 | some (g,args) =>
   match gv ops st o.guard with
   | some t=>if t=true then (inl g (args.map st.ev) st).map fun r=>(st.back r.2).put o.dst r.1 else some (st.put o.dst (.v undef))
   | none=>none
 | none=>evOp P call ops o st
noncomputable def evOpsI (b:Bool) (call:Nat→List AV→Option AV) (inl:Nat→List AV→St→Option (AV × St)) (ops:Array Oper):List Oper→St→Option St
 | [],st=>some st
 | o :: r,st=>bnd (evOpI P b call inl ops o st) (evOpsI b call inl ops r)
def keyRegs (o:Oper):Option (List Nat) :=
 match o.guard with
 | some _=>none
 | none =>
   match o.op with
   | .load _ (.tmp a)=>some [a]
   | .store _ (.tmp a) _=>some [a]
   | .indexAddr _ (.tmp a) _=>some [a]
   | .slice _ (.tmp a) _ _ _=>some [a]
   | .call { callee:=.builtin .len,args,.. } =>
     match args.toList with
     | [.tmp a]=>some [a]
     | _=>none
   | .call { callee:=.builtin .append,args,.. } =>
     match args.toList with
     | [.tmp a,.tmp b]=>some [a,b]
     | _=>none
   | .call { callee:=.value (.func g),args,.. } =>
     match args.toList with
     | .tmp a :: _=>if Ext.mv g=true then some [a] else none
     | _=>none
   | _=>none
def keyOf:AV→Option (Option (Nat × Nat))
 | .ptr s g _=>some (some (s,g))
 | .own s g=>some (some (s,g))
 | .vw s g _ _=>some (some (s,g))
 | .v _=>some none
 | .sl _ _=>some none
 | .cl _ _=>some none
 | .ip _ _=>some none
 | _=>none
def farKeys:Option (Option (Nat × Nat))→Option (Option (Nat × Nat))→Prop
 | some (some k),some (some k')=>k≠k'
 | some _,some _=>True
 | _,_=>False
def farApart (x y:AV):Prop:=farKeys (keyOf x) (keyOf y)
def farAll (s:St) (aS bs:List Nat):Prop:=∀ a∈aS,∀ b∈bs,farApart (s.env a) (s.env b)
def SwapAt (ops:Array Oper) (s:St) (p:Nat × Nat):Prop :=
 match (ops[p.1]?).bind keyRegs,(ops[p.2]?).bind keyRegs with
 | some aS,some bs=>farAll s aS bs
 | _,_=>False
def SwapsOk (ops:Array Oper) (s:St):List (Nat × Nat)→Prop
 | []=>True
 | p :: l=>SwapAt ops s p∧SwapsOk ops s l
inductive Ex where
 | normal
 | exit (id:Nat)
 | ret
def Ex.inBlock (id:Nat):Ex→Ex
 | .exit i=>if i=id then .normal else .exit i
 | e=>e
noncomputable def evC (bi:Bool) (call:Nat→List AV→Option AV) (inl:Nat→List AV→St→Option (AV × St)):Nat→Code→St→Option (Ex × St)
 | 0,_,_=>none
 | n+1,c,st =>
   match c with
   | .skip=>some (.normal,st)
   | .region id ops _=>bnd (evOpsI P bi call inl ops ops.toList st) fun s=>if bi=true∧¬ SwapsOk ops s (Ext.dyn id ops.size (firstDst ops)) then none else some (.normal,s)
   | .seq a b=>bnd (evC bi call inl n a st) fun r=>match r.1 with
     | .normal=>evC bi call inl n b r.2
     | e=>some (e,r.2)
   | .cond c a b =>
     match st.ev c with
     | .v (.bool t)=>if t=true then evC bi call inl n a st else evC bi call inl n b st
     | _=>none
   | .block id b=>bnd (evC bi call inl n b st) fun r=>some (r.1.inBlock id,r.2)
   | .loop b=>bnd (evC bi call inl n b st) fun r=>match r.1 with
     | .normal=>evC bi call inl n (.loop b) r.2
     | e=>some (e,r.2)
   | .exit id=>some (.exit id,st)
   | .ret=>some (.ret,st)
   | _=>none
def resVal (st:St):ResultVar→Option AV
 | .tmp t=>some (st.env t)
 | .cell a T=>bnd (readAt st (st.env a)) (loadVal P T)
noncomputable def expoR (st:St) (x:AV):Option AV :=
 match x with
 | .own s g =>
   match st.heap s g with
   | some (.row e sz n cs)=>if ∀ c∈cs,Flat c then some (.uniq e sz n cs) else none
   | _=>none
 | x=>expo st x
noncomputable def expo2 (st:St) (x:AV):Option AV :=
 match x with
 | .own s g =>
   match st.heap s g with
   | some (.row _ _ n cs)=>(optAll (cs.map (expo1 st))).map (.sl n)
   | _=>none
 | x=>expo1 st x
noncomputable def expoD (st:St) (x:AV):Option AV :=
 match x with
 | .agg cs=>(optAll (cs.map (expo2 st))).map .agg
 | x=>expo2 st x
noncomputable def expoS (st:St) (x:AV):Option AV :=
 match expo st x with
 | some y=>some y
 | none=>expoD st x
noncomputable def finishA (fn:Func) (st:St):Option AV :=
 match fn.results.toList with
 | [r]=>bnd (resVal P st r) (expoR st)
 | rs=>(optAll (rs.map fun r=>bnd (resVal P st r) (expoS st))).map .tup
noncomputable def expoUC (st:St) (x:AV):Option AV :=
 if Flat x then some x else
 match x with
 | .own s g =>
   match st.heap s g with
   | some (.row e sz n cs)=>if ∀ c∈cs,Flat c then some (.uniq e sz n cs) else none
   | _=>none
 | _=>none
noncomputable def expoU1 (st:St):AV→Option AV
 | .agg cs=>(optAll (cs.map (expoUC st))).map .agg
 | x=>expoUC st x
noncomputable def expoU (st:St):AV→Option AV
 | .tup vs=>(optAll (vs.map (expoU1 st))).map .tup
 | x=>expoU1 st x
noncomputable def finishK (fn:Func) (st:St):Option AV :=
 match fn.results.toList with
 | [r]=>bnd (resVal P st r) fun x=>if (ownKeys x).Nodup then expoU st x else none
 | rs=>bnd (optAll (rs.map fun r=>resVal P st r)) fun xs=>if (ownKeys (.tup xs)).Nodup then expoU st (.tup xs) else none
noncomputable def finishF (f:Nat) (fn:Func) (st:St):Option AV:=if Ext.keep f=true then finishK P fn st else finishA P fn st
def St.init (xs:List AV):St:=⟨fun t=>(xs[t]?).getD (.v undef),fun _ _=>none,fun _=>0⟩
def opClass (ops:Array Oper) (o:Oper):Nat:= -- 0: touches no memory · 1: reads · 2: makes memory · 3: writes
 match o.op with
 | .load ..=>1
 | .indexAddr ..=>1
 | .slice ..=>1
 | .alloc _ | .box .. | .buildSlice .. | .makeSlice .. | .makeMap ..=>2
 | .store ..=>3
 | .mapUpdate ..=>3
 | .lookup ..=>1
 | .call { callee:=.builtin .append,args,.. }=>match args.toList with
   | .const (.slice none 0 0) :: _=>1
   | _=>3
 | .call { callee:=.builtin .len,.. }=>1
 | .call { callee:=.value (.func g),args,.. }=>if Ext.eat g=true then 3 else if Ext.mv g=true then (match args.toList with
   | .const (.slice none 0 0) :: _=>1
   | _=>3) else 1
 | .call _=>1
 | .select ..=>4
 | _=>if ops.size=0 then 0 else 0
def apartOk (ops:Array Oper) (x y:Oper):Bool :=
 Oper.apart ops x y &&
 (match opClass ops x,opClass ops y with
  | 4,_=>false
  | _,4=>false
  | 3,1=>false
  | 1,3=>false
  | 3,3=>false
  | _,_=>true)
def maskOf (acc:Array Nat) (o:Oper):Nat :=
 o.after.toList.foldl (fun s e=>if Region.binds .any e=true then s ||| 2 ^ e.on ||| acc.getD e.on 0 else s) 0
def forced {α:Type} (n:Nat) (k:Nat→α):α :=
 match n with
 | 0=>k 0
 | m+1=>k (m+1)
def masks:List Oper→Array Nat→Array Nat
 | [],acc=>acc
 | o :: r,acc=>forced (maskOf acc o) fun n=>masks r (acc.push n)
def wroteBefore (b:Array Nat) (i:Nat) (aS:List Nat):List Oper→Nat→Bool
 | [],_=>true
 | o :: r,m=>((match o.dst with | some d=>!aS.contains d | none=>true) || (b.getD i 0).testBit m) && wroteBefore b i aS r (m+1)
def swapSt (ops:Array Oper) (b:Array Nat) (i:Nat) (oi:Oper) (j:Nat) (oj:Oper):Bool :=
 match keyRegs oi,keyRegs oj with
 | some aS,some bs=>Oper.apart ops oi oj && wroteBefore b i aS ops.toList 0 && wroteBefore b j bs ops.toList 0
 | _,_=>false
def pairsOk (ops:Array Oper) (dy:List (Nat × Nat)) (b:Array Nat) (j:Nat) (oj:Oper):List Oper→Nat→Bool
 | [],_=>true
 | oi :: r,i=>(decide (j≤i) || (b.getD j 0).testBit i || (noI oi && noI oj && (apartOk ops oi oj || (dy.contains (i,j) && swapSt ops b i oi j oj)))) && pairsOk ops dy b j oj r (i+1)
def rowsOk (ops:Array Oper) (dy:List (Nat × Nat)) (b:Array Nat):List Oper→Nat→Bool
 | [],_=>true
 | oj :: r,j=>(oj.after.toList.all fun e=>!(Region.binds .any e) || decide (e.on < j)) && pairsOk ops dy b j oj ops.toList 0 && rowsOk ops dy b r (j+1)
def drawOk (ops:Array Oper) (dy:List (Nat × Nat)):Bool:=rowsOk ops dy (masks ops.toList #[]) ops.toList 0
def codeOk (bi:Bool) (nt:Nat):Code→Bool
 | .region id ops draw=>(ops.all fun o=>o.dst.all fun d=>decide (d < nt)) && (!draw || (drawOk ops (if bi=true then Ext.dyn id ops.size (firstDst ops) else [])))
 | .seq a b=>codeOk bi nt a && codeOk bi nt b
 | .cond _ a b=>codeOk bi nt a && codeOk bi nt b
 | .block _ b=>codeOk bi nt b
 | .loop b=>codeOk bi nt b
 | _=>true
def codeInl:Code→Bool
 | .region _ ops draw=>!noInl ops || (draw && !drawOk ops [])
 | .seq a b=>codeInl a || codeInl b
 | .cond _ a b=>codeInl a || codeInl b
 | .block _ b=>codeInl b
 | .loop b=>codeInl b
 | _=>false
def fnOkB (bi : Bool) (fn : Func) : Bool := fn.name != "runtime.NumGoroutine" && (match fn.body with | some c => codeOk bi fn.ntmps c | none => false)
def fnOk (fn:Func):Bool:=fnOkB (match fn.body with | some c=>codeInl c | none=>false) fn
noncomputable def runF (call:Nat→List AV→Option AV) (inl:Nat→List AV→St→Option (AV × St)) (n f:Nat) (xs:List AV):Option AV :=
 match P.funcs[f]? with
 | some fn =>
   if fnOk fn=true then
    match fn.body with
    | some c=>bnd (evC P (codeInl c) call inl n c (St.init xs)) fun r=>match r.1 with
      | .exit _=>none
      | _=>finishF P f fn r.2
    | none=>none
   else none
 | none=>none
def St.initM (e sz n:Nat) (cs rest:List AV):St :=
 ⟨fun t=>match t with | 0=>.own 0 0 | t+1=>(rest[t]?).getD (.v undef),fun s g=>if s=0∧g=0 then some (.row e sz n cs) else none,fun s=>if s=0 then 1 else 0⟩
noncomputable def finishM (fn:Func) (st:St):Option AV :=
 match fn.results.toList with
 | [r] =>
   match resVal P st r with
   | some (.own s g) =>
     match st.heap s g with
     | some (.row e sz n cs)=>if ∀ c∈cs,MemFree c then some (.uniq e sz n cs) else none
     | _=>none
   | _=>none
 | _=>none
noncomputable def runM (call:Nat→List AV→Option AV) (inl:Nat→List AV→St→Option (AV × St)) (n f e sz m:Nat) (cs rest:List AV):Option AV :=
 match P.funcs[f]? with
 | some fn =>
   if fnOk fn=true then
    match fn.body with
    | some c=>bnd (evC P (codeInl c) call inl n c (St.initM e sz m cs rest)) fun r=>match r.1 with
      | .exit _=>none
      | _=>finishM P fn r.2
    | none=>none
   else none
 | none=>none
noncomputable def finishI (fn:Func) (st:St):Option AV :=
 match fn.results.toList with
 | [r]=>resVal P st r
 | rs=>(optAll (rs.map fun r=>resVal P st r)).map .tup
noncomputable def runI (call:Nat→List AV→Option AV) (inl:Nat→List AV→St→Option (AV × St)) (n f:Nat) (xs:List AV) (st:St):Option (AV × St) :=
 match P.funcs[f]? with
 | some fn =>
   if fnOkB true fn=true then
    match fn.body with
    | some c=>bnd (evC P true call inl n c ((St.init xs).back st)) fun r=>match r.1 with
      | .exit _=>none
      | _=>(finishI P fn r.2).map fun x=>(x,r.2)
    | none=>none
   else none
 | none=>none
def isUniq:AV→Bool
 | .uniq _ _ _ _=>true
 | _=>false
def headUniq:List AV→Option (Nat × Nat × Nat × List AV × List AV)
 | .uniq e sz m cs :: rest=>some (e,sz,m,cs,rest)
 | _=>none
noncomputable def evFI:Nat→(Nat→List AV→Option AV) × (Nat→List AV→St→Option (AV × St))
 | 0=>(Ext.ext,fun _ _ _=>none)
 | n+1=>(fun f xs=>match Ext.ext f xs with
   | some r=>some r
   | none =>
     match headUniq xs with
     | some u=>runM P (evFI n).1 (evFI n).2 n f u.1 u.2.1 u.2.2.1 u.2.2.2.1 u.2.2.2.2
     | none=>if xs.any isUniq=true then none else runF P (evFI n).1 (evFI n).2 n f xs,
  fun f xs st=>runI P (evFI n).1 (evFI n).2 n f xs st)
noncomputable def evF (n:Nat):Nat→List AV→Option AV:=(evFI P n).1
noncomputable def evI (n:Nat):Nat→List AV→St→Option (AV × St):=(evFI P n).2
theorem evF_zero (f:Nat) (xs:List AV):evF P 0 f xs=Ext.ext f xs:=rfl
theorem evF_succ (n f:Nat) (xs:List AV):evF P (n+1) f xs=match Ext.ext f xs with
 | some r=>some r
 | none =>
   match headUniq xs with
   | some u=>runM P (evF P n) (evI P n) n f u.1 u.2.1 u.2.2.1 u.2.2.2.1 u.2.2.2.2
   | none=>if xs.any isUniq=true then none else runF P (evF P n) (evI P n) n f xs:=rfl
theorem evI_zero (f:Nat) (xs:List AV) (st:St):evI P 0 f xs st=none:=rfl
theorem evI_succ (n f:Nat) (xs:List AV) (st:St):evI P (n+1) f xs st=runI P (evF P n) (evI P n) n f xs st:=rfl
end ext
end ops
end Go.Ab
end
section
namespace Go.Ab
open Classical
structure Ctx where
 h:Nat→Obj→Prop
 ρ:Nat→Nat→Value
 cnt:Nat→Nat
def blkOf:Value→Option Nat
 | .pointer (some a)=>some a.block
 | .slice (some a) _ (_+1)=>some a.block
 | .map (some r)=>some r
 | _=>none
inductive RelV (C:Ctx):AV→Value→Prop
 | v (x:Value):RelV C (.v x) x
 | agg (cs:List AV) (a:Array Value) (hl:cs.length=a.size) (h:∀ (i:Nat) (x:AV) (y:Value),cs[i]? = some x→a[i]? = some y→RelV C x y)
  (h1:∀ (i:Nat) (y:Value),a[i]? = some y→y.oneCell'=true):RelV C (.agg cs) (.agg a)
 | sl0 (n cap:Nat) (p:Option Addr) (hcap:n≤cap):RelV C (.sl n []) (.slice p n cap)
 | sl (n:Nat) (cs:List AV) (b off cap:Nat) (arr:Array Value) (T:Nat) (fr:Nat × Nat) (hcap:n≤cap) (hb:C.h b (.cells arr T fr)) (hle:off+cs.length≤arr.size)
  (h:∀ (i:Nat) (x:AV) (y:Value),cs[i]? = some x→arr[off+i]? = some y→RelV C x y)
  (h1:∀ (i:Nat) (y:Value),i < cs.length→arr[off+i]? = some y→y.oneCell'=true):RelV C (.sl n cs) (.slice (some ⟨b,off,none⟩) n cap)
 | cl0 (n:Nat) (p:Option Addr):RelV C (.cl n []) (.slice p n n)
 | cl (n:Nat) (cs:List AV) (b off:Nat) (arr:Array Value) (T:Nat) (fr:Nat × Nat) (hb:C.h b (.cells arr T fr)) (hle:off+cs.length≤arr.size)
  (h:∀ (i:Nat) (x:AV) (y:Value),cs[i]? = some x→arr[off+i]? = some y→RelV C x y)
  (h1:∀ (i:Nat) (y:Value),i < cs.length→arr[off+i]? = some y→y.oneCell'=true):RelV C (.cl n cs) (.slice (some ⟨b,off,none⟩) n n)
 | ip (cs:List AV) (o b off:Nat) (arr:Array Value) (T:Nat) (fr:Nat × Nat) (hb:C.h b (.cells arr T fr)) (hle:off+cs.length≤arr.size)
  (h:∀ (i:Nat) (x:AV) (y:Value),cs[i]? = some x→arr[off+i]? = some y→RelV C x y)
  (h1:∀ (i:Nat) (y:Value),i < cs.length→arr[off+i]? = some y→y.oneCell'=true):RelV C (.ip cs o) (.pointer (some ⟨b,off+o,none⟩))
 | ptr (s g off b:Nat) (hg:g < C.cnt s) (hb:blkOf (C.ρ s g)=some b):RelV C (.ptr s g off) (.pointer (some ⟨b,off,none⟩))
 | own (s g:Nat) (hg:g < C.cnt s) (ho:(C.ρ s g).oneCell'=true):RelV C (.own s g) (C.ρ s g)
 | mp (s g:Nat) (hg:g < C.cnt s) (ho:(C.ρ s g).oneCell'=true):RelV C (.mp s g) (C.ρ s g)
 | vw (s g o n b cap:Nat) (hg:g < C.cnt s) (hb:blkOf (C.ρ s g)=some b) (hcap:n≤cap):RelV C (.vw s g o n) (.slice (some ⟨b,o,none⟩) n cap)
 | clo (f:Nat) (cs:List AV) (a:Array Value) (hl:cs.length=a.size) (h:∀ (i:Nat) (x:AV) (y:Value),cs[i]? = some x→a[i]? = some y→RelV C x y) :
  RelV C (.clo f cs) (.func (.func f) #[] a)
 | tup (cs:List AV) (a:Array Value) (hl:cs.length=a.size) (h:∀ (i:Nat) (x:AV) (y:Value),cs[i]? = some x→a[i]? = some y→RelV C x y) :
  RelV C (.tup cs) (.tuple a)
structure Ctx.Le (C D:Ctx):Prop where
 h:∀ b o,C.h b o→D.h b o
 cnt:∀ s,C.cnt s≤D.cnt s
 ρ:∀ s g,g < C.cnt s→D.ρ s g=C.ρ s g
theorem Ctx.Le.refl (C:Ctx):C.Le C:=⟨fun _ _ h=>h,fun _=>Nat.le_refl _,fun _ _ _=>rfl⟩
theorem Ctx.Le.trans {C D E:Ctx} (h:C.Le D) (k:D.Le E):C.Le E :=
 ⟨fun b o x=>k.h b o (h.h b o x),fun s=>Nat.le_trans (h.cnt s) (k.cnt s),fun s g x=>(k.ρ s g (Nat.lt_of_lt_of_le x (h.cnt s))).trans (h.ρ s g x)⟩
theorem RelV.le {C D:Ctx} {x:AV} {y:Value} (hr:RelV C x y) (k:C.Le D):RelV D x y:=by
 induction hr with
 | v x=>exact .v x
 | agg cs a hl _ h1 ih=>exact .agg cs a hl ih h1
 | sl0 n cap p hcap=>exact .sl0 n cap p hcap
 | sl n cs b off cap arr T fr hcap hb hle _ h1 ih=>exact .sl n cs b off cap arr T fr hcap (k.h _ _ hb) hle ih h1
 | cl0 n p=>exact .cl0 n p
 | cl n cs b off arr T fr hb hle _ h1 ih=>exact .cl n cs b off arr T fr (k.h _ _ hb) hle ih h1
 | ip cs o b off arr T fr hb hle _ h1 ih=>exact .ip cs o b off arr T fr (k.h _ _ hb) hle ih h1
 | ptr s g off b hg hb=>exact .ptr s g off b (Nat.lt_of_lt_of_le hg (k.cnt s)) (by rw[k.ρ s g hg];exact hb)
 | own s g hg ho=>rw[← k.ρ s g hg];exact .own s g (Nat.lt_of_lt_of_le hg (k.cnt s)) (by rw[k.ρ s g hg];exact ho)
 | vw s g o n b cap hg hb hcap=>exact .vw s g o n b cap (Nat.lt_of_lt_of_le hg (k.cnt s)) (by rw[k.ρ s g hg];exact hb) hcap
 | mp s g hg ho=>rw[← k.ρ s g hg];exact .mp s g (Nat.lt_of_lt_of_le hg (k.cnt s)) (by rw[k.ρ s g hg];exact ho)
 | clo f cs a hl _ ih=>exact .clo f cs a hl ih
 | tup cs a hl _ ih=>exact .tup cs a hl ih
structure CellL (C:Ctx) (cs:List AV) (ys:List Value):Prop where
 len:cs.length=ys.length
 rel:∀ (i:Nat) (x:AV) (y:Value),cs[i]? = some x→ys[i]? = some y→RelV C x y
 one:∀ (i:Nat) (y:Value),ys[i]? = some y→y.oneCell'=true
structure RelL (C:Ctx) (cs:List AV) (ys:List Value):Prop where
 len:cs.length=ys.length
 rel:∀ (i:Nat) (x:AV) (y:Value),cs[i]? = some x→ys[i]? = some y→RelV C x y
theorem CellL.le {C D:Ctx} {cs:List AV} {ys:List Value} (h:CellL C cs ys) (k:C.Le D):CellL D cs ys:=⟨h.len,fun i x y hx hy=>(h.rel i x y hx hy).le k,h.one⟩
theorem RelL.le {C D:Ctx} {cs:List AV} {ys:List Value} (h:RelL C cs ys) (k:C.Le D):RelL D cs ys:=⟨h.len,fun i x y hx hy=>(h.rel i x y hx hy).le k⟩
theorem CellL.relL {C:Ctx} {cs:List AV} {ys:List Value} (h:CellL C cs ys):RelL C cs ys:=⟨h.len,h.rel⟩
theorem CellL.nil (C:Ctx):CellL C [] []:=⟨rfl,by simp,by simp⟩
theorem RelL.nil (C:Ctx):RelL C [] []:=⟨rfl,by simp⟩
theorem RelL.cons {C:Ctx} {x:AV} {y:Value} {cs:List AV} {ys:List Value} (h:RelV C x y) (k:RelL C cs ys):RelL C (x :: cs) (y :: ys) :=
 ⟨by simp[k.len],fun i a b ha hb=>by
  cases i with
  | zero=>simp at ha hb;subst ha;subst hb;exact h
  | succ i=>exact k.rel i a b (by simpa using ha) (by simpa using hb)⟩
theorem RelL.head {C:Ctx} {x:AV} {y:Value} {cs:List AV} {ys:List Value} (k:RelL C (x :: cs) (y :: ys)):RelV C x y:=k.rel 0 x y rfl rfl
theorem RelL.tail {C:Ctx} {x:AV} {y:Value} {cs:List AV} {ys:List Value} (k:RelL C (x :: cs) (y :: ys)):RelL C cs ys :=
 ⟨by simpa using k.len,fun i a b ha hb=>k.rel (i+1) a b (by simpa using ha) (by simpa using hb)⟩
theorem RelL.app {C:Ctx} {cs ds:List AV} {ys zs:List Value} (h:RelL C cs ys) (k:RelL C ds zs):RelL C (cs ++ ds) (ys ++ zs):=by
 induction cs generalizing ys with
 | nil=>cases ys with
   | nil=>exact k
   | cons y ys=>have:=h.len;simp at this
 | cons c cs ih=>cases ys with
   | nil=>have:=h.len;simp at this
   | cons y ys=>exact RelL.cons h.head (ih h.tail)
theorem RelL.map {C:Ctx} {α:Type} (l:List α) (f:α→AV) (g:α→Value) (h:∀ a∈l,RelV C (f a) (g a)):RelL C (l.map f) (l.map g):=by
 induction l with
 | nil=>exact .nil C
 | cons a l ih=>exact .cons (h a (by simp)) (ih fun b hb=>h b (by simp[hb]))
theorem CellL.app {C:Ctx} {cs ds:List AV} {ys zs:List Value} (h:CellL C cs ys) (k:CellL C ds zs):CellL C (cs ++ ds) (ys ++ zs) :=
 ⟨(h.relL.app k.relL).len,(h.relL.app k.relL).rel,fun i y hy=>by
  rw[List.getElem?_append] at hy
  split at hy
  ·exact h.one _ _ hy
  ·exact k.one _ _ hy⟩
theorem CellL.take {C:Ctx} {cs:List AV} {ys:List Value} (h:CellL C cs ys) (n:Nat):CellL C (cs.take n) (ys.take n):=by
 refine⟨by simp[h.len],fun i x y hx hy=>?_,fun i y hy=>?_⟩
 ·rw[List.getElem?_take] at hx hy
  by_cases hi:i < n
  ·rw[if_pos hi] at hx hy;exact h.rel i x y hx hy
  ·rw[if_neg hi] at hx;cases hx
 ·rw[List.getElem?_take] at hy
  by_cases hi:i < n
  ·rw[if_pos hi] at hy;exact h.one i y hy
  ·rw[if_neg hi] at hy;cases hy
theorem CellL.drop {C:Ctx} {cs:List AV} {ys:List Value} (h:CellL C cs ys) (n:Nat):CellL C (cs.drop n) (ys.drop n) :=
 ⟨by simp[h.len],fun i x y hx hy=>by rw[List.getElem?_drop] at hx hy;exact h.rel _ x y hx hy,fun i y hy=>by rw[List.getElem?_drop] at hy;exact h.one _ y hy⟩
theorem CellL.vs (C:Ctx) (l:List Value) (h1:∀ y∈l,y.oneCell'=true):CellL C (l.map .v) l :=
 ⟨by simp,fun i x y hx hy=>by
  rw[List.getElem?_map,hy] at hx
  simp at hx;subst hx;exact .v y,fun i y hy=>h1 y (List.mem_of_getElem? hy)⟩
theorem CellL.single {C:Ctx} {x:AV} {y:Value} (h:RelV C x y) (h1:y.oneCell'=true):CellL C [x] [y] :=
 ⟨rfl,fun i a b ha hb=>by
  cases i with
  | zero=>simp at ha hb;subst ha;subst hb;exact h
  | succ i=>simp at ha,fun i b hb=>by
  cases i with
  | zero=>simp at hb;subst hb;exact h1
  | succ i=>simp at hb⟩
theorem Value.cells_one {y:Value} (h:y.oneCell'=true):y.cells=#[y]:=by
 cases y<;>first | rfl | (simp[Value.oneCell'] at h;done)
theorem RelV.one_of_stor {C:Ctx} {x:AV} {y:Value} (h:RelV C x y) (hs:x.stor=true) (hn:∀ cs,x≠.agg cs):y.oneCell'=true:=by
 cases h with
 | v=>exact hs
 | agg cs a hl h h1=>exact absurd rfl (hn cs)
 | own s g hg ho=>exact ho
 | mp s g hg ho=>exact ho
 | tup cs a hl h=>simp[AV.stor] at hs
 | _=>rfl
theorem RelV.cells {C:Ctx} {x:AV} {y:Value} (h:RelV C x y) (hs:x.stor=true):CellL C x.cells y.cells.toList:=by
 by_cases hn:∃ cs,x=.agg cs
 ·obtain⟨cs,rfl⟩:=hn
  cases h with
  | agg cs a hl h h1=>exact⟨by simpa [AV.cells,Value.cells] using hl,fun i x y hx hy=>h i x y (by simpa [AV.cells] using hx) (by simpa [Value.cells] using hy),fun i y hy=>h1 i y (by simpa [Value.cells] using hy)⟩
 ·have hn':∀ cs,x≠.agg cs:=fun cs e=>hn ⟨cs,e⟩
  have h1:=h.one_of_stor hs hn'
  have hx:x.cells=[x]:=by
   cases x<;>first | rfl | exact absurd rfl (hn' _)
  rw[hx,Value.cells_one h1]
  exact .single h h1
def ownsR (w:World) (base e sz:Nat) (v:Value) (n:Nat) (xs:List Value):Prop :=
 xs.length=n * sz∧((∃ p,v=.slice p 0 0∧n=0) ∨
  ∃ g cap cur,v=.slice (some ⟨g,0,none⟩) n cap∧base≤g∧w.heap[g]? = some (.cells cur e (0,0))∧n≤cap∧cap≤maxLen∧cur.size=cap * sz∧cur.toList.take (n * sz)=xs∧0 < cap)
theorem blkOf_sl {a:Addr} {n cap:Nat} (h:0 < cap):blkOf (.slice (some a) n cap)=some a.block:=by
 cases cap with
 | zero=>omega
 | succ c=>rfl
theorem blkOf_sl0 (p:Option Addr) (n:Nat):blkOf (.slice p n 0)=none:=by cases p<;>rfl
theorem ownsR_of {w:World} {base e sz:Nat} {v:Value} {n:Nat} {xs:List Value} (h:w.ownsRow base e sz v n xs):ownsR w base e sz v n xs:=by
 refine⟨h.1, ?_⟩
 rcases h.2 with ⟨rfl,rfl⟩ | ⟨g,cap,cur,rfl,h1,h2,h3,h4,h5,h6⟩
 ·exact .inl ⟨none,rfl,rfl⟩
 ·by_cases hc:cap=0
  ·subst hc
   have:n=0:=by omega
   subst this
   exact .inl ⟨_,rfl,rfl⟩
  ·exact .inr ⟨g,cap,cur,rfl,h1,h2,h3,h4,h5,h6,by omega⟩
theorem ownsR_base {w:World} {b b' e sz n:Nat} {v:Value} {xs:List Value} (h:ownsR w b e sz v n xs) (hb:b'≤b):ownsR w b' e sz v n xs :=
 ⟨h.1,h.2.imp id fun ⟨g,cap,cur,h1,h2,h3⟩=>⟨g,cap,cur,h1,Nat.le_trans hb h2,h3⟩⟩
theorem ownsR_blk {w:World} {base e sz n:Nat} {v:Value} {xs:List Value} (h:ownsR w base e sz v n xs):∀ b,blkOf v=some b→base≤b∧b < w.heap.size:=by
 intro b hb
 rcases h.2 with ⟨p,rfl,_⟩ | ⟨g,cap,cur,rfl,h1,h2,_,_,_,_,hc⟩
 ·rw[blkOf_sl0] at hb;cases hb
 ·rw[blkOf_sl hc] at hb
  simp only[Option.some.injEq] at hb
  subst hb
  exact⟨h1,(Array.getElem?_eq_some_iff.1 h2).1⟩
theorem ownsR_one {w:World} {base e sz n:Nat} {v:Value} {xs:List Value} (h:ownsR w base e sz v n xs):v.oneCell'=true:=by
 rcases h.2 with ⟨p,rfl,_⟩ | ⟨g,cap,cur,rfl,_⟩<;>rfl
theorem ownsR.kept {w w':World} {base e sz n:Nat} {v:Value} {xs:List Value} {row:Option Nat} (h:ownsR w base e sz v n xs) (hg:w.grownBy w' row) (hne:blkOf v=none∨blkOf v≠row):ownsR w' base e sz v n xs:=by
 refine⟨h.1, ?_⟩
 rcases h.2 with h | ⟨g,cap,cur,rfl,h1,h2,h3,h4,h5,h6,hc⟩
 ·exact .inl h
 ·refine .inr ⟨g,cap,cur,rfl,h1, ?_,h3,h4,h5,h6,hc⟩
  rw[blkOf_sl hc] at hne
  rw[hg.block g (Array.getElem?_eq_some_iff.1 h2).1 (by rcases hne with h | h;cases h;exact h)]
  exact h2
def MapL (C:Ctx):List (AV × AV)→List MapEntry→Prop
 | [],[]=>True
 | p :: es,m :: ms=>RelV C p.1 m.key∧RelV C p.2 m.val∧MapL C es ms
 | _,_=>False
theorem MapL.le {C D:Ctx} (k:C.Le D):∀ {es:List (AV × AV)} {ms:List MapEntry},MapL C es ms→MapL D es ms
 | [],[],_=>trivial
 | _ :: _,_ :: _,h=>⟨h.1.le k,h.2.1.le k,MapL.le k h.2.2⟩
 | [],_ :: _,h=>h.elim
 | _ :: _,[],h=>h.elim
def EntRel (C:Ctx) (w:World) (base:Nat) (v:Value):Ent→Prop
 | .cells cs=>∃ b arr T,v=.pointer (some ⟨b,0,none⟩)∧base≤b∧w.heap[b]? = some (.cells arr T (0,0))∧CellL C cs arr.toList
 | .row e sz n cs=>∃ xs,ownsR w base e sz v n xs∧CellL C cs xs
 | .map es=>∃ b arr clock,v=.map (some b)∧base≤b∧w.heap[b]? = some (.map arr clock)∧MapL C es arr.toList
def ctx (h0:Nat→Obj→Prop) (w0:World) (ρ:Nat→Nat→Value) (st:St) (w:World):Ctx where
 h:=fun b o=>w.heap[b]? = some o∧(b < w0.heap.size→h0 b o)∧∀ s g e,st.heap s g=some e→blkOf (ρ s g)≠some b
 ρ:=ρ
 cnt:=st.cnt
structure Frm where
 fr:AV→Value→Prop
 hb:Nat→Obj→Prop
 sz:Nat
def Frm.none:Frm:=⟨fun _ _=>False,fun _ _=>False,0⟩
structure Sim (F:Frm) (h0:Nat→Obj→Prop) (w0:World) (nt:Nat) (ρ:Nat→Nat→Value) (st:St) (a:Act) (w:World):Prop where
 env:∀ t,RelV (ctx h0 w0 ρ st w) (st.env t) (a.tmps.getD t undef)
 ent:∀ s g e,st.heap s g=some e→g < st.cnt s∧(ρ s g).oneCell'=true∧EntRel (ctx h0 w0 ρ st w) w w0.heap.size (ρ s g) e
 inj:∀ s g s' g' e e' b,st.heap s g=some e→st.heap s' g'=some e'→blkOf (ρ s g)=some b→blkOf (ρ s' g')=some b→s=s'∧g=g'
 ext:w0.grownBy w none
 size:nt≤a.tmps.size
 defers:a.defers=[]
 frm:(∀ x v,F.fr x v→RelV (ctx h0 w0 ρ st w) x v)∧(∀ b o,F.hb b o→(ctx h0 w0 ρ st w).h b o)∧F.sz≤w.heap.size
section
variable {h0:Nat→Obj→Prop} {w0:World} {F:Frm} {nt:Nat} {ρ:Nat→Nat→Value} {st:St} {a:Act} {w:World}
theorem ctx_put (d:Option Nat) (x:AV):ctx h0 w0 ρ (st.put d x) w=ctx h0 w0 ρ st w:=by cases d<;>rfl
theorem put_heap (d:Option Nat) (x:AV):(st.put d x).heap=st.heap:=by cases d<;>rfl
theorem new_heap (st:St) (d:Nat) (x:Ent) (s g:Nat):(st.new d x).heap s g=if s=d∧g=st.cnt d then some x else st.heap s g:=rfl
theorem setH_heap (st:St) (s0 g0:Nat) (x:Option Ent) (s g:Nat):(st.setH s0 g0 x).heap s g=if s=s0∧g=g0 then x else st.heap s g:=rfl
theorem put_cnt (d:Option Nat) (x:AV):(st.put d x).cnt=st.cnt:=by cases d<;>rfl
theorem Sim.put (S:Sim F h0 w0 nt ρ st a w) (d:Option Nat) {x:AV} {v:Value} (hd:∀ t,d=some t→t < nt) (h:RelV (ctx h0 w0 ρ st w) x v) :
 Sim F h0 w0 nt ρ (st.put d x) (a.put d v) w:=by
 refine⟨fun t=>?_,fun s g e he=>?_,fun s g s' g' e e' b he he'=>?_,S.ext, ?_, ?_,⟨fun x v h=>by rw[ctx_put];exact S.frm.1 x v h,fun b o h=>by rw[ctx_put];exact S.frm.2.1 b o h,S.frm.2.2⟩⟩
 ·rw[ctx_put]
  cases d with
  | none=>exact S.env t
  | some d =>
    have hlt:d < a.tmps.size:=Nat.lt_of_lt_of_le (hd d rfl) S.size
    simp only[St.put,Act.put]
    by_cases htd:t=d
    ·subst htd
     rw[if_pos rfl]
     simp[hlt]
     exact h
    ·rw[if_neg htd]
     have:(a.tmps.setIfInBounds d v).getD t undef=a.tmps.getD t undef:=by
      simp[Array.getElem?_setIfInBounds_ne (Ne.symm htd)]
     rw[this]
     exact S.env t
 ·rw[put_heap] at he;rw[ctx_put,put_cnt];exact S.ent s g e he
 ·rw[put_heap] at he he';exact S.inj s g s' g' e e' b he he'
 ·cases d<;>simp[Act.put,S.size]
 ·cases d<;>exact S.defers
theorem grown_trans {w w1 w2:World} {r:Option Nat} (h:w.grownBy w1 none) (k:w1.grownBy w2 r) (hr:∀ b,r=some b→w.heap.size≤b):w.grownBy w2 none :=
 ⟨k.os.trans h.os,k.tape.trans h.tape,k.output.trans h.output,Nat.le_trans h.size k.size,fun b hb _=>by
  rw[k.block b (Nat.lt_of_lt_of_le hb h.size) (fun e=>by have:=hr b e.symm;omega)]
  exact h.block b hb (by simp)⟩
theorem EntRel.world {C D:Ctx} {w w':World} {base:Nat} {v:Value} {e:Ent} {r:Option Nat} (h:EntRel C w base v e) (k:C.Le D) (hg:w.grownBy w' r) (hr:blkOf v=none∨blkOf v≠r):EntRel D w' base v e:=by
 cases e with
 | cells cs =>
   obtain⟨b,arr,T,rfl,hb,hh,hc⟩:=h
   refine⟨b,arr,T,rfl,hb, ?_,hc.le k⟩
   have hne:some b≠r:=by
    rcases hr with hr | hr
    ·simp[blkOf] at hr
    ·simpa [blkOf] using hr
   rw[hg.block b (Array.getElem?_eq_some_iff.1 hh).1 hne]
   exact hh
 | row e sz n cs =>
   obtain⟨xs,ho,hc⟩:=h
   exact⟨xs,ho.kept hg hr,hc.le k⟩
 | map es =>
   obtain⟨b,arr,clock,rfl,hb,hh,hc⟩:=h
   refine⟨b,arr,clock,rfl,hb, ?_,hc.le k⟩
   have hne:some b≠r:=by
    rcases hr with hr | hr
    ·simp[blkOf] at hr
    ·simpa [blkOf] using hr
   rw[hg.block b (Array.getElem?_eq_some_iff.1 hh).1 hne]
   exact hh
theorem EntRel.blk {C:Ctx} {w:World} {base:Nat} {v:Value} {e:Ent} (h:EntRel C w base v e):∀ b,blkOf v=some b→base≤b∧b < w.heap.size:=by
 intro b hb
 cases e with
 | cells cs =>
   obtain⟨b',arr,T,rfl,hb',hh,hc⟩:=h
   simp[blkOf] at hb;subst hb
   exact⟨hb',(Array.getElem?_eq_some_iff.1 hh).1⟩
 | row e sz n cs =>
   obtain⟨xs,ho,hc⟩:=h
   exact ownsR_blk ho b hb
 | map es =>
   obtain⟨b',arr,clock,rfl,hb',hh,_⟩:=h
   simp[blkOf] at hb;subst hb
   exact⟨hb',(Array.getElem?_eq_some_iff.1 hh).1⟩
theorem Sim.grow (S:Sim F h0 w0 nt ρ st a w) {w':World} (hg:w.grownBy w' none):Sim F h0 w0 nt ρ st a w'∧(ctx h0 w0 ρ st w).Le (ctx h0 w0 ρ st w'):=by
 have k:(ctx h0 w0 ρ st w).Le (ctx h0 w0 ρ st w'):=⟨fun b o hb=>⟨by
  rw[hg.block b (Array.getElem?_eq_some_iff.1 hb.1).1 (by simp)];exact hb.1,hb.2.1,hb.2.2⟩,fun _=>Nat.le_refl _,fun _ _ _=>rfl⟩
 exact⟨⟨fun t=>(S.env t).le k,fun s g e he=>⟨(S.ent s g e he).1,(S.ent s g e he).2.1,(S.ent s g e he).2.2.world k hg (by cases blkOf (ρ s g)<;>simp)⟩,S.inj,grown_trans S.ext hg (by simp),S.size,S.defers,⟨fun x v h=>(S.frm.1 x v h).le k,fun b o h=>k.h b o (S.frm.2.1 b o h),Nat.le_trans S.frm.2.2 hg.size⟩⟩,k⟩
def upρ (ρ:Nat→Nat→Value) (d g:Nat) (v:Value):Nat→Nat→Value:=fun s' g'=>if s'=d∧g'=g then v else ρ s' g'
theorem blkOf_ne_fresh (S:Sim F h0 w0 nt ρ st a w) {s g:Nat} {e:Ent} (he:st.heap s g=some e) {b:Nat} (hb:w.heap.size≤b):blkOf (ρ s g)≠some b:=by
 intro h
 have:=((S.ent s g e he).2.2.blk b h).2
 omega
def upρs (ρ:Nat→Nat→Value) (d c:Nat) (vs:List Value):Nat→Nat→Value:=fun s' g'=>if s'=d∧c≤g'∧g' - c < vs.length then vs.getD (g' - c) undef else ρ s' g'
theorem Sim.news (S:Sim F h0 w0 nt ρ st a w) {w':World} (hg:w.grownBy w' none) (d:Nat) (xs:List Ent) (vs:List Value) (hl:xs.length=vs.length) (h1:∀ v∈vs,v.oneCell'=true)
 (hfresh:∀ v∈vs,∀ b,blkOf v=some b→w.heap.size≤b)
 (hinj:∀ (i j:Nat) (x y:Value) (b:Nat),vs[i]? = some x→vs[j]? = some y→blkOf x=some b→blkOf y=some b→i=j)
 (hx:∀ C,(ctx h0 w0 ρ st w).Le C→(∀ b o,w.heap.size≤b→w'.heap[b]? = some o→(∀ v∈vs,blkOf v≠some b)→C.h b o) →
  (∀ (i:Nat) (x:Value),vs[i]? = some x→st.cnt d+i < C.cnt d∧C.ρ d (st.cnt d+i)=x)→∀ (i:Nat) (e:Ent) (x:Value),xs[i]? = some e→vs[i]? = some x→EntRel C w' w0.heap.size x e) :
 Sim F h0 w0 nt (upρs ρ d (st.cnt d) vs) (st.news d xs) a w'∧(ctx h0 w0 ρ st w).Le (ctx h0 w0 (upρs ρ d (st.cnt d) vs) (st.news d xs) w') ∧
  (∀ b o,w.heap.size≤b→w'.heap[b]? = some o→(∀ v∈vs,blkOf v≠some b)→(ctx h0 w0 (upρs ρ d (st.cnt d) vs) (st.news d xs) w').h b o) ∧
  (∀ (i:Nat) (x:Value),vs[i]? = some x→st.cnt d+i < (st.news d xs).cnt d∧upρs ρ d (st.cnt d) vs d (st.cnt d+i)=x):=by
 have hold:∀ s g,g < st.cnt s→upρs ρ d (st.cnt d) vs s g=ρ s g:=fun s g hlt=>by
  unfold upρs
  rw[if_neg]
  rintro⟨rfl,h,_⟩
  omega
 have hcd:(st.news d xs).cnt d=st.cnt d+xs.length:=by simp[St.news]
 have hnew:∀ (i:Nat) (x:Value),vs[i]? = some x→st.cnt d+i < (st.news d xs).cnt d∧upρs ρ d (st.cnt d) vs d (st.cnt d+i)=x:=fun i x hi=>by
  have hlt:i < vs.length:=(List.getElem?_eq_some_iff.1 hi).1
  refine⟨by rw[hcd];omega, ?_⟩
  unfold upρs
  rw[if_pos ⟨rfl,by omega,by omega⟩,show st.cnt d+i - st.cnt d=i by omega]
  simp[List.getD_eq_getElem?_getD,hi]
 have hcase:∀ s g e,(st.news d xs).heap s g=some e→(∃ i x,s=d∧g=st.cnt d+i∧xs[i]? = some e∧vs[i]? = some x)∨st.heap s g=some e:=fun s g e he=>by
  simp only[St.news] at he
  split at he
  ·rename_i hc
   obtain⟨rfl,c1,c2⟩:=hc
   exact .inl ⟨g - st.cnt s,vs[g - st.cnt s]'(by omega),rfl,by omega,he,by simp⟩
  ·exact .inr he
 have k:(ctx h0 w0 ρ st w).Le (ctx h0 w0 (upρs ρ d (st.cnt d) vs) (st.news d xs) w'):=by
  refine⟨fun b o hb=>⟨?_,hb.2.1,fun s g e he=>?_⟩,fun s=>?_,hold⟩
  ·rw[hg.block b (Array.getElem?_eq_some_iff.1 hb.1).1 (by simp)];exact hb.1
  ·rcases hcase s g e he with ⟨i,x,rfl,rfl,_,hi⟩ | he
   ·rw[(hnew i x hi).2]
    intro hbv
    have:=hfresh x (List.mem_of_getElem? hi) b hbv
    have:=(Array.getElem?_eq_some_iff.1 hb.1).1
    omega
   ·rw[hold s g (S.ent s g e he).1]
    exact hb.2.2 s g e he
  ·simp only[ctx,St.news]
   split
   ·rename_i h;subst h;omega
   ·exact Nat.le_refl _
 have hh:∀ b o,w.heap.size≤b→w'.heap[b]? = some o→(∀ v∈vs,blkOf v≠some b)→(ctx h0 w0 (upρs ρ d (st.cnt d) vs) (st.news d xs) w').h b o:=fun b o hb ho hne =>
  ⟨ho,fun hlt=>by have:=S.ext.size;omega,fun s g e he=>by
   rcases hcase s g e he with ⟨i,x,rfl,rfl,_,hi⟩ | he
   ·rw[(hnew i x hi).2];exact hne x (List.mem_of_getElem? hi)
   ·rw[hold s g (S.ent s g e he).1]
    exact blkOf_ne_fresh S he hb⟩
 refine⟨⟨fun t=>(S.env t).le k,fun s g e he=>?_,fun s g s' g' e e' b he he' hb hb'=>?_,grown_trans S.ext hg (by simp),S.size,S.defers,⟨fun x v h=>(S.frm.1 x v h).le k,fun b o h=>k.h b o (S.frm.2.1 b o h),Nat.le_trans S.frm.2.2 hg.size⟩⟩,k,hh,hnew⟩
 ·rcases hcase s g e he with ⟨i,x,rfl,rfl,hxi,hi⟩ | he
  ·refine⟨(hnew i x hi).1,by rw[(hnew i x hi).2];exact h1 x (List.mem_of_getElem? hi), ?_⟩
   rw[(hnew i x hi).2]
   exact hx _ k hh hnew i e x hxi hi
  ·obtain⟨e1,e2,e3⟩:=S.ent s g e he
   refine⟨by simp only[St.news];split<;>(try subst_vars)<;>omega,by rw[hold s g e1];exact e2, ?_⟩
   rw[hold s g e1]
   exact e3.world k hg (by cases blkOf (ρ s g)<;>simp)
 ·rcases hcase s g e he with ⟨i,x,rfl,rfl,_,hi⟩ | hq<;>rcases hcase s' g' e' he' with ⟨j,y,rfl,rfl,_,hj⟩ | hq'
  ·rw[(hnew i x hi).2] at hb
   rw[(hnew j y hj).2] at hb'
   exact⟨rfl,by rw[hinj i j x y b hi hj hb hb']⟩
  ·rw[(hnew i x hi).2] at hb
   rw[hold s' g' (S.ent s' g' e' hq').1] at hb'
   exact absurd hb' (blkOf_ne_fresh S hq' (hfresh x (List.mem_of_getElem? hi) b hb))
  ·rw[(hnew j y hj).2] at hb'
   rw[hold s g (S.ent s g e hq).1] at hb
   exact absurd hb (blkOf_ne_fresh S hq (hfresh y (List.mem_of_getElem? hj) b hb'))
  ·rw[hold s g (S.ent s g e hq).1] at hb
   rw[hold s' g' (S.ent s' g' e' hq').1] at hb'
   exact S.inj s g s' g' e e' b hq hq' hb hb'
theorem news_one (st:St) (d:Nat) (e:Ent):st.news d [e]=st.new d e:=by
 unfold St.news St.new
 congr 1
 funext s g
 by_cases h:s=d∧g=st.cnt d
 ·obtain⟨rfl,rfl⟩:=h
  simp
 ·rw[if_neg h]
  split
  ·rename_i hc
   exact absurd ⟨hc.1,by simp at hc;omega⟩ h
  ·rfl
theorem Sim.new (S:Sim F h0 w0 nt ρ st a w) {w':World} (hg:w.grownBy w' none) (d:Nat) (x:Ent) (v:Value) (h1:v.oneCell'=true)
 (hfresh:∀ b,blkOf v=some b→w.heap.size≤b)
 (hx:∀ C,(ctx h0 w0 ρ st w).Le C→(∀ b o,w.heap.size≤b→w'.heap[b]? = some o→blkOf v≠some b→C.h b o)→EntRel C w' w0.heap.size v x) :
 Sim F h0 w0 nt (upρ ρ d (st.cnt d) v) (st.new d x) a w'∧(ctx h0 w0 ρ st w).Le (ctx h0 w0 (upρ ρ d (st.cnt d) v) (st.new d x) w')∧upρ ρ d (st.cnt d) v d (st.cnt d)=v:=by
 have hold:∀ s g,g < st.cnt s→upρ ρ d (st.cnt d) v s g=ρ s g:=fun s g hlt=>by
  unfold upρ
  rw[if_neg]
  rintro⟨rfl,rfl⟩
  omega
 have hnew:upρ ρ d (st.cnt d) v d (st.cnt d)=v:=by simp[upρ]
 have k:(ctx h0 w0 ρ st w).Le (ctx h0 w0 (upρ ρ d (st.cnt d) v) (st.new d x) w'):=by
  refine⟨fun b o hb=>⟨?_,hb.2.1,fun s g e he=>?_⟩,fun s=>?_,hold⟩
  ·rw[hg.block b (Array.getElem?_eq_some_iff.1 hb.1).1 (by simp)];exact hb.1
  ·simp only[St.new] at he
   split at he
   ·rename_i hsg
    obtain⟨rfl,rfl⟩:=hsg
    rw[hnew]
    intro hbv
    have:=hfresh b hbv
    have:=(Array.getElem?_eq_some_iff.1 hb.1).1
    omega
   ·rw[hold s g (S.ent s g e he).1]
    exact hb.2.2 s g e he
  ·simp only[ctx,St.new]
   split
   ·rename_i h;subst h;omega
   ·exact Nat.le_refl _
 refine⟨⟨fun t=>(S.env t).le k,fun s g e he=>?_,fun s g s' g' e e' b he he' hb hb'=>?_,grown_trans S.ext hg (by simp),S.size,S.defers,⟨fun x v h=>(S.frm.1 x v h).le k,fun b o h=>k.h b o (S.frm.2.1 b o h),Nat.le_trans S.frm.2.2 hg.size⟩⟩,k,hnew⟩
 ·simp only[St.new] at he
  split at he
  ·rename_i hsg
   obtain⟨rfl,rfl⟩:=hsg
   cases he
   refine⟨by simp[St.new],by rw[hnew];exact h1, ?_⟩
   rw[hnew]
   refine hx _ k fun b o hb ho hne=>⟨ho,fun hlt=>by have:=S.ext.size;omega,fun s2 g2 e2 he2=>?_⟩
   rw[new_heap] at he2
   by_cases hsg:s2=s∧g2=st.cnt s
   ·obtain⟨rfl,rfl⟩:=hsg
    rw[hnew];exact hne
   ·rw[if_neg hsg] at he2
    rw[hold s2 g2 (S.ent s2 g2 e2 he2).1]
    exact blkOf_ne_fresh S he2 hb
  ·obtain⟨e1,e2,e3⟩:=S.ent s g e he
   refine⟨by simp only[St.new];split<;>(try subst_vars)<;>omega,by rw[hold s g e1];exact e2, ?_⟩
   rw[hold s g e1]
   exact e3.world k hg (by cases blkOf (ρ s g)<;>simp)
 ·simp only[St.new] at he he'
  split at he
  ·rename_i hsg
   obtain⟨rfl,rfl⟩:=hsg
   split at he'
   ·rename_i hsg';exact⟨hsg'.1.symm,hsg'.2.symm⟩
   ·rw[hnew] at hb
    rw[hold s' g' (S.ent s' g' e' he').1] at hb'
    exact absurd hb' (blkOf_ne_fresh S he' (hfresh b hb))
  ·split at he'
   ·rename_i hsg'
    obtain⟨rfl,rfl⟩:=hsg'
    rw[hnew] at hb'
    rw[hold s g (S.ent s g e he).1] at hb
    exact absurd hb (blkOf_ne_fresh S he (hfresh b hb'))
   ·rw[hold s g (S.ent s g e he).1] at hb
    rw[hold s' g' (S.ent s' g' e' he').1] at hb'
    exact S.inj s g s' g' e e' b he he' hb hb'
theorem Sim.storeR (S:Sim F h0 w0 nt ρ st a w) {s g:Nat} {e e':Ent} (he:st.heap s g=some e) {w':World} (hg:w.grownBy w' (blkOf (ρ s g)))
 (hx:∀ C,(ctx h0 w0 ρ st w).Le C→EntRel C w' w0.heap.size (ρ s g) e') :
 Sim F h0 w0 nt ρ (st.setH s g (some e')) a w':=by
 have k:(ctx h0 w0 ρ st w).Le (ctx h0 w0 ρ (st.setH s g (some e')) w'):=by
  refine⟨fun b' o hb'=>⟨?_,hb'.2.1,fun s' g' e'' h=>?_⟩,fun _=>Nat.le_refl _,fun _ _ _=>rfl⟩
  ·rw[hg.block b' (Array.getElem?_eq_some_iff.1 hb'.1).1 (fun h=>hb'.2.2 s g e he h.symm)];exact hb'.1
  ·simp only[St.setH] at h
   split at h
   ·rename_i h';obtain⟨rfl,rfl⟩:=h';exact hb'.2.2 _ _ e he
   ·exact hb'.2.2 _ _ _ h
 refine⟨fun t=>(S.env t).le k,fun s' g' x h=>?_,fun s1 g1 s2 g2 e1 e2 b' h1 h2 hb1 hb2=>?_,grown_trans S.ext hg (fun b hb=>((S.ent s g e he).2.2.blk b hb).1),S.size,S.defers,⟨fun x v h=>(S.frm.1 x v h).le k,fun b o h=>k.h b o (S.frm.2.1 b o h),Nat.le_trans S.frm.2.2 hg.size⟩⟩
 ·simp only[St.setH] at h
  split at h
  ·rename_i h'
   obtain⟨rfl,rfl⟩:=h'
   cases h
   exact⟨(S.ent _ _ e he).1,(S.ent _ _ e he).2.1,hx _ k⟩
  ·rename_i h'
   obtain⟨x1,x2,x3⟩:=S.ent _ _ _ h
   refine⟨x1,x2,x3.world k hg ?_⟩
   cases hbb:blkOf (ρ s' g') with
   | none=>exact .inl rfl
   | some b =>
     right
     intro hq
     exact h' (S.inj _ _ _ _ _ _ b h he hbb hq.symm)
 ·have old:∀ s1 g1 e1,(st.setH s g (some e')).heap s1 g1=some e1→∃ e2,st.heap s1 g1=some e2:=fun s1 g1 e1 h=>by
   simp only[St.setH] at h
   split at h
   ·rename_i h';obtain⟨rfl,rfl⟩:=h';exact⟨e,he⟩
   ·exact⟨_,h⟩
  obtain⟨x1,y1⟩:=old _ _ _ h1
  obtain⟨x2,y2⟩:=old _ _ _ h2
  exact S.inj _ _ _ _ _ _ b' y1 y2 hb1 hb2
theorem Sim.store (S:Sim F h0 w0 nt ρ st a w) {s g b:Nat} {e e':Ent} (he:st.heap s g=some e) (hb:blkOf (ρ s g)=some b) {w':World} (hg:w.grownBy w' (some b))
 (hx:∀ C,(ctx h0 w0 ρ st w).Le C→EntRel C w' w0.heap.size (ρ s g) e') :
 Sim F h0 w0 nt ρ (st.setH s g (some e')) a w':=S.storeR he (by rw[hb];exact hg) hx
theorem Sim.regrow (S:Sim F h0 w0 nt ρ st a w) {s g:Nat} {e:Ent} (he:st.heap s g=some e) {w':World} (hg:w.grownBy w' (blkOf (ρ s g))) (d:Nat) (x:Ent) (v:Value) (h1:v.oneCell'=true)
 (hfresh:∀ b,blkOf v=some b→blkOf (ρ s g)=some b∨w.heap.size≤b)
 (hx:∀ C,(ctx h0 w0 ρ st w).Le C→EntRel C w' w0.heap.size v x) :
 Sim F h0 w0 nt (upρ ρ d (st.cnt d) v) ((st.setH s g none).new d x) a w'∧(ctx h0 w0 ρ st w).Le (ctx h0 w0 (upρ ρ d (st.cnt d) v) ((st.setH s g none).new d x) w')∧upρ ρ d (st.cnt d) v d (st.cnt d)=v:=by
 have hlo:∀ b,blkOf (ρ s g)=some b→w0.heap.size≤b:=fun b hb=>((S.ent s g e he).2.2.blk b hb).1
 have hold:∀ s g,g < st.cnt s→upρ ρ d (st.cnt d) v s g=ρ s g:=fun s g hlt=>by
  unfold upρ
  rw[if_neg]
  rintro⟨rfl,rfl⟩
  omega
 have hnew:upρ ρ d (st.cnt d) v d (st.cnt d)=v:=by simp[upρ]
 have hcase:∀ s1 g1 e1,((st.setH s g none).new d x).heap s1 g1=some e1→(s1=d∧g1=st.cnt d∧e1=x)∨(st.heap s1 g1=some e1∧¬ (s1=s∧g1=g)):=fun s1 g1 e1 h=>by
  rw[new_heap] at h
  by_cases c1:s1=d∧g1=(st.setH s g none).cnt d
  ·rw[if_pos c1] at h;cases h;exact .inl ⟨c1.1,c1.2,rfl⟩
  ·rw[if_neg c1,setH_heap] at h
   by_cases c2:s1=s∧g1=g
   ·rw[if_pos c2] at h;cases h
   ·rw[if_neg c2] at h;exact .inr ⟨h,c2⟩
 have k:(ctx h0 w0 ρ st w).Le (ctx h0 w0 (upρ ρ d (st.cnt d) v) ((st.setH s g none).new d x) w'):=by
  refine⟨fun b o hb=>⟨?_,hb.2.1,fun s1 g1 e1 h=>?_⟩,fun s=>?_,hold⟩
  ·rw[hg.block b (Array.getElem?_eq_some_iff.1 hb.1).1 (fun h=>hb.2.2 s g e he h.symm)];exact hb.1
  ·rcases hcase _ _ _ h with ⟨rfl,rfl,rfl⟩ | ⟨h,_⟩
   ·rw[hnew]
    intro hbv
    rcases hfresh b hbv with h' | h'
    ·exact hb.2.2 s g e he h'
    ·have:=(Array.getElem?_eq_some_iff.1 hb.1).1
     omega
   ·rw[hold _ _ (S.ent _ _ _ h).1]
    exact hb.2.2 _ _ _ h
  ·simp only[ctx,St.new,St.setH]
   split
   ·rename_i h;subst h;omega
   ·exact Nat.le_refl _
 refine⟨⟨fun t=>(S.env t).le k,fun s1 g1 e1 h=>?_,fun s1 g1 s2 g2 e1 e2 b h1' h2' hb1 hb2=>?_,grown_trans S.ext hg hlo,S.size,S.defers,⟨fun x v h=>(S.frm.1 x v h).le k,fun b o h=>k.h b o (S.frm.2.1 b o h),Nat.le_trans S.frm.2.2 hg.size⟩⟩,k,hnew⟩
 ·rcases hcase _ _ _ h with ⟨rfl,rfl,rfl⟩ | ⟨h,hn⟩
  ·refine⟨by simp[St.new,St.setH],by rw[hnew];exact h1, ?_⟩
   rw[hnew]
   exact hx _ k
  ·obtain⟨x1,x2,x3⟩:=S.ent _ _ _ h
   refine⟨by simp only[St.new,St.setH];split<;>(try subst_vars)<;>omega,by rw[hold _ _ x1];exact x2, ?_⟩
   rw[hold _ _ x1]
   refine x3.world k hg ?_
   cases hbb:blkOf (ρ s1 g1) with
   | none=>exact .inl rfl
   | some b1 =>
     right
     intro heq
     exact hn (S.inj _ _ _ _ _ _ b1 h he hbb heq.symm)
 ·rcases hcase _ _ _ h1' with ⟨rfl,rfl,rfl⟩ | ⟨h1,n1⟩<;>rcases hcase _ _ _ h2' with ⟨rfl,rfl,rfl⟩ | ⟨h2,n2⟩<;>clear h1' h2'
  ·exact⟨rfl,rfl⟩
  ·rw[hnew] at hb1
   rw[hold _ _ (S.ent _ _ _ h2).1] at hb2
   rcases hfresh b hb1 with h' | h'
   ·exact absurd (S.inj _ _ _ _ _ _ b h2 he hb2 h') n2
   ·exact absurd hb2 (blkOf_ne_fresh S h2 h')
  ·rw[hnew] at hb2
   rw[hold _ _ (S.ent _ _ _ h1).1] at hb1
   rcases hfresh b hb2 with h' | h'
   ·exact absurd (S.inj _ _ _ _ _ _ b h1 he hb1 h') n1
   ·exact absurd hb1 (blkOf_ne_fresh S h1 h')
  ·rw[hold _ _ (S.ent _ _ _ h1).1] at hb1
   rw[hold _ _ (S.ent _ _ _ h2).1] at hb2
   exact S.inj _ _ _ _ _ _ b h1 h2 hb1 hb2
end
end Go.Ab
end
section
namespace Go.Ab
open Classical
def LeafyV:List Bool→List Value→List Value→Prop
 | [],[],[]=>True
 | true :: l,.int k _ :: xs,.int k' _ :: ys=>k=k'∧LeafyV l xs ys
 | false :: l,.bool _ :: xs,.bool _ :: ys=>LeafyV l xs ys
 | _,_,_=>False
theorem leafy_vs:∀ (l:List Bool) (xs ys:List AV),Leafy l xs ys→∃ us vs,xs=us.map .v∧ys=vs.map .v∧LeafyV l us vs
 | [],[],[],_=>⟨[],[],rfl,rfl,trivial⟩
 | true :: l,.v (.int k a) :: xs,.v (.int k' b) :: ys,h=>by
   obtain⟨us,vs,rfl,rfl,h'⟩:=leafy_vs l xs ys h.2
   exact⟨.int k a :: us,.int k' b :: vs,rfl,rfl,h.1,h'⟩
 | false :: l,.v (.bool a) :: xs,.v (.bool b) :: ys,h=>by
   obtain⟨us,vs,rfl,rfl,h'⟩:=leafy_vs l xs ys h
   exact⟨.bool a :: us,.bool b :: vs,rfl,rfl,h'⟩
theorem leafyV_len:∀ (l:List Bool) (us vs:List Value),LeafyV l us vs→us.length=l.length∧vs.length=l.length
 | [],[],[],_=>⟨rfl,rfl⟩
 | true :: l,.int k a :: xs,.int k' b :: ys,h=>by have:=leafyV_len l xs ys h.2;simp[this.1,this.2]
 | false :: l,.bool a :: xs,.bool b :: ys,h=>by have:=leafyV_len l xs ys h;simp[this.1,this.2]
theorem leafyV_app (l m:List Bool):∀ (us vs:List Value),LeafyV (l ++ m) us vs→LeafyV l (us.take l.length) (vs.take l.length)∧LeafyV m (us.drop l.length) (vs.drop l.length):=by
 induction l with
 | nil=>intro us vs h;simpa [LeafyV] using h
 | cons b l ih =>
   intro us vs h
   cases b<;>cases us with
   | nil=>simp[LeafyV] at h
   | cons u us=>cases vs with
     | nil=>cases u<;>simp[LeafyV] at h
     | cons v vs=>cases u<;>cases v<;>simp[LeafyV] at h<;>(have:=ih us vs (by first | exact h | exact h.2);simp[LeafyV,this.1,this.2])<;>(try exact h.1)
def mk (agg:Bool) (us:List Value):Value:=if agg=true then .agg us.toArray else us.headD undef
section
variable {P:Program} (w:World)
theorem run_isAgg {t:Nat} {d:TypeDesc} (h:P.underlying t=some d):(isAgg t).run P w=.ok (isAggT P t) w:=by
 simp only[isAgg,underlying,Sem.run_bind,run_program,Result.andThen_ok,h,Sem.run_pure,isAggT]
 cases d<;>rfl
theorem run_sizeOf {t:Nat} {i:TypeInfo} (h:P.info? t=some i):(sizeOf t).run P w=.ok i.size w:=by
 simp[sizeOf,typeInfo,h]
theorem run_zeroValue {t:Nat} {i:TypeInfo} {z:Value} (h:P.info? t=some i) (hz:i.zero=some z):(zeroValue t).run P w=.ok z w:=by
 simp[zeroValue,typeInfo,h,hz]
theorem cellsOf_info {t:Nat} {i:TypeInfo} (h:P.info? t=some i):P.cellsOf t=i.size:=by simp[Program.cellsOf,h]
theorem run_part {t:Nat} {d:TypeDesc} {i:TypeInfo} (h:P.underlying t=some d) (hi:P.info? t=some i) (us:List Value) (off:Nat) (h1:isAggT P t=false→i.size=1) (hl:off+i.size≤us.length) :
 (part t us.toArray off).run P w=.ok (mk (isAggT P t) ((us.drop off).take i.size)) w:=by
 unfold part
 simp only[Sem.run_bind,run_isAgg w h,Result.andThen_ok]
 cases hb:isAggT P t with
 | true =>
   simp only[if_true,Sem.run_bind,run_sizeOf w hi,Result.andThen_ok,Sem.run_pure,mk]
   congr 2
   simp[List.take_drop]
 | false =>
   have:=h1 hb
   have hlt:off < us.length:=by omega
   simp[hlt,mk,this,List.take_one]
theorem eqLeaves_plain:∀ (d t:Nat) (m:List Bool),eqLeaves P d t=some m→isAggT P t=false→m.length=1
 | 0,_,_,h,_=>by simp[eqLeaves] at h
 | d+1,t,m,h,hp=>by
   unfold eqLeaves at h
   unfold isAggT at hp
   cases hu:P.underlying t with
   | none=>simp[hu] at h
   | some k=>cases k<;>simp[hu] at h hp<;>(subst h;rfl)
theorem underlying_info {t:Nat} {k:TypeDesc} (h:P.underlying t=some k):∃ i,P.info? t=some i:=info_of_underlying h
theorem eqLeaves_underlying:∀ (d t:Nat) (m:List Bool),eqLeaves P d t=some m→∃ k,P.underlying t=some k
 | 0,_,_,h=>by simp[eqLeaves] at h
 | d+1,t,m,h=>by
   unfold eqLeaves at h
   cases hu:P.underlying t with
   | none=>simp[hu] at h
   | some k=>exact⟨k,rfl⟩
def EqSound (P:Program) (dd d:Nat):Prop :=
 ∀ (w:World) (t:Nat) (m:List Bool),eqLeaves P d t=some m→∀ us vs,LeafyV m us vs →
   (Op.equalIn dd t (mk (isAggT P t) us) (mk (isAggT P t) vs)).run P w=.ok (decide (us=vs)) w
theorem eq_part {dd d:Nat} (IH:EqSound P dd d) {t:Nat} {m:List Bool} (hm:eqLeaves P d t=some m) (hc:P.cellsOf t=m.length) {us vs:List Value} {off:Nat}
 (hl:LeafyV m ((us.drop off).take m.length) ((vs.drop off).take m.length)) :
 ∃ a b,(part t us.toArray off).run P w=.ok a w∧(part t vs.toArray off).run P w=.ok b w∧(Op.equalIn dd t a b).run P w=.ok (decide ((us.drop off).take m.length=(vs.drop off).take m.length)) w:=by
 obtain⟨k,hk⟩:=eqLeaves_underlying d t m hm
 obtain⟨i,hi⟩:=underlying_info hk
 have hs:i.size=m.length:=by rw[← hc,cellsOf_info hi]
 have h1:isAggT P t=false→i.size=1:=fun h=>by rw[hs];exact eqLeaves_plain d t m hm h
 have lens:=leafyV_len _ _ _ hl
 simp only[List.length_take,List.length_drop] at lens
 by_cases hz:m.length=0
 ·have hagg:isAggT P t=true:=by
   cases h:isAggT P t with
   | true=>rfl
   | false=>have:=h1 h;omega
  refine⟨.agg #[],.agg #[], ?_, ?_, ?_⟩
  ·simp[part,run_isAgg w hk,hagg,run_sizeOf w hi,hs,hz]
  ·simp[part,run_isAgg w hk,hagg,run_sizeOf w hi,hs,hz]
  ·have:=IH w t m hm _ _ hl
   rw[hagg] at this
   simpa [mk,hz] using this
 ·have e1:=run_part w hk hi us off h1 (by omega)
  have e2:=run_part w hk hi vs off h1 (by omega)
  refine⟨_,_,e1,e2, ?_⟩
  have:=IH w t m hm _ _ hl
  rw[hs]
  exact this
theorem drop_split (us:List Value) (off n:Nat):us.drop off=(us.drop off).take n ++ us.drop (off+n):=by
 rw[← List.drop_drop,List.take_append_drop]
theorem eqFields_sound {dd d:Nat} (IH:EqSound P dd d) (us vs:List Value):∀ (fs:List Field) (off:Nat) (l:List Bool),leavesL P (eqLeaves P d) fs off=some l →
 LeafyV l (us.drop off) (vs.drop off)→(Op.eqFields dd us.toArray vs.toArray fs).run P w=.ok (decide (us.drop off=vs.drop off)) w
 | [],off,l,hl,hv=>by
   simp[leavesL] at hl
   subst hl
   have:=leafyV_len _ _ _ hv
   rw[List.length_eq_zero_iff.1 this.1,List.length_eq_zero_iff.1 this.2]
   simp[Op.eqFields]
 | f :: fs,off,l,hl,hv=>by
   unfold leavesL at hl
   cases hm:eqLeaves P d f.type with
   | none=>simp[hm] at hl
   | some m =>
     simp only[hm] at hl
     split at hl
     ·rename_i hc
      obtain⟨c1,c2,c3,c4⟩:=hc
      cases hr:leavesL P (eqLeaves P d) fs (off+m.length) with
      | none=>simp[hr] at hl
      | some l' =>
        simp[hr] at hl
        subst hl
        obtain⟨v1,v2⟩:=leafyV_app m l' _ _ hv
        rw[List.drop_drop,List.drop_drop] at v2
        obtain⟨a,b,p1,p2,p3⟩:=eq_part w IH hm c3 v1
        have ih:=eqFields_sound IH us vs fs (off+m.length) l' hr v2
        subst c2
        simp only[Op.eqFields,c1,ne_eq,not_false_eq_true,if_true,Sem.run_bind,p1,p2,p3,Result.andThen_ok]
        have iff:(us.drop f.offset=vs.drop f.offset)↔((us.drop f.offset).take m.length=(vs.drop f.offset).take m.length∧us.drop (f.offset+m.length)=vs.drop (f.offset+m.length)):=by
         constructor
         ·intro h
          refine⟨by rw[h], ?_⟩
          rw[← List.drop_drop,← List.drop_drop,h]
         ·rintro⟨h,k⟩
          rw[drop_split us f.offset m.length,drop_split vs f.offset m.length,h,k]
        by_cases h:(us.drop f.offset).take m.length=(vs.drop f.offset).take m.length
        ·simp[h,ih,iff]
        ·simp[h,iff]
     ·cases hl
theorem eqItems_sound {dd d:Nat} (IH:EqSound P dd d) {e:Nat} {m:List Bool} (hm:eqLeaves P d e=some m) (hc:P.cellsOf e=m.length) (us vs:List Value):∀ (n k:Nat),
 LeafyV ((List.range n).flatMap fun _=>m) (us.drop (k * m.length)) (vs.drop (k * m.length)) →
 (Op.eqItems dd e m.length us.toArray vs.toArray ((List.range n).map (k + ·))).run P w=.ok (decide (us.drop (k * m.length)=vs.drop (k * m.length))) w
 | 0,k,hv=>by
   have:=leafyV_len _ _ _ hv
   simp only[List.range_zero,List.flatMap_nil,List.length_nil] at this
   rw[List.length_eq_zero_iff.1 this.1,List.length_eq_zero_iff.1 this.2]
   simp[Op.eqItems]
 | n+1,k,hv=>by
   rw[List.range_succ_eq_map] at hv ⊢
   simp only[List.flatMap_cons,List.flatMap_map] at hv
   obtain⟨v1,v2⟩:=leafyV_app m _ _ _ hv
   rw[List.drop_drop,List.drop_drop,show k * m.length+m.length=(k+1) * m.length by rw[Nat.add_mul];omega] at v2
   obtain⟨a,b,p1,p2,p3⟩:=eq_part w IH hm hc v1
   have ih:=eqItems_sound IH hm hc us vs n (k+1) v2
   simp only[List.map_cons,Nat.add_zero,List.map_map,Op.eqItems,Sem.run_bind,p1,p2,p3,Result.andThen_ok]
   have hmap:(List.range n).map ((k + ·) ∘ Nat.succ)=(List.range n).map (k+1 + ·):=by
    apply List.map_congr_left
    intro x _
    simp only[Function.comp]
    omega
   rw[hmap]
   have iff:(us.drop (k * m.length)=vs.drop (k * m.length))↔((us.drop (k * m.length)).take m.length=(vs.drop (k * m.length)).take m.length∧us.drop ((k+1) * m.length)=vs.drop ((k+1) * m.length)):=by
    rw[show (k+1) * m.length=k * m.length+m.length by rw[Nat.add_mul];omega]
    constructor
    ·intro h
     refine⟨by rw[h], ?_⟩
     rw[← List.drop_drop,← List.drop_drop,h]
    ·rintro⟨h,k'⟩
     rw[drop_split us _ m.length,drop_split vs _ m.length,h,k']
   by_cases h:(us.drop (k * m.length)).take m.length=(vs.drop (k * m.length)).take m.length
   ·simp[h,ih,iff]
   ·simp[h,iff]
theorem equalIn_sound:∀ (d dd:Nat),d≤dd→EqSound P dd d
 | 0,_,_=>fun w t m hm=>by simp[eqLeaves] at hm
 | d+1,0,h=>absurd h (by omega)
 | d+1,dd+1,h=>by
   intro w t m hm us vs hv
   have IH:=equalIn_sound d dd (by omega)
   unfold eqLeaves at hm
   cases hu:P.underlying t with
   | none=>simp[hu] at hm
   | some k =>
     cases k<;>simp only[hu] at hm<;>(try (cases hm;done))
     case bool =>
      cases hm
      have hagg:isAggT P t=false:=by simp[isAggT,hu]
      cases us with
      | nil=>simp[LeafyV] at hv
      | cons u us=>cases vs with
        | nil=>cases u<;>simp[LeafyV] at hv
        | cons v vs =>
          cases u<;>cases v<;>simp[LeafyV] at hv
          cases us<;>cases vs<;>simp[LeafyV] at hv
          rename_i a b
          simp[hagg,mk,run_equalIn_bool' w dd t a b hu]
          rw[Bool.eq_iff_iff];simp
     case int q =>
      cases hm
      have hagg:isAggT P t=false:=by simp[isAggT,hu]
      cases us with
      | nil=>simp[LeafyV] at hv
      | cons u us=>cases vs with
        | nil=>cases u<;>simp[LeafyV] at hv
        | cons v vs =>
          cases u<;>cases v<;>simp[LeafyV] at hv
          cases us<;>cases vs<;>simp[LeafyV] at hv
          rename_i k1 a k2 b
          subst hv
          simp[hagg,mk,run_equalIn_int w dd t k1 q a b hu]
          rw[Bool.eq_iff_iff];simp
     case struct fs =>
      have hagg:isAggT P t=true:=by simp[isAggT,hu]
      split at hm
      ·cases hm
      ·rename_i hst
       have hfs:P.fieldsOf t=fs:=by simp[Program.fieldsOf,hu]
       rw[hagg]
       simp only[mk,if_true]
       rw[run_equalIn_struct w dd t _ _ (by rw[hfs];exact hu) (by simpa using hst),hfs]
       have:=eqFields_sound w IH us vs fs.toList 0 m hm (by simpa using hv)
       simpa using this
     case array n e =>
      have hagg:isAggT P t=true:=by simp[isAggT,hu]
      cases hm':eqLeaves P d e with
      | none=>simp[hm'] at hm
      | some l =>
        simp only[hm'] at hm
        split at hm
        ·rename_i hc
         cases hm
         obtain⟨i,hi⟩:=Option.isSome_iff_exists.1 hc.2
         rw[hagg]
         simp only[mk,if_true]
         rw[run_equalIn_array w dd _ _ hu hi]
         have:=eqItems_sound w IH hm' hc.1 us vs n 0 (by simpa using hv)
         rw[hc.1]
         simpa using this
        ·cases hm
end
end Go.Ab
end
section
namespace Go.Ab
open Classical
section
variable {P:Program} {h0:Nat→Obj→Prop} {w0:World} {F:Frm} {nt:Nat} {ρ:Nat→Nat→Value} {st:St} {a:Act} {w:World}
theorem Sim.ev (S:Sim F h0 w0 nt ρ st a w) (x:Operand):RelV (ctx h0 w0 ρ st w) (st.ev x) (a.eval x):=by
 cases x with
 | tmp t=>exact S.env t
 | const v=>exact .v v
 | global g=>exact .v _
 | func f=>exact .v _
theorem relV_v {C:Ctx} {x y:Value} (h:RelV C (.v x) y):y=x:=by cases h;rfl
theorem map_v_inj (us vs:List Value):us.map AV.v=vs.map AV.v↔us=vs:=by
 constructor
 ·intro h
  induction us generalizing vs with
  | nil=>cases vs with
    | nil=>rfl
    | cons v vs=>simp at h
  | cons u us ih=>cases vs with
    | nil=>simp at h
    | cons v vs =>
      simp at h
      rw[h.1,ih vs h.2]
 ·intro h;rw[h]
theorem relV_agg_vs {C:Ctx} {us:List Value} {y:Value} (h:RelV C (.agg (us.map .v)) y):y=.agg us.toArray:=by
 cases h with
 | agg cs a hl hr h1 =>
   congr 1
   apply Array.ext'
   simp only
   apply List.ext_getElem?
   intro i
   by_cases hi:i < us.length
   ·have ha:i < a.size:=by simpa [← hl] using hi
    have:=hr i (.v us[i]) a[i] (by simp[hi]) (by simp[ha])
    have:=relV_v this
    simp[hi,ha,this]
   ·have ha:¬ i < a.size:=by simpa [← hl] using hi
    simp[hi,ha]
theorem run_ok_bind {α β:Type} {x:Sem α} {f:α→Sem β} {v:α} {w w':World} (h:x.run P w=.ok v w'):(x >>= f).run P w=(f v).run P w':=by
 rw[Sem.run_bind,h];rfl
theorem eqAgg_sound (op:BinOp) (hop:op=.eql∨op=.neq) {T:Nat} {xs ys:List AV} {b:Bool} {C:Ctx} {u v:Value} (X Y:Operand) (h:eqAgg P T xs ys=some b)
 (hu:RelV C (.agg xs) u) (hv:RelV C (.agg ys) v) :
 (do eqGuard op T X Y u v;binOp op T u v:Sem Value).run P w=.ok (.bool (if op=.eql then b else !b)) w:=by
 unfold eqAgg at h
 cases hl:eqLeaves P 20 T with
 | none=>simp[hl] at h
 | some l =>
   simp only[hl] at h
   split at h
   ·rename_i hc
    obtain⟨hagg,hg,hf⟩:=hc
    simp only[Option.some.injEq] at h
    obtain⟨us,vs,rfl,rfl,hv'⟩:=leafy_vs _ _ _ hf
    have eu:=relV_agg_vs hu
    have ev:=relV_agg_vs hv
    subst eu;subst ev
    obtain⟨k,hk⟩:=eqLeaves_underlying 20 T l hl
    have he:=equalIn_sound (P:=P) 20 10000 (by omega) w T l hl us vs hv'
    rw[hagg] at he
    simp only[mk,if_true] at he
    have hgd:=run_eqGuard_agg (P:=P) w op T X Y us.toArray vs.toArray hg
    rw[run_ok_bind hgd]
    have hd:decide (us=vs)=b:=by
     rw[← h,Bool.eq_iff_iff]
     simp[map_v_inj]
    rcases hop with rfl | rfl
    ·rw[run_eql_struct,he]
     simp[hd]
    ·rw[run_neq_struct,he]
     simp[hd]
   ·cases h
theorem nilCmp_sound {op:BinOp} {T:Nat} {b:Bool} {z:AV} {C:Ctx} {p:Option Addr} {n cap:Nat} (X Y:Operand) (h:nilCmp P op T b=some z) (hb:p.isNone=b:=by rfl) :
 ∃ r,(do eqGuard op T X Y (.slice p n cap) (.slice none 0 0);binOp op T (.slice p n cap) (.slice none 0 0):Sem Value).run P w=.ok r w∧RelV C z r:=by
 unfold nilCmp at h
 split at h
 ·rename_i e hT
  have hgd:(eqGuard op T X Y (.slice p n cap) (.slice none 0 0)).run P w=.ok () w:=by
   cases op<;>simp[eqGuard]
  rw[run_ok_bind hgd]
  have he:=run_equal_slice_nil (P:=P) w T e p n cap hT
  rw[hb] at he
  cases op<;>simp only at h<;>(try (cases h;done))<;>simp only[Option.some.injEq] at h<;>subst h<;>refine⟨_, ?_,.v _⟩<;>simp[binOp,he]
 ·cases h
theorem binA_sound {op:BinOp} {T:Nat} {x y z:AV} {C:Ctx} {u v:Value} (X Y:Operand) (h:binA P op T x y=some z) (hu:RelV C x u) (hv:RelV C y v) :
 ∃ r,(do eqGuard op T X Y u v;binOp op T u v:Sem Value).run P w=.ok r w∧RelV C z r:=by
 unfold binA at h
 split at h
 ·rename_i k a k' b
  have eu:=relV_v hu
  have ev:=relV_v hv
  subst eu;subst ev
  have hgd:(eqGuard op T X Y (.int k a) (.int k' b)).run P w=.ok () w:=by
   cases op<;>simp[eqGuard]
  rw[run_ok_bind hgd]
  cases op<;>simp only at h<;>split at h<;>(try (cases h;done))<;>simp only[Option.some.injEq] at h<;>subst h<;>refine⟨_, ?_,.v _⟩ <;>
   (try (rename_i hk;first | subst hk | (obtain⟨hk,hb⟩:=hk;subst hk)))<;>simp[binOp,Op.intArith,Op.intDiv,Op.intBits,Op.intCmp,Op.shift, *]
 ·rename_i a b
  have eu:=relV_v hu
  have ev:=relV_v hv
  subst eu;subst ev
  have hgd:(eqGuard op T X Y (.bool a) (.bool b)).run P w=.ok () w:=by
   cases op<;>simp[eqGuard]
  rw[run_ok_bind hgd]
  split at h
  ·rename_i hT
   cases op<;>simp only at h<;>(try (cases h;done))<;>simp only[Option.some.injEq] at h<;>subst h<;>refine⟨_, ?_,.v _⟩<;>simp[binOp,run_equal_bool w T a b hT]
  ·cases h
 ·rename_i xs ys
  cases op<;>simp only at h<;>(try (cases h;done))<;>cases he:eqAgg P T xs ys with
  | none=>simp[he] at h
  | some b =>
    simp only[he,Option.map_some,Option.some.injEq] at h
    subst h
    first
     | exact⟨_,eqAgg_sound (w:=w) .eql (.inl rfl) X Y he hu hv,.v _⟩
     | exact⟨_,eqAgg_sound (w:=w) .neq (.inr rfl) X Y he hu hv,.v _⟩
 ·rename_i n c cs
  have ev:=relV_v hv
  subst ev
  cases hu with
  | sl _ _ b off cap arr T' fr hcap hb hle hh h1=>exact nilCmp_sound X Y h
 ·have eu:=relV_v hu
  have ev:=relV_v hv
  subst eu;subst ev
  exact nilCmp_sound (p:=none) X Y h
 ·cases h
theorem unA_sound {op:UnOp} {x z:AV} {C:Ctx} {u:Value} (h:unA op x=some z) (hu:RelV C x u):∃ r,(Op.unary op u).run P w=.ok r w∧RelV C z r:=by
 unfold unA at h
 split at h<;>(try (cases h;done))<;>simp only[Option.some.injEq] at h<;>subst h<;>(have eu:=relV_v hu;subst eu;refine⟨_, ?_,.v _⟩)<;>simp[Op.unary,Op.intArith,Op.intBits]
theorem run_underlying' {t:Nat} {d:TypeDesc} (h:P.underlying t=some d):(underlying t).run P w=.ok d w:=by simp[underlying,h]
theorem addr_add (b off k:Nat):(⟨b,off,none⟩:Addr).add k=⟨b,off+k,none⟩:=by
 unfold Addr.add
 split
 ·rename_i h;subst h;rfl
 ·rfl
theorem addOff_sound {x z:AV} {k:Nat} {C:Ctx} {u:Value} (h:addOff x k=some z) (hu:RelV C x u):∃ b off,u=.pointer (some ⟨b,off,none⟩)∧RelV C z (.pointer (some ⟨b,off+k,none⟩)):=by
 cases x<;>simp[addOff] at h
 ·rename_i cs o
  obtain⟨hk,rfl⟩:=h
  cases hu with
  | ip _ _ b off arr T fr hb hle hr h1=>exact⟨b,off+o,rfl,by rw[Nat.add_assoc];exact .ip cs (o+k) b off arr T fr hb hle hr h1⟩
 ·subst h
  cases hu with
  | ptr s g off b hg hb=>exact⟨b,_,rfl,.ptr _ _ _ b hg hb⟩
theorem fieldAddr_sound {x z:AV} {T f k:Nat} {C:Ctx} {u:Value} (hf:fieldOff P T f=some k) (h:addOff x k=some z) (hu:RelV C x u) :
 ∃ r,(Instr.fieldAt T u f).run P w=.ok r w∧RelV C z r:=by
 obtain⟨b,off,rfl,hz⟩:=addOff_sound h hu
 unfold fieldOff at hf
 split at hf
 ·rename_i fs hT
  split at hf
  ·rename_i fd hfd
   split at hf
   ·cases hf
   ·rename_i hne
    simp only[Option.some.injEq] at hf
    subst hf
    have hi:∃ i,P.info? fd.type=some i:=by
     cases h:P.info? fd.type with
     | some i=>exact⟨i,rfl⟩
     | none=>simp[Program.cellsOf,h] at hne
    obtain⟨i,hi⟩:=hi
    rw[cellsOf_info hi] at hne
    refine⟨_, ?_,hz⟩
    simp[Instr.fieldAt,run_underlying' hT,hfd,Instr.sureAddr,fieldPlace,run_sizeOf w hi,hne,addr_add]
  ·cases hf
 ·cases hf
theorem arrInfo_spec {T n sz:Nat} (h:arrInfo P T=some (n,sz)):∃ e i,P.underlying T=some (.array n e)∧P.info? e=some i∧i.size=sz∧sz≠0:=by
 unfold arrInfo at h
 split at h
 ·rename_i n' e hT
  split at h
  ·cases h
  ·rename_i hne
   simp only[Option.some.injEq,Prod.mk.injEq] at h
   obtain⟨rfl,rfl⟩:=h
   cases hi:P.info? e with
   | none=>simp[Program.cellsOf,hi] at hne
   | some i=>exact⟨e,i,hT,hi,(cellsOf_info hi).symm,hne⟩
 ·cases h
theorem slInfo_spec {T e sz by_:Nat} (h:slInfo P T=some (e,sz,by_)):∃ i z,P.underlying T=some (.slice e)∧P.info? e=some i∧i.zero=some z∧i.size=sz∧z.cells.size=sz∧i.bytes=by_∧0 < sz:=by
 unfold slInfo at h
 split at h
 ·rename_i e' hT
  split at h
  ·rename_i i hi
   split at h
   ·rename_i z hz
    split at h
    ·cases h
    ·rename_i hne
     simp only[Option.some.injEq,Prod.mk.injEq] at h
     obtain⟨rfl,rfl,rfl⟩:=h
     simp only[not_or,ne_eq,Decidable.not_not] at hne
     exact⟨i,z,hT,hi,hz,rfl,hne.2,rfl,by omega⟩
   ·cases h
  ·cases h
 ·cases h
theorem readAt_sound (S:Sim F h0 w0 nt ρ st a w) {x:AV} {cs:List AV} {u:Value} (h:readAt st x=some cs) (hu:RelV (ctx h0 w0 ρ st w) x u) :
 ∃ b off arr T fr,u=.pointer (some ⟨b,off,none⟩)∧w.heap[b]? = some (.cells arr T fr)∧CellL (ctx h0 w0 ρ st w) cs ((arr.toList.drop off).take cs.length):=by
 cases x<;>simp[readAt] at h
 ·subst h
  cases hu with
  | ip cs' o' b off arr T fr hb hle hr h1 =>
    refine⟨b,_,arr,T,fr,rfl,hb.1,⟨by simp;omega,fun i x y hx hy=>?_,fun i y hy=>?_⟩⟩
    ·have hi:=(List.getElem?_eq_some_iff.1 hx).1
     rw[List.getElem?_take,if_pos hi,List.getElem?_drop] at hy
     rw[List.getElem?_drop] at hx
     exact hr _ x y hx (by rw[← Nat.add_assoc];simpa using hy)
    ·rw[List.getElem?_take] at hy
     split at hy
     ·rename_i hi;rw[List.getElem?_drop] at hy
      simp only[List.length_drop] at hi
      have hy':=hy
      simp only[Array.getElem?_toList,Nat.add_assoc] at hy'
      exact h1 _ y (by omega) hy'
     ·cases hy
 ·rename_i s g o
  cases hu with
  | ptr s g off b hg hb =>
    cases he:st.heap s g with
    | none=>simp[he] at h
    | some e =>
      obtain⟨_,_,her⟩:=S.ent s g e he
      cases e with
      | cells es =>
        simp[he] at h;subst h
        obtain⟨b',arr,T,hρ,_,hh,hc⟩:=her
        have hbb:b'=b:=by
         have h2:blkOf (ρ s g)=some b:=hb
         rw[hρ] at h2;simpa [blkOf] using h2
        subst hbb
        refine⟨b',o,arr,T,(0,0),rfl,hh, ?_⟩
        have:=hc.drop o
        rwa [List.take_of_length_le (by rw[this.len];exact Nat.le_refl _)]
      | row e sz n es =>
        simp[he] at h;subst h
        obtain⟨xs,ho,hc⟩:=her
        rcases ho.2 with ⟨p,hρ,_⟩ | ⟨b',cap,cur,hρ,_,hh,_,_,_,ht,hc0⟩
        ·have h2:blkOf (ρ s g)=some b:=hb
         rw[hρ,blkOf_sl0] at h2;cases h2
        ·have hbb:b'=b:=by
          have h2:blkOf (ρ s g)=some b:=hb
          rw[hρ,blkOf_sl hc0] at h2;simpa using h2
         subst hbb
         refine⟨b',o,cur,e,(0,0),rfl,hh, ?_⟩
         have:=hc.drop o
         have hl:=this.len
         rw[← ht] at this
         rw[List.drop_take] at this
         have e1:(es.drop o).length=n * sz - o:=by rw[hl,List.length_drop,ho.1]
         rw[e1]
         exact this
      | map es=>simp[he] at h
theorem run_loadVar (w:World) {b off:Nat} {arr:Array Value} {B:Nat} {fr:Nat × Nat} {T:Nat} {i:TypeInfo} {d:TypeDesc} (hb:w.heap[b]? = some (.cells arr B fr)) (hi:P.info? T=some i) (hu:P.underlying T=some d)
 (hl:off+(if isAggT P T=true then i.size else 1)≤arr.size) :
 (loadVar T ⟨b,off,none⟩).run P w=.ok (if isAggT P T=true then .agg ((arr.toList.drop off).take i.size).toArray else arr.toList.getD off undef) w:=by
 unfold loadVar
 rw[run_ok_bind (run_isAgg w hu)]
 have hcell:∀ j,w.cell? ((⟨b,off,none⟩:Addr).add j)=arr[off+j]?:=fun j=>by rw[addr_add];exact cell_of_row w b (off+j) arr B fr hb
 cases hagg:isAggT P T with
 | true =>
   simp only[hagg,if_true] at hl
   simp only[if_true]
   rw[run_ok_bind (run_sizeOf w hi)]
   have:=run_loadCells_list (P:=P) w ⟨b,off,none⟩ ((arr.toList.drop off).take i.size) (fun j v hv=>by
    rw[hcell]
    rw[List.getElem?_take] at hv
    by_cases hj:j < i.size
    ·rw[if_pos hj,List.getElem?_drop] at hv
     simpa using hv
    ·rw[if_neg hj] at hv;cases hv)
   have hlen:((arr.toList.drop off).take i.size).length=i.size:=by simp;omega
   rw[hlen] at this
   rw[run_ok_bind this]
   simp
 | false =>
   simp only[hagg,Bool.false_eq_true,if_false] at hl ⊢
   have h0:=hcell 0
   simp only[Addr.add,if_true,Nat.add_zero] at h0
   have hlt:off < arr.size:=by omega
   simp[h0,hlt]
theorem ldInfo_spec {T:Nat} {bb:Bool} {k:Nat} (h:ldInfo P T=some (bb,k)):∃ i d,P.info? T=some i∧P.underlying T=some d∧isAggT P T=bb∧i.size=k:=by
 unfold ldInfo at h
 cases hi:P.info? T with
 | none=>simp[hi] at h
 | some i =>
   simp only[hi] at h
   cases hu:P.underlying T with
   | none=>simp[hu] at h
   | some d =>
     simp only[hu] at h
     refine⟨i,d,rfl,rfl, ?_, ?_⟩
     ·cases d<;>simp_all [isAggT]
     ·cases d<;>simp_all
theorem load_sound (S:Sim F h0 w0 nt ρ st a w) {T:Nat} {x z:AV} {cs:List AV} {u:Value} (hr:readAt st x=some cs) (h:loadVal P T cs=some z) (hu:RelV (ctx h0 w0 ρ st w) x u) :
 ∃ r,(Instr.loadAt T u).run P w=.ok r w∧RelV (ctx h0 w0 ρ st w) z r:=by
 obtain⟨b,off,arr,B,fr,rfl,hb,hc⟩:=readAt_sound S hr hu
 unfold loadVal at h
 have hlen:=hc.len
 simp only[List.length_take,List.length_drop,Array.length_toList] at hlen
 split at h
 ·rename_i k hk
  obtain⟨i,d,hi,hd,hagg,rfl⟩:=ldInfo_spec hk
  split at h
  ·rename_i hle
   obtain⟨hk0,hle⟩:=hle
   simp only[Option.some.injEq] at h
   subst h
   refine⟨_,by
    simp only[Instr.loadAt,Instr.sureAddr]
    rw[run_ok_bind (Sem.run_pure P w _)]
    exact run_loadVar w hb hi hd (by rw[hagg];simp only[if_true];omega), ?_⟩
   rw[hagg]
   simp only[if_true]
   have:=hc.take i.size
   rw[List.take_take,Nat.min_eq_left hle] at this
   exact .agg _ _ (by simpa using this.len) (fun j x y hx hy=>this.rel j x y hx (by simpa using hy)) (fun j y hy=>this.one j y (by simpa using hy))
  ·cases h
 ·rename_i k hk
  obtain⟨i,d,hi,hd,hagg,rfl⟩:=ldInfo_spec hk
  cases cs with
  | nil=>simp at h
  | cons c cs =>
    simp at h
    subst h
    have hlt:off < arr.size:=by simp at hlen;omega
    refine⟨_,by
     simp only[Instr.loadAt,Instr.sureAddr]
     rw[run_ok_bind (Sem.run_pure P w _)]
     exact run_loadVar w hb hi hd (by rw[hagg];simp;omega), ?_⟩
    rw[hagg]
    simp only[Bool.false_eq_true,if_false]
    refine hc.rel 0 c _ rfl ?_
    simp[hlt]
 ·cases h
theorem sliceView_sound (S:Sim F h0 w0 nt ρ st a w) {x:AV} {n:Nat} {cs:List AV} {u:Value} (h:sliceView st x=some (n,cs)) (hu:RelV (ctx h0 w0 ρ st w) x u) :
 ∃ p cap,u=.slice p n cap∧(cs≠[]→∃ b off arr T fr,p=some ⟨b,off,none⟩∧w.heap[b]? = some (.cells arr T fr)∧CellL (ctx h0 w0 ρ st w) cs ((arr.toList.drop off).take cs.length)):=by
 unfold sliceView at h
 split at h
 ·rename_i n' cs'
  simp only[Option.some.injEq,Prod.mk.injEq] at h
  obtain⟨rfl,rfl⟩:=h
  cases hu with
  | sl0 n cap p hcap=>exact⟨p,cap,rfl,fun h=>absurd rfl h⟩
  | sl n cs'' b off cap arr T fr hcap hb hle hr h1 =>
    refine⟨_,cap,rfl,fun _=>⟨b,off,arr,T,fr,rfl,hb.1,⟨by simp;omega,fun i x y hx hy=>?_,fun i y hy=>?_⟩⟩⟩
    ·have hi:=(List.getElem?_eq_some_iff.1 hx).1
     rw[List.getElem?_take,if_pos hi,List.getElem?_drop] at hy
     exact hr i x y hx (by simpa using hy)
    ·rw[List.getElem?_take] at hy
     split at hy
     ·rename_i hi;rw[List.getElem?_drop] at hy
      exact h1 i y hi (by simpa using hy)
     ·cases hy
 ·rename_i n' cs'
  simp only[Option.some.injEq,Prod.mk.injEq] at h
  obtain⟨rfl,rfl⟩:=h
  cases hu with
  | cl0 n p=>exact⟨p,_,rfl,fun h=>absurd rfl h⟩
  | cl n cs'' b off arr T fr hb hle hr h1 =>
    refine⟨_,_,rfl,fun _=>⟨b,off,arr,T,fr,rfl,hb.1,⟨by simp;omega,fun i x y hx hy=>?_,fun i y hy=>?_⟩⟩⟩
    ·have hi:=(List.getElem?_eq_some_iff.1 hx).1
     rw[List.getElem?_take,if_pos hi,List.getElem?_drop] at hy
     exact hr i x y hx (by simpa using hy)
    ·rw[List.getElem?_take] at hy
     split at hy
     ·rename_i hi;rw[List.getElem?_drop] at hy
      exact h1 i y hi (by simpa using hy)
     ·cases hy
 ·rename_i s g
  cases he:st.heap s g with
  | none=>simp[he] at h
  | some e =>
    cases e with
    | row e sz n' es =>
      simp[he] at h
      obtain⟨rfl,rfl⟩:=h
      obtain⟨_,_,xs,ho,hc⟩:=S.ent s g _ he
      cases hu with
      | own s g hg h1 =>
        show ∃ p cap,ρ s g=_∧_
        rcases ho.2 with ⟨p,hρ,hn⟩ | ⟨b',cap,cur,hρ,_,hh,_,_,_,ht,hc0⟩
        ·refine⟨p,0,by rw[hρ,hn],fun hne=>?_⟩
         have:xs.length=0:=by rw[ho.1,hn];simp
         have:=hc.len
         exact absurd (List.length_eq_zero_iff.1 (by omega)) hne
        ·refine⟨_,cap,hρ,fun _=>⟨b',0,cur,e,(0,0),rfl,hh, ?_⟩⟩
         rw[hc.len,ho.1,List.drop_zero,ht]
         exact hc
    | _=>simp[he] at h
 ·rename_i s g o n'
  cases he:st.heap s g with
  | none=>simp[he] at h
  | some e =>
    cases e with
    | row e sz N es =>
      simp only[he] at h
      split at h
      ·rename_i hle
       simp only[Option.some.injEq,Prod.mk.injEq] at h
       obtain⟨rfl,rfl⟩:=h
       obtain⟨_,_,xs,ho,hc⟩:=S.ent s g _ he
       cases hu with
       | vw _ _ _ _ b cap hg hb hcap =>
         refine⟨_,cap,rfl,fun hne=>?_⟩
         rcases ho.2 with ⟨p,hρ,hn⟩ | ⟨b',cap',cur,hρ,_,hh,_,_,_,ht,hc0⟩
         ·exfalso
          change blkOf (ρ s g)=some b at hb
          rw[hρ] at hb
          cases p<;>cases hb
         ·change blkOf (ρ s g)=some b at hb
          rw[hρ,blkOf_sl hc0] at hb
          simp only[Option.some.injEq] at hb
          subst hb
          refine⟨b',o,cur,e,(0,0),rfl,hh, ?_⟩
          have hxl:xs.length=es.length:=hc.len.symm
          have:((cur.toList.drop o).take ((es.drop o).take (n' * sz)).length)=(xs.drop o).take (n' * sz):=by
           have hl:((es.drop o).take (n' * sz)).length=n' * sz:=by simp;omega
           rw[hl,← ht,List.drop_take,List.take_take,Nat.min_eq_left (by rw[← ho.1];omega)]
          rw[this]
          exact (hc.drop o).take _
      ·cases h
    | cells es =>
      simp only[he] at h
      split at h
      ·rename_i hle
       simp only[Option.some.injEq,Prod.mk.injEq] at h
       obtain⟨rfl,rfl⟩:=h
       obtain⟨_,_,b',arr,T',hρ,_,hh,hc⟩:=S.ent s g _ he
       cases hu with
       | vw _ _ _ _ b cap hg hb hcap =>
         refine⟨_,cap,rfl,fun hne=>?_⟩
         change blkOf (ρ s g)=some b at hb
         rw[hρ] at hb
         simp only[blkOf,Option.some.injEq] at hb
         subst hb
         refine⟨b',o,arr,T',(0,0),rfl,hh, ?_⟩
         have hl:((es.drop o).take n').length=n':=by simp;omega
         rw[hl]
         exact (hc.drop o).take _
      ·cases h
    | _=>simp[he] at h
 ·simp only[Option.some.injEq,Prod.mk.injEq] at h
  obtain⟨rfl,rfl⟩:=h
  have:=relV_v hu
  subst this
  exact⟨none,0,rfl,fun h=>absurd rfl h⟩
 ·cases h
theorem indexAddr_sound (S:Sim F h0 w0 nt ρ st a w) {T:Nat} {x i z:AV} {u v:Value} (h:indexAddrA P st T x i=some z) (hu:RelV (ctx h0 w0 ρ st w) x u) (hv:RelV (ctx h0 w0 ρ st w) i v) :
 ∃ r,(Instr.indexAt T u v).run P w=.ok r w∧RelV (ctx h0 w0 ρ st w) z r:=by
 unfold indexAddrA at h
 split at h
 ·rename_i k j
  have:=relV_v hv
  subst this
  split at h
  ·rename_i n sz ha
   obtain⟨e,ei,hT,hi,rfl,hne⟩:=arrInfo_spec ha
   split at h
   ·rename_i hj
    obtain⟨b,off,rfl,hz⟩:=addOff_sound h hu
    refine⟨_, ?_,hz⟩
    simp[Instr.indexAt,asIntOf,run_underlying' hT,Instr.sureAddr,hj,run_sizeOf w hi,addr_add]
   ·cases h
  ·split at h
   ·rename_i e sz by_ hs
    obtain⟨ei,ez,hT,hi,hz0,rfl,hzs,rfl,hpos⟩:=slInfo_spec hs
    split at h
    ·rename_i n cs
     split at h
     ·rename_i hj
      simp only[Option.some.injEq] at h
      subst h
      obtain⟨j1,j2,j3⟩:=hj
      cases hu with
      | sl0 n cap p hcap=>simp at j3;omega
      | sl n cs b off cap arr T' fr hcap hb hle hr h1 =>
        refine⟨_, ?_,.ip ((cs.drop (j.toNat * ei.size)).take ei.size) 0 b (off+j.toNat * ei.size) arr T' fr hb (by simp;omega) (fun i x y hx hy=>?_) (fun i y hi' hy=>?_)⟩
        ·simp[Instr.indexAt,asIntOf,run_underlying' hT,j1,j2,run_sizeOf w hi,addr_add]
        ·rw[List.getElem?_take] at hx
         split at hx
         ·rw[List.getElem?_drop] at hx
          exact hr _ x y hx (by rw[← Nat.add_assoc];exact hy)
         ·cases hx
        ·simp only[List.length_take,List.length_drop] at hi'
         exact h1 (j.toNat * ei.size+i) y (by omega) (by rw[← Nat.add_assoc];exact hy)
     ·cases h
    ·rename_i s g
     cases he:st.heap s g with
     | none=>simp[he] at h
     | some e' =>
       cases e' with
       | row e2 sz2 n es =>
         simp only[he] at h
         split at h
         ·rename_i hj
          obtain⟨j1,j2,rfl,rfl⟩:=hj
          simp only[Option.some.injEq] at h
          subst h
          obtain⟨hlt,_,xs,ho,hc⟩:=S.ent s g _ he
          cases hu with
          | own s g hg h1 =>
            rcases ho.2 with ⟨p,hρ,hn⟩ | ⟨b',cap,cur,hρ,_,hh,_,_,_,ht,hc0⟩
            ·omega
            ·refine⟨.pointer (some ⟨b',j.toNat * ei.size,none⟩), ?_,.ptr s g _ b' hlt (by show blkOf (ρ s g)=_;rw[hρ,blkOf_sl hc0])⟩
             show (Instr.indexAt T (ρ s g) _).run P w=_
             rw[hρ]
             simp[Instr.indexAt,asIntOf,run_underlying' hT,j1,j2,run_sizeOf w hi,addr_add]
         ·cases h
       | _=>simp[he] at h
    ·rename_i s g o n
     split at h
     ·rename_i hj
      obtain⟨j1,j2⟩:=hj
      simp only[Option.some.injEq] at h
      subst h
      cases hu with
      | vw _ _ _ _ b cap hg hb hcap =>
        refine⟨.pointer (some ⟨b,o+j.toNat * ei.size,none⟩), ?_,.ptr s g _ b hg hb⟩
        simp[Instr.indexAt,asIntOf,run_underlying' hT,j1,j2,run_sizeOf w hi,addr_add]
     ·cases h
    ·cases h
   ·cases h
 ·cases h
end
end Go.Ab
end
section
namespace Go.Ab
open Classical
theorem foldl_set (off:Nat):∀ (vs:List Value) (k:Nat) (cs:Array Value),off+k+vs.length≤cs.size →
 ((vs.zipIdx k).foldl (fun cs (x:Value × Nat)=>cs.setIfInBounds (off+x.2) x.1) cs).toList=cs.toList.take (off+k) ++ vs ++ cs.toList.drop (off+k+vs.length)
 | [],k,cs,h=>by simp
 | v :: vs,k,cs,h=>by
   simp only[List.zipIdx_cons,List.foldl_cons]
   simp only[List.length_cons] at h
   rw[foldl_set off vs (k+1) (cs.setIfInBounds (off+k) v) (by simp;omega)]
   have hlt:off+k < cs.size:=by omega
   have hlt':off+k < cs.toList.length:=by simpa using hlt
   have e1:(cs.setIfInBounds (off+k) v).toList=cs.toList.set (off+k) v:=by simp
   rw[e1,show off+(k+1)=off+k+1 by omega]
   have e2:cs.toList.set (off+k) v=cs.toList.take (off+k) ++ v :: cs.toList.drop (off+k+1):=by
    rw[List.set_eq_take_append_cons_drop,if_pos hlt']
   have l1:(cs.toList.take (off+k)).length=off+k:=by simp;omega
   have e3:(cs.toList.set (off+k) v).take (off+k+1)=cs.toList.take (off+k) ++ [v]:=by
    rw[e2,List.take_append,l1,List.take_of_length_le (by rw[l1];omega),show off+k+1 - (off+k)=1 by omega]
    simp
   have e4:(cs.toList.set (off+k) v).drop (off+k+1+vs.length)=cs.toList.drop (off+k+(vs.length+1)):=by
    rw[e2,List.drop_append,l1,List.drop_of_length_le (by rw[l1];omega),show off+k+1+vs.length - (off+k)=vs.length+1 by omega]
    simp only[List.drop_succ_cons,List.nil_append,List.drop_drop]
    congr 1
    omega
   rw[e3,e4]
   simp
section
variable {P:Program} {h0:Nat→Obj→Prop} {w0:World} {F:Frm} {nt:Nat} {ρ:Nat→Nat→Value} {st:St} {a:Act} {w:World}
theorem fill_sound {C:Ctx} {place:Nat→Option (Nat × Nat)}:∀ (parts:List (Nat × AV)) (pv:List (Nat × Value)) (cells:List AV) (ys:Array Value) (out:List AV),
 parts.map (·.1)=pv.map (·.1)→RelL C (parts.map (·.2)) (pv.map (·.2))→(∀ p∈parts,p.2.stor=true)→CellL C cells ys.toList→fillA place cells parts=some out →
 ∃ zs,Instr.fill place ys pv=some zs∧CellL C out zs.toList
 | [],pv,cells,ys,out,h1,h2,h3,h4,h5=>by
   cases pv with
   | nil=>simp[fillA] at h5;subst h5;exact⟨ys,rfl,h4⟩
   | cons p pv=>simp at h1
 | (i,x) :: parts,[],cells,ys,out,h1,_,_,_,_=>by simp at h1
 | (i,x) :: parts,(i',v) :: pv,cells,ys,out,h1,h2,h3,h4,h5=>by
   simp only[List.map_cons,List.cons.injEq] at h1
   obtain⟨rfl,h1⟩:=h1
   simp only[List.map_cons] at h2
   have hx:=h2.head
   have hc:=hx.cells (h3 (i,x) (by simp))
   unfold fillA at h5
   unfold Instr.fill
   cases hp:place i with
   | none=>simp[hp] at h5
   | some os =>
     obtain⟨off,size⟩:=os
     simp only[hp] at h5 ⊢
     split at h5
     ·rename_i hcond
      obtain⟨c1,c2⟩:=hcond
      have hl:=hc.len
      have hl4:=h4.len
      simp only[Array.length_toList] at hl hl4
      have hne:¬ (v.cells.size≠size∨off+v.cells.size > ys.size):=by omega
      have hne':(decide (v.cells.size≠size) || decide (off+v.cells.size > ys.size))=false:=by simp;omega
      rw[if_neg (by simpa using hne)]
      refine fill_sound parts pv _ _ out h1 h2.tail (fun p hp'=>h3 p (by simp[hp'])) ?_ h5
      have e:=foldl_set off v.cells.toList 0 ys (by simp;omega)
      simp only[Nat.add_zero,Array.length_toList] at e
      have e2:(v.cells.zipIdx.foldl (fun cs (x:Value × Nat)=>cs.setIfInBounds (off+x.2) x.1) ys).toList=ys.toList.take off ++ v.cells.toList ++ ys.toList.drop (off+v.cells.size):=by
       rw[← e,← Array.foldl_toList,Array.toList_zipIdx]
      show CellL C _ (v.cells.zipIdx.foldl (fun cs (x:Value × Nat)=>cs.setIfInBounds (off+x.2) x.1) ys).toList
      rw[e2]
      have e3:off+size=off+v.cells.size:=by omega
      rw[e3]
      exact ((h4.take off).app hc).app (h4.drop _)
     ·cases h5
theorem zeroL_spec {T:Nat} {z:List Value} (h:zeroL P T=some z):∃ i zv,P.info? T=some i∧i.zero=some zv∧z=zv.cells.toList∧∀ y∈z,y.oneCell'=true:=by
 unfold zeroL at h
 split at h
 ·rename_i i hi
  cases hz:i.zero with
  | none=>simp[hz] at h
  | some zv =>
    simp only[hz] at h
    split at h
    ·rename_i h1
     simp only[Option.some.injEq] at h
     subst h
     exact⟨i,zv,hi,hz,rfl,List.all_eq_true.1 h1⟩
    ·cases h
 ·cases h
theorem build_sound (S:Sim F h0 w0 nt ρ st a w) {T:Nat} {parts:Array (Nat × Operand)} {z:AV} (h:buildA P st T parts.toList=some z) :
 ∃ r,(Instr.build T (parts.map fun (i,x)=>(i,a.eval x))).run P w=.ok r w∧RelV (ctx h0 w0 ρ st w) z r:=by
 unfold buildA at h
 cases hz:zeroL P T with
 | none=>simp[hz] at h
 | some zs =>
   cases hp:placeOf P T with
   | none=>simp[hz,hp] at h
   | some place =>
     simp only[hz,hp] at h
     split at h
     ·rename_i hst
      simp only[Option.map_eq_some_iff] at h
      obtain⟨out,hf,rfl⟩:=h
      obtain⟨i,zv,hi,hzz,rfl,hz1⟩:=zeroL_spec hz
      have hrel:RelL (ctx h0 w0 ρ st w) ((parts.toList.map fun p=>(p.1,st.ev p.2)).map (·.2)) ((parts.toList.map fun p=>(p.1,a.eval p.2)).map (·.2)):=by
       simp only[List.map_map]
       exact RelL.map _ _ _ fun p _=>S.ev p.2
      obtain⟨cells,hfill,hcell⟩:=fill_sound (place:=place) (parts.toList.map fun p=>(p.1,st.ev p.2)) (parts.toList.map fun p=>(p.1,a.eval p.2)) _ zv.cells out (by simp) hrel
       (fun p hp'=>by
        obtain⟨q,hq,rfl⟩:=List.mem_map.1 hp'
        exact List.all_eq_true.1 hst q hq) (CellL.vs _ _ hz1) hf
      have hbuilt:P.built T (parts.map fun (i,x)=>(i,a.eval x)).toList=some cells:=by
       unfold Program.built
       unfold placeOf at hp
       split at hp
       ·rename_i fs hu
        split at hp
        ·rename_i hall
         simp only[Option.some.injEq] at hp
         simp only[hi,hu,hzz]
         have hm:fs.toList.mapM (fun f=>(P.info? f.type).map fun i=>(f.offset,i.size))=some (fs.toList.map fun f=>(f.offset,P.cellsOf f.type)):=by
          have hall':∀ f∈fs.toList,(P.info? f.type).isSome=true:=fun f hf=>Array.all_eq_true_iff_forall_mem.1 hall f (Array.mem_toList_iff.1 hf)
          generalize fs.toList=l at hall'
          induction l with
          | nil=>rfl
          | cons f l ih =>
            obtain⟨j,hj⟩:=Option.isSome_iff_exists.1 (hall' f (by simp))
            rw[List.mapM_cons,ih fun g hg=>hall' g (by simp[hg])]
            simp[hj,cellsOf_info hj]
         rw[hm]
         simp only
         have:(fun x=>(fs.toList.map fun f=>(f.offset,P.cellsOf f.type)).toArray[x]?)=place:=by
          rw[← hp]
          funext j
          simp
         rw[this]
         simpa using hfill
        ·cases hp
       ·rename_i n e hu
        split at hp
        ·rename_i hsome
         obtain⟨ie,hie⟩:=Option.isSome_iff_exists.1 hsome
         simp only[Option.some.injEq] at hp
         simp only[hi,hu,hzz,hie]
         rw[← hp] at hfill
         simpa [cellsOf_info hie] using hfill
        ·cases hp
       ·cases hp
      refine⟨_,run_build w T _ cells hbuilt, ?_⟩
      exact .agg _ _ (by simpa using hcell.len) (fun j x y hx hy=>hcell.rel j x y hx (by simpa using hy)) (fun j y hy=>hcell.one j y (by simpa using hy))
     ·cases h
end
end Go.Ab
end
