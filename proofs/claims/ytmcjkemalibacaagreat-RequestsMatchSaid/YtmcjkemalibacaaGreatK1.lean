/-
  Part 1 of the proof: an evaluator of programs, its soundness, and what functions of this program compute.
-/
import Derived.WalkKit
import Derived.Laws.AppendOwn
import Derived.Laws.StructEq
import Derived.DeepKeys
import Derived.Laws.Cover3
import Derived.Laws.Tables
import Derived.Laws.OwnMore
import Derived.Great.BuildSlice
set_option linter.all false
set_option maxRecDepth 20000
set_option maxHeartbeats 40000000
section
namespace Go.Ab
open Classical
inductive AV where
 | v (x:Value)
 | agg (cs:List AV)
 | sl (n:Nat) (cs:List AV)
 | cl (n:Nat) (cs:List AV)
 | ip (cs:List AV) (o:Nat)
 | ptr (s g off:Nat)
 | own (s g:Nat)
 | mp (s g:Nat)
 | Ev (f:Nat) (oR:List AV)
 | eE (vs:List AV)
 | uniq (e sz n:Nat) (cs:List AV)
 | vw (s g o n:Nat)
class Ext where
 mv:Nat→Bool
 qB:Nat→Bool
 eat:Nat→Option Nat→Bool
 inl:Nat→Option Nat→Bool
 dyn:Nat→Nat→Option Nat→List (Nat × Nat)
 pa:Nat→Nat→Bool
 va:Nat→Nat→Bool
 ext:Nat→List AV→Option AV
inductive nD where
 | cells (cs:List AV)
 | row (e sz n:Nat) (cs:List AV)
 | map (es:List (AV × AV))
structure St where
 env:Nat→AV
 heap:Nat→Nat→Option nD
 aQ:Nat→Nat
def St.put (st:St) (d:Option Nat) (x:AV):St :=
 match d with
 | none=>st
 | some d=>{ st with env:=fun t=>if t=d then x else st.env t }
def St.jM (st:St) (s g:Nat) (e:Option nD):St :=
 { st with heap:=fun s' g'=>if s'=s∧g'=g then e else st.heap s' g' }
def St.news (st:St) (d:Nat) (es:List nD):St :=
 { st with heap:=fun s' g'=>if s'=d∧st.aQ d≤g'∧g' - st.aQ d<es.length then es[g' - st.aQ d]? else st.heap s' g',aQ:=fun s=>if s=d then st.aQ d+es.length else st.aQ s }
def St.new (st:St) (d:Nat) (e:nD):St :=
 { st with heap:=fun s' g'=>if s'=d∧g'=st.aQ d then some e else st.heap s' g',aQ:=fun s=>if s=d then st.aQ d+1 else st.aQ s }
def St.ev (st:St):Operand→AV
 | .tmp t=>st.env t
 | .const x=>.v x
 | .global g=>.v (.pointer (some ⟨g,0,none⟩))
 | .func f=>.v (.func (.func f) #[] #[])
structure qT where
 dst:Option Nat
 val:AV
 dJ:Option (Nat × Nat × Option nD):=none
 new:Option (Nat × List nD):=none
def qT.apply (e:qT) (st:St):St :=
 let s1:=match e.dJ with
  | some (s,g,x)=>st.jM s g x
  | none=>st
 let s2:=match e.new with
  | some (d,x)=>s1.news d x
  | none=>s1
 s2.put e.dst e.val
def AV.cells:AV→List AV
 | .agg cs=>cs
 | x=>[x]
inductive Flat:AV→Prop
 | v (x:Value):Flat (.v x)
 | agg (cs:List AV) (h:∀x∈cs,Flat x):Flat (.agg cs)
 | sl (n:Nat) (cs:List AV) (h:∀x∈cs,Flat x):Flat (.sl n cs)
 | cl (n:Nat) (cs:List AV) (h:∀x∈cs,Flat x):Flat (.cl n cs)
 | ip (cs:List AV) (o:Nat) (h:∀x∈cs,Flat x):Flat (.ip cs o)
 | Ev (f:Nat) (cs:List AV) (h:∀x∈cs,Flat x):Flat (.Ev f cs)
 | eE (cs:List AV) (h:∀x∈cs,Flat x):Flat (.eE cs)
inductive fM:AV→Prop
 | v (x:Value):fM (.v x)
 | agg (cs:List AV) (h:∀x∈cs,fM x):fM (.agg cs)
 | eE (cs:List AV) (h:∀x∈cs,fM x):fM (.eE cs)
def cD {α β:Type} (x:Option α) (f:α→Option β):Option β :=
 match x with
 | some a=>f a
 | none=>none
section tables
variable (P:Program)
def aV (T f:Nat):Option Nat :=
 match P.underlying T with
 | some (.struct fs) =>
   match fs[f]? with
   | some fd=>if P.cellsOf fd.type=0 then none else some fd.offset
   | none=>none
 | _=>none
def jF (T:Nat):Option (Nat × Nat) :=
 match P.underlying T with
 | some (.array n e)=>if P.cellsOf e=0 then none else some (n,P.cellsOf e)
 | _=>none
def dL (T:Nat):Option (Nat × Nat × Nat) :=
 match P.underlying T with
 | some (.slice e) =>
   match P.info? e with
   | some i =>
     match i.zero with
     | some z=>if i.size=0∨z.cells.size≠i.size then none else some (e,i.size,i.bytes)
     | none=>none
   | none=>none
 | _=>none
def fK (T:Nat):Option (Bool × Nat) :=
 match P.info? T with
 | none=>none
 | some i =>
   match P.underlying T with
   | some (.struct _)=>some (true,i.size)
   | some (.array _ _)=>some (true,i.size)
   | some _=>some (false,i.size)
   | none=>none
def dZ (T:Nat):Option (List Value) :=
 match P.info? T with
 | some i =>
   match i.zero with
   | some z=>if (z.cells.toList.all fun y=>y.oneCell')=true then some z.cells.toList else none
   | none=>none
 | none=>none
def intKind (T:Nat):Option IntKind :=
 match P.underlying T with
 | some (.int k)=>some k
 | _=>none
def cZ (t:Nat):Bool :=
 match P.underlying t with
 | some (.struct _)=>true
 | some (.array _ _)=>true
 | _=>false
def Hy (f:Nat→Option (List Bool)):List Field→Nat→Option (List Bool)
 | [],_=>some []
 | fd :: r,off =>
   match f fd.type with
   | some m =>
     if fd.name ≠ "_" ∧ fd.offset = off ∧ P.cellsOf fd.type = m.length ∧ (P.info? fd.type).isSome = true then (Hy f r (off + m.length)).map (m ++ ·) else none
   | none=>none
def eX:Nat→Nat→Option (List Bool)
 | 0,_=>none
 | d+1,t =>
   match P.underlying t with
   | some .bool=>some [false]
   | some (.int _)=>some [true]
   | some (.struct fs)=>if P.stoodInHeld t=true then none else Hy P (eX d) fs.toList 0
   | some (.array n e) =>
     match eX d e with
     | some m=>if P.cellsOf e=m.length∧(P.info? e).isSome=true then some ((List.range n).flatMap fun _=>m) else none
     | none=>none
   | _=>none
end tables
def gY:List Bool→List AV→List AV→Prop
 | [],[],[]=>True
 | true :: l,.v (.int k _) :: xs,.v (.int k' _) :: ys=>k=k'∧gY l xs ys
 | false :: l,.v (.bool _) :: xs,.v (.bool _) :: ys=>gY l xs ys
 | _,_,_=>False
section ops
variable (P:Program)
noncomputable def uH (T:Nat) (xs ys:List AV):Option Bool :=
 match eX P 20 T with
 | some l=>if cZ P T=true∧P.eqGuardType P.depth T=false∧gY l xs ys then some (decide (xs=ys)) else none
 | none=>none
def sE (op:BinOp) (T:Nat) (b:Bool):Option AV :=
 match P.underlying T with
 | some (.slice _) =>
   match op with
   | .eql=>some (.v (.bool b))
   | .neq=>some (.v (.bool (!b)))
   | _=>none
 | _=>none
noncomputable def fS (op:BinOp) (T:Nat) (x y:AV):Option AV :=
 match x,y with
 | .v (.int k a),.v (.int k' b) =>
   match op with
   | .shl=>if b<0 then none else some (.v (.int k (k.wrap (a * 2 ^ (min b.toNat k.bits)))))
   | .shr=>if b<0 then none else some (.v (.int k (a.fdiv (2 ^ (min b.toNat k.bits)))))
   | .add=>if k=k' then some (.v (.int k (k.wrap (a+b)))) else none
   | .sub=>if k=k' then some (.v (.int k (k.wrap (a-b)))) else none
   | .mul=>if k=k' then some (.v (.int k (k.wrap (a * b)))) else none
   | .quo=>if k=k'∧b≠0 then some (.v (.int k (k.wrap (a.tdiv b)))) else none
   | .rem=>if k=k'∧b≠0 then some (.v (.int k (a.tmod b))) else none
   | .and=>if k=k' then some (.v (.int k (k.wrap (BitVec.ofInt k.bits a &&& BitVec.ofInt k.bits b).toNat))) else none
   | .or=>if k=k' then some (.v (.int k (k.wrap (BitVec.ofInt k.bits a ||| BitVec.ofInt k.bits b).toNat))) else none
   | .xor=>if k=k' then some (.v (.int k (k.wrap (BitVec.ofInt k.bits a ^^^ BitVec.ofInt k.bits b).toNat))) else none
   | .andNot=>if k=k' then some (.v (.int k (k.wrap (BitVec.ofInt k.bits a &&& ~~~ BitVec.ofInt k.bits b).toNat))) else none
   | .eql=>if k=k' then some (.v (.bool (a == b))) else none
   | .neq=>if k=k' then some (.v (.bool (a != b))) else none
   | .lss=>if k=k' then some (.v (.bool (decide (a<b)))) else none
   | .leq=>if k=k' then some (.v (.bool (decide (a≤b)))) else none
   | .gtr=>if k=k' then some (.v (.bool (decide (a > b)))) else none
   | .geq=>if k=k' then some (.v (.bool (decide (a≥b)))) else none
 | .v (.bool a),.v (.bool b) =>
   match P.underlying T with
   | some .bool =>
     match op with
     | .eql=>some (.v (.bool (a == b)))
     | .neq=>some (.v (.bool (!(a == b))))
     | _=>none
   | _=>none
 | .agg xs,.agg ys =>
   match op with
   | .eql=>(uH P T xs ys).map fun b=>.v (.bool b)
   | .neq=>(uH P T xs ys).map fun b=>.v (.bool (!b))
   | _=>none
 | .sl _ (_ :: _),.v (.slice none 0 0)=>sE P op T false
 | .v (.slice none 0 0),.v (.slice none 0 0)=>sE P op T true
 | _,_=>none
def unA (op:UnOp) (x:AV):Option AV :=
 match op,x with
 | .not,.v (.bool b)=>some (.v (.bool (!b)))
 | .neg,.v (.int k n)=>some (.v (.int k (k.wrap (0-n))))
 | .xor,.v (.int k n)=>some (.v (.int k (k.wrap (BitVec.ofInt k.bits (if k.signed then -1 else k.max) ^^^ BitVec.ofInt k.bits n).toNat)))
 | _,_=>none
def uR (x:AV) (k:Nat):Option AV :=
 match x with
 | .ptr s g o=>some (.ptr s g (o+k))
 | .ip cs o=>if o+k≤cs.length then some (.ip cs (o+k)) else none
 | _=>none
def qC (st:St) (x:AV):Option (List AV) :=
 match x with
 | .ip cs o=>some (cs.drop o)
 | .ptr s g o =>
   match st.heap s g with
   | some (.cells cs)=>some (cs.drop o)
   | some (.row _ _ _ cs)=>some (cs.drop o)
   | _=>none
 | _=>none
def xE (T:Nat) (cs:List AV):Option AV :=
 match fK P T with
 | some (true,k)=>if 0<k∧k≤cs.length then some (.agg (cs.take k)) else none
 | some (false,_)=>cs.head?
 | none=>none
def aR (st:St) (x:AV):Option (Nat × List AV) :=
 match x with
 | .sl n cs=>some (n,cs)
 | .cl n cs=>some (n,cs)
 | .own s g =>
   match st.heap s g with
   | some (.row _ _ n cs)=>some (n,cs)
   | _=>none
 | .vw s g o n =>
   match st.heap s g with
   | some (.row _ sz _ cs)=>if o+n * sz≤cs.length then some (n,(cs.drop o).take (n * sz)) else none
   | some (.cells cs)=>if o+n≤cs.length then some (n,(cs.drop o).take n) else none
   | _=>none
 | .v (.slice none 0 0)=>some (0,[])
 | _=>none
def bD (st:St) (T:Nat) (x i:AV):Option AV :=
 match i with
 | .v (.int _ i) =>
   match jF P T with
   | some (n,sz)=>if 0≤i∧i<n then uR x (i.toNat * sz) else none
   | none =>
     match dL P T with
     | some (e,sz,_) =>
       match x with
       | .sl n cs=>if 0≤i∧i<n∧i.toNat * sz+sz≤cs.length then some (.ip ((cs.drop (i.toNat * sz)).take sz) 0) else none
       | .own s g =>
         match st.heap s g with
         | some (.row e' tF n _)=>if 0≤i∧i<n∧e'=e∧tF=sz then some (.ptr s g (i.toNat * sz)) else none
         | _=>none
       | .vw s g o n=>if 0≤i∧i<n then some (.ptr s g (o+i.toNat * sz)) else none
       | _=>none
     | none=>none
 | _=>none
def gM (place:Nat→Option (Nat × Nat)) (cells:List AV):List (Nat × AV)→Option (List AV)
 | []=>some cells
 | (i,x) :: rest =>
   match place i with
   | none=>none
   | some (off,size) =>
     if x.cells.length=size∧off+size≤cells.length then gM place (cells.take off++x.cells++cells.drop (off+size)) rest else none
def placeOf (T:Nat):Option (Nat→Option (Nat × Nat)) :=
 match P.underlying T with
 | some (.struct fs)=>if fs.all (fun f=>(P.info? f.type).isSome) then some fun i=>(fs[i]?).map fun f=>(f.offset,P.cellsOf f.type) else none
 | some (.array _ e)=>if (P.info? e).isSome then some fun i=>some (i * P.cellsOf e,P.cellsOf e) else none
 | _=>none
def AV.jL:AV→Bool
 | .v x=>x.oneCell'
 | .eE _=>false
 | .uniq _ _ _ _=>false
 | _=>true
def iR (st:St) (T:Nat) (parts:List (Nat × Operand)):Option AV :=
 match dZ P T,placeOf P T with
 | some z,some place =>
   if (parts.all fun p=>(st.ev p.2).jL)=true then (gM place (z.map .v) (parts.map fun p=>(p.1,st.ev p.2))).map .agg else none
 | _,_=>none
def cW (st:St) (T:Nat) (x:AV) (lo hi:Option Operand):Option AV :=
 match dL P T with
 | some (_,sz,_) =>
   match x with
   | .sl n cs =>
     match (match hi with|some h=>st.ev h|none=>.v (.int .i64 n)),(match lo with|some l=>st.ev l|none=>.v (.int .i64 0)) with
     | .v (.int _ h),.v (.int _ l) =>
       if 0≤l∧l≤h∧h≤n∧cs.length=n * sz then some (.sl (h-l).toNat ((cs.drop (l.toNat * sz)).take ((h-l).toNat * sz))) else none
     | _,_=>none
   | .v (.slice none 0 0) =>
     match (match hi with|some h=>st.ev h|none=>.v (.int .i64 0)),(match lo with|some l=>st.ev l|none=>.v (.int .i64 0)) with
     | .v (.int _ h),.v (.int _ l)=>if l=0∧h=0 then some x else none
     | _,_=>none
   | .own s g =>
     match st.heap s g with
     | some (.row _ _ n _) =>
       match (match hi with|some h=>st.ev h|none=>.v (.int .i64 n)),(match lo with|some l=>st.ev l|none=>.v (.int .i64 0)) with
       | .v (.int _ h),.v (.int _ l)=>if 0≤l∧l≤h∧h≤n then (if l=h∧¬(l=0∧0<n) then some (.sl 0 []) else some (.vw s g (l.toNat * sz) (h-l).toNat)) else none
       | _,_=>none
     | _=>none
   | .vw s g 0 _ =>
     match st.heap s g,hi,lo with
     | some (.row _ _ n _),some hi,some lo =>
       match st.ev hi,st.ev lo with
       | .v (.int _ h),.v (.int _ l)=>if 0≤l∧l<h∧h≤n then some (.vw s g (l.toNat * sz) (h-l).toNat) else none
       | _,_=>none
     | _,_,_=>none
   | _=>none
 | none =>
   match jF P T,x,lo,hi with
   | some (n,_),.ptr s g o,none,none =>
     match st.heap s g with
     | some (.cells _)=>some (.vw s g o n)
     | _=>none
   | _,_,_,_=>none
def vN (st:St) (T:Nat) (x:AV) (lo:Option Operand) (hi mx:Operand):Option AV :=
 match dL P T with
 | some (_,sz,_) =>
   match st.ev hi,st.ev mx,(match lo with|some l=>st.ev l|none=>.v (.int .i64 0)) with
   | .v (.int _ h),.v (.int _ m),.v (.int _ l) =>
     match x with
     | .sl n cs=>if 0≤l∧l≤h∧h=m∧h≤n∧cs.length=n * sz then some (.cl (h-l).toNat ((cs.drop (l.toNat * sz)).take ((h-l).toNat * sz))) else none
     | .v (.slice none 0 0)=>if l=0∧h=0∧m=0 then some x else none
     | .own s g =>
       match st.heap s g with
       | some (.row _ _ n _)=>if 0≤l∧l≤h∧h≤m∧m≤n then some (.sl (h-l).toNat []) else none
       | _=>none
     | _=>none
   | _,_,_=>none
 | none=>none
def By (l:List Bool) (k:Nat):Bool :=
 match P.underlying k with
 | some (.int _)=>true
 | some .bool=>true
 | some (.array n e) =>
   match P.underlying e with
   | some (.int _)=>decide (P.cellsOf e=1) && decide (l.length=n) && (P.info? e).isSome && decide (n≤10000)
   | _=>false
 | _=>false
def aDB (T:Nat):Option AV :=
 match P.info? T with
 | some i =>
   match i.zero with
   | some (.agg cs)=>if (cs.toList.all fun y=>y.oneCell')=true then some (.agg (cs.toList.map .v)) else none
   | some y=>if y.oneCell'=true then some (.v y) else none
   | none=>none
 | none=>none
def Ty (T:Nat):Option (Nat × AV) :=
 match P.underlying T with
 | some (.map k e) =>
   match eX P 20 k,aDB P e with
   | some l,some z=>if By P l k=true then some (k,z) else none
   | _,_=>none
 | _=>none
def Dl (k:Nat) (x y:AV):Prop :=
 match eX P 20 k with
 | some l=>gY l x.cells y.cells∧(cZ P k=true→(∃cs,x=.agg cs)∧∃cs,y=.agg cs)∧(cZ P k=false→(∃u,x=.v u)∧∃u,y=.v u)
 | none=>False
noncomputable def G5:List (AV × AV)→AV→Option AV
 | [],_=>none
 | p :: r,x=>if p.1=x then some p.2 else G5 r x
noncomputable def G6:List (AV × AV)→AV→AV→List (AV × AV)
 | [],x,y=>[(x,y)]
 | p :: r,x,y=>if p.1=x then (x,y) :: r else p :: G6 r x y
noncomputable def Rs (st:St) (T:Nat) (m x:AV) (ok:Bool):Option AV :=
 match m with
 | .mp s g =>
   match st.heap s g,Ty P T with
   | some (.map es),some (k,z) =>
     if Dl P k x x∧∀p∈es,Dl P k x p.1 then
      match G5 es x with
      | some v=>some (if ok=true then .eE [v,.v (.bool true)] else v)
      | none=>some (if ok=true then .eE [z,.v (.bool false)] else z)
     else none
   | _,_=>none
 | _=>none
noncomputable def tJ (st:St) (T:Nat) (m x y:AV):Option (Nat × Nat × nD) :=
 match m with
 | .mp s g =>
   match st.heap s g,Ty P T with
   | some (.map es),some (k,_)=>if (Dl P k x x∧∀p∈es,Dl P k x p.1)∧y.jL=true then some (s,g,.map (G6 es x y)) else none
   | _,_=>none
 | _=>none
def fieldInfo (T f:Nat):Option (Nat × Bool × Nat) :=
 match P.underlying T with
 | some (.struct fs) =>
   match fs[f]? with
   | some fd =>
     match fK P fd.type with
     | some (b,k)=>if b=true∨k=1 then some (fd.offset,b,k) else none
     | none=>none
   | none=>none
 | _=>none
def Kf (T f:Nat) (x:AV):Option AV :=
 match x with
 | .agg cs =>
   match fieldInfo P T f with
   | some (off,true,k)=>if off+k≤cs.length then some (.agg ((cs.drop off).take k)) else none
   | some (off,false,_)=>cs[off]?
   | none=>none
 | _=>none
noncomputable def iS (st:St):Op→Option AV
 | .move x=>some (st.ev x)
 | .assign x=>some (st.ev x)
 | .pick c a b =>
   match st.ev c with
   | .v (.bool t)=>some (if t=true then st.ev a else st.ev b)
   | _=>none
 | .binOp op T x y _=>fS P op T (st.ev x) (st.ev y)
 | .unOp op _ x=>unA op (st.ev x)
 | .convert src dst x =>
   match st.ev x,intKind P dst,intKind P src with
   | .v (.int _ n),some k,some _=>some (.v (.int k (k.wrap n)))
   | _,_,_=>none
 | .nilCheck x =>
   match st.ev x with
   | .ptr s g o=>some (.ptr s g o)
   | .ip cs o=>some (.ip cs o)
   | _=>none
 | .field T x f=>Kf P T f (st.ev x)
 | .fieldAddr T x f =>
   match aV P T f with
   | some k=>uR (st.ev x) k
   | none=>none
 | .indexAddr T x i=>bD P st T (st.ev x) (st.ev i)
 | .load T a=>cD (qC st (st.ev a)) (xE P T)
 | .extract t i =>
   match st.ev t with
   | .eE vs=>vs[i]?
   | _=>none
 | .build T parts=>iR P st T parts.toList
 | .slice T x lo hi none=>cW P st T (st.ev x) lo hi
 | .slice T x lo (some h) (some m)=>vN P st T (st.ev x) lo h m
 | .lookup T x i ok=>Rs P st T (st.ev x) (st.ev i) ok
 | .makeFunc (.func f) first captured=>if first=#[] then some (.Ev f (captured.toList.map st.ev)) else none
 | _=>none
def pO (st:St) (T:Nat) (a x:AV):Option (Nat × Nat × nD) :=
 match a with
 | .ptr s g o =>
   match fK P T with
   | some (_,k) =>
     if x.cells.length=k∧x.jL=true then
      match st.heap s g with
      | some (.cells cs)=>if o+k≤cs.length then some (s,g,.cells (cs.take o++x.cells++cs.drop (o+k))) else none
      | some (.row e sz n cs)=>if o+k≤cs.length then some (s,g,.row e sz n (cs.take o++x.cells++cs.drop (o+k))) else none
      | _=>none
     else none
   | none=>none
 | _=>none
def dC (st:St) (T:Nat) (s x:AV):Option (Option (Nat × Nat) × nD) :=
 match dL P T with
 | some (e,sz,by_) =>
   match aR st x with
   | some (m,news) =>
     if news.length=m * sz then
      match s with
      | .v (.slice none 0 0) =>
        if m * by_≤140737488355328∧m≤maxLen then some (none,.row e sz m news) else none
      | .own s' g' =>
        match st.heap s' g' with
        | some (.row e' tF n cs) =>
          if e'=e∧tF=sz∧(n+m) * by_≤140737488355328∧n+m≤maxLen then
           some (some (s',g'),.row e sz (n+m) (cs++news))
          else none
        | _=>none
      | .cl n cs =>
        if cs.length=n * sz∧(n=0∨0<m)∧(n+m) * by_≤140737488355328∧n+m≤maxLen then some (none,.row e sz (n+m) (cs++news)) else none
      | _=>none
     else none
   | none=>none
 | none=>none
def kM (st:St) (T:Nat) (s x:AV):Option (Nat × Nat × nD × Nat) :=
 match dL P T,aR st x,s with
 | some (e,sz,_),some (m,news),.vw s' g' 0 k =>
   match st.heap s' g' with
   | some (.row e' tF n cs) =>
     if e'=e∧tF=sz∧news.length=m * sz∧k+m≤n then some (s',g',.row e' tF n (cs.take (k * sz)++news++cs.drop (k * sz+m * sz)),k+m) else none
   | _=>none
 | _,_,_=>none
def tK (st:St) (T:Nat) (x:AV):Option (Option (Nat × Nat × nD)) :=
 match dL P T,x with
 | some (e,sz,_),.vw s g o k =>
   match dZ P e,st.heap s g with
   | some z,some (.row e' tF n cs)=>if e'=e∧tF=sz∧o+k * sz≤cs.length then some (some (s,g,.row e' tF n (cs.take o++((List.range k).flatMap fun _=>z.map .v)++cs.drop (o+k * sz)))) else none
   | _,_=>none
 | some _,.sl 0 _=>some none
 | some _,.v (.slice none 0 0)=>some none
 | _,_=>none
def Gd (st:St) (T:Nat) (s x:AV):Prop:=s=.v (.slice none 0 0)∧(dL P T).isSome=true∧(aR st x).map Prod.fst=some 0
noncomputable def wW (st:St) (x:AV):Option AV :=
 if Flat x then some x else
 match x with
 | .own s g =>
   match st.heap s g with
   | some (.row _ _ n cs)=>if ∀c∈cs,Flat c then some (.sl n cs) else none
   | _=>none
 | .vw s g o n =>
   match st.heap s g with
   | some (.row _ sz _ cs)=>if (∀c∈cs,Flat c)∧o+n * sz≤cs.length then some (.sl n ((cs.drop o).take (n * sz))) else none
   | _=>none
 | _=>none
def cE {α:Type}:List (Option α)→Option (List α)
 | []=>some []
 | some x :: r=>(cE r).map (x :: ·)
 | none :: _=>none
noncomputable def cY (st:St) (x:AV):Option AV :=
 if Flat x then some x else
 match x with
 | .own s g =>
   match st.heap s g with
   | some (.row _ _ n cs)=>if ∀c∈cs,Flat c then some (.sl n cs) else none
   | _=>none
 | .vw s g o n =>
   match st.heap s g with
   | some (.row _ sz _ cs)=>if (∀c∈cs,Flat c)∧o+n * sz≤cs.length then some (.sl n ((cs.drop o).take (n * sz))) else none
   | _=>none
 | .ptr s g o =>
   match st.heap s g with
   | some (.cells cs)=>(cE (cs.map (wW st))).map fun ds=>.ip ds o
   | _=>none
 | _=>none
noncomputable def fO (st:St) (x:AV):Option AV :=
 if Flat x then some x else
 match x with
 | .agg cs=>(cE (cs.map (cY st))).map .agg
 | .Ev f oR=>(cE (oR.map (cY st))).map (.Ev f)
 | x=>cY st x
def EG:AV→Option (Nat × List AV)
 | .v (.func (.func f) first oR)=>if first=#[]∧oR=#[] then some (f,[]) else none
 | .Ev f oR=>some (f,oR)
 | _=>none
def xF (d c:Nat):AV→AV × List nD
 | .uniq e sz n cs=>(.own d c,[.row e sz n cs])
 | x=>(x,[])
def pP (f:Nat→AV→AV × List nD):Nat→List AV→List AV × List nD
 | _,[]=>([],[])
 | c,x :: xs=>((f c x).1 :: (pP f (c+(f c x).2.length) xs).1,(f c x).2++(pP f (c+(f c x).2.length) xs).2)
def Sv (d c:Nat):AV→AV × List nD
 | .agg cs=>(.agg (pP (xF d) c cs).1,(pP (xF d) c cs).2)
 | x=>xF d c x
def WE (d c:Nat):AV→AV × List nD
 | .eE vs=>(.eE (pP (Sv d) c vs).1,(pP (Sv d) c vs).2)
 | x=>Sv d c x
def QX:AV→Prop
 | .uniq _ _ _ cs=>∀c∈cs,fM c
 | x=>fM x
def QY:AV→Prop
 | .agg cs=>∀c∈cs,QX c
 | x=>QX x
def Uq:AV→Prop
 | .eE vs=>∀x∈vs,QY x
 | x=>QY x
noncomputable def iW (r:AV) (st:St) (dst:Option Nat):Option qT :=
 if Flat r then some { dst:=dst,val:=r } else
 match dst with
 | some d=>some { dst:=some d,val:=(WE d (st.aQ d) r).1,new:=some (d,(WE d (st.aQ d) r).2)}
 | none=>none
noncomputable def aN (call:Nat→List AV→Option AV) (g:Nat) (args:List AV) (st:St) (dst:Option Nat):Option qT :=
 if ∀x∈args,Flat x then cD (call g args) fun r=>iW r st dst
 else
  match cE (args.map (fO st)) with
  | some xs=>cD (call g xs) fun r=>if Uq r then iW r st dst else none
  | none=>none
noncomputable def lH (call:Nat→List AV→Option AV) (g:Nat) (args:List AV) (st:St) (dst:Option Nat):Option qT :=
 match args with
 | .own s k :: rest =>
   match st.heap s k with
   | some (.row e sz n cs) =>
     if (∀c∈cs,Flat c)∧∀x∈rest,Flat x then
      match call g (.uniq e sz n cs :: rest) with
      | some (.uniq e' tF n' Dj) =>
        match dst with
        | some d=>some { dst:=some d,val:=.own d (st.aQ d),dJ:=some (s,k,none),new:=some (d,[.row e' tF n' Dj])}
        | none=>none
      | some (.eE [.uniq e' tF n' Dj])=>some { dst:=dst,val:=.eE [],dJ:=some (s,k,some (.row e' tF n' Dj))}
      | _=>none
     else none
   | _=>none
 | args=>if ∀x∈args,Flat x then aN call g args st dst else none
def gH:AV→List (Nat × Nat)
 | .own s g=>[(s,g)]
 | _=>[]
def iZ:AV→List (Nat × Nat)
 | .agg cs=>cs.flatMap gH
 | x=>gH x
def lP:AV→List (Nat × Nat)
 | .eE vs=>vs.flatMap iZ
 | x=>iZ x
def WG (x:AV):Prop:=Flat x∨(∃s k,x=.own s k)∨∃cs,x=.agg cs∧∀c∈cs,Flat c∨∃s k,c=.own s k
noncomputable def Dm (r:AV) (st:St) (dst:Option Nat) (s k:Nat):Option qT :=
 if Flat r then some { dst:=dst,val:=r,dJ:=some (s,k,none)} else
 match r,dst with
 | .uniq e sz n cs,some d=>if ∀c∈cs,fM c then some { dst:=some d,val:=.own d (st.aQ d),dJ:=some (s,k,none),new:=some (d,[.row e sz n cs])} else none
 | _,_=>none
noncomputable def fC (call:Nat→List AV→Option AV) (g:Nat) (args:List AV) (st:St) (dst:Option Nat):Option qT :=
 match args.flatMap iZ with
 | [(s,k)] =>
   if ∀x∈args,WG x then
    match cE (args.map (fO st)) with
    | some xs=>cD (call g xs) fun r=>Dm r st dst s k
    | none=>none
   else none
 | _=>aN call g args st dst
section ext
variable [Ext]
noncomputable def nM (call:Nat→List AV→Option AV) (f:Operand) (args:List AV) (st:St) (dst:Option Nat):Option qT :=
 match f with
 | .func g=>if Ext.mv g=true then lH call g args st dst else if Ext.eat g dst=true then fC call g args st dst else aN call g args st dst
 | f =>
   match EG (st.ev f) with
   | some (g,oR)=>aN call g (args++oR) st dst
   | none=>none
noncomputable def iE (call:Nat→List AV→Option AV) (c:Call) (dst:Option Nat) (st:St):Option qT :=
 match c.callee with
 | .value f=>nM call f (c.args.toList.map st.ev) st dst
 | .builtin .len =>
   match c.args.toList,c.argTypes.toList with
   | [x],[T] =>
     match dL P T,aR st (st.ev x) with
     | some _,some (n,_)=>some { dst:=dst,val:=.v (.int .i64 n)}
     | _,_=>none
   | _,_=>none
 | .builtin .min =>
   match c.args.toList with
   | [x,y] =>
     match st.ev x,st.ev y with
     | .v (.int k a),.v (.int _ b)=>some { dst:=dst,val:=.v (.int k (if b<a then b else a))}
     | _,_=>none
   | _=>none
 | .builtin .max =>
   match c.args.toList with
   | [x,y] =>
     match st.ev x,st.ev y with
     | .v (.int k a),.v (.int _ b)=>some { dst:=dst,val:=.v (.int k (if b > a then b else a))}
     | _,_=>none
   | _=>none
 | .builtin .append =>
   cD dst fun d =>
    match c.args.toList,c.argTypes.toList with
    | [s,x],[T,T'] =>
      if T=T' then
       if Ext.va T d=true then (kM P st T (st.ev s) (st.ev x)).map fun u=>{ dst:=some d,val:=.vw u.1 u.2.1 0 u.2.2.2,dJ:=some (u.1,u.2.1,some u.2.2.1)} else
       if Ext.pa T d=true∧Gd P st T (st.ev s) (st.ev x) then some { dst:=some d,val:=.v (.slice none 0 0)} else
       cD (dC P st T (st.ev s) (st.ev x)) fun ur=>some { dst:=some d,val:=.own d (st.aQ d),dJ:=ur.1.map fun p=>(p.1,p.2,none),new:=some (d,[ur.2])}
      else none
    | _,_=>none
 | .builtin .clear =>
   match c.args.toList,c.argTypes.toList with
   | [x],[T]=>(tK P st T (st.ev x)).map fun u=>{ dst:=dst,val:=.eE [],dJ:=u.map fun p=>(p.1,p.2.1,some p.2.2)}
   | _,_=>none
 | _=>none
noncomputable def dI (call:Nat→List AV→Option AV) (o:Oper) (st:St):Option qT :=
 match o.op with
 | .alloc T =>
   cD o.dst fun d=>cD (dZ P T) fun z=>some { dst:=some d,val:=.ptr d (st.aQ d) 0,new:=some (d,[.cells (z.map .v)])}
 | .box _ x =>
   cD o.dst fun d=>if (st.ev x).jL=true then some { dst:=some d,val:=.ptr d (st.aQ d) 0,new:=some (d,[.cells (st.ev x).cells])} else none
 | .buildSlice T n parts =>
   cD o.dst fun d=>cD (dL P T) fun t=>cD (dZ P t.1) fun z =>
    if (0<n∨parts=#[])∧n * t.2.1≤2 ^ 24∧(parts.toList.all fun p=>(st.ev p.2).jL)=true then
     cD (gM (fun i=>some (i * t.2.1,t.2.1)) ((List.range n).flatMap fun _=>z.map .v) (parts.toList.map fun p=>(p.1,st.ev p.2))) fun cs =>
      some { dst:=some d,val:=.own d (st.aQ d),new:=some (d,[.row t.1 t.2.1 n cs])}
    else none
 | .makeSlice T l c =>
   cD o.dst fun d=>cD (dL P T) fun t=>cD (dZ P t.1) fun z =>
    match st.ev l,st.ev c with
    | .v (.int .i64 n),.v (.int .i64 m) =>
      if 0≤n∧n=m∧n * t.2.2≤140737488355328∧n≤maxLen then
       some { dst:=some d,val:=.own d (st.aQ d),new:=some (d,[.row t.1 t.2.1 n.toNat ((List.range n.toNat).flatMap fun _=>z.map .v)])}
      else none
    | _,_=>none
 | .store T a x=>(pO P st T (st.ev a) (st.ev x)).map fun u=>{ dst:=o.dst,val:=.v undef,dJ:=some (u.1,u.2.1,some u.2.2)}
 | .makeMap _ none=>cD o.dst fun d=>some { dst:=some d,val:=.mp d (st.aQ d),new:=some (d,[.map []])}
 | .mapUpdate T m x y=>(tJ P st T (st.ev m) (st.ev x) (st.ev y)).map fun u=>{ dst:=o.dst,val:=.v undef,dJ:=some (u.1,u.2.1,some u.2.2)}
 | .call c=>iE P call c o.dst st
 | op=>(iS P st op).map fun x=>{ dst:=o.dst,val:=x }
def gv (ops:Array Oper) (st:St) (g:Option (Nat × Bool)):Option Bool :=
 match g with
 | none=>some true
 | some (j,want) =>
   match (ops[j]?).bind (·.dst) with
   | some d =>
     match st.env d with
     | .v x=>match x with
       | .bool b=>some (b == want)
       | _=>some false
     | _=>none
   | none=>some false
noncomputable def bZ (call:Nat→List AV→Option AV) (ops:Array Oper) (o:Oper) (st:St):Option St :=
 match gv ops st o.guard with
 | some b=>if b=true then (dI P call o st).map fun e=>e.apply st else some (st.put o.dst (.v undef))
 | none=>none
noncomputable def Mb (call:Nat→List AV→Option AV) (ops:Array Oper):List Oper→St→Option St
 | [],st=>some st
 | o :: r,st=>cD (bZ P call ops o st) (Mb call ops r)
def Ew (o:Oper):Option (Nat × List Operand) :=
 match o.op with
 | .call { callee:=.value (.func g),args,.. }=>if Ext.inl g o.dst=true then some (g,args.toList) else none
 | _=>none
def WH (o:Oper):Bool:=(Ew o).isNone
def aIm (ops:Array Oper):Bool:=ops.all WH
def rR (ops:Array Oper):Option Nat:=(ops[0]?).bind (·.dst)
def St.back (st:St) (s:St):St:=⟨st.env,s.heap,s.aQ⟩
noncomputable def gN (b:Bool) (call:Nat→List AV→Option AV) (inl:Nat→List AV→St→Option (AV × St)) (ops:Array Oper) (o:Oper) (st:St):Option St :=
 match (if b=true then Ew o else none) with
 | some (g,args) =>
   match gv ops st o.guard with
   | some t=>if t=true then (inl g (args.map st.ev) st).map fun r=>(st.back r.2).put o.dst r.1 else some (st.put o.dst (.v undef))
   | none=>none
 | none=>bZ P call ops o st
noncomputable def mG (b:Bool) (call:Nat→List AV→Option AV) (inl:Nat→List AV→St→Option (AV × St)) (ops:Array Oper):List Oper→St→Option St
 | [],st=>some st
 | o :: r,st=>cD (gN P b call inl ops o st) (mG b call inl ops r)
def gS (o:Oper):Option (List Nat) :=
 match o.guard with
 | some _=>none
 | none =>
   match o.op with
   | .load _ (.tmp a)=>some [a]
   | .store _ (.tmp a) _=>some [a]
   | .indexAddr _ (.tmp a) _=>some [a]
   | .slice _ (.tmp a) _ _ _=>some [a]
   | .call { callee:=.builtin .len,args,.. } =>
     match args.toList with
     | [.tmp a]=>some [a]
     | _=>none
   | .call { callee:=.builtin .append,args,.. } =>
     match args.toList with
     | [.tmp a,.tmp b]=>some [a,b]
     | _=>none
   | .call { callee:=.value (.func g),args,.. } =>
     match args.toList with
     | .tmp a :: _=>if Ext.mv g=true then some [a] else none
     | _=>none
   | _=>none
def keyOf:AV→Option (Option (Nat × Nat))
 | .ptr s g _=>some (some (s,g))
 | .own s g=>some (some (s,g))
 | .vw s g _ _=>some (some (s,g))
 | .v _=>some none
 | .sl _ _=>some none
 | .cl _ _=>some none
 | .ip _ _=>some none
 | _=>none
def aAU:Option (Option (Nat × Nat))→Option (Option (Nat × Nat))→Prop
 | some (some k),some (some k')=>k≠k'
 | some _,some _=>True
 | _,_=>False
def fU (x y:AV):Prop:=aAU (keyOf x) (keyOf y)
def Kg (s:St) (aS bs:List Nat):Prop:=∀a∈aS,∀b∈bs,fU (s.env a) (s.env b)
def Ur (ops:Array Oper) (s:St) (p:Nat × Nat):Prop :=
 match (ops[p.1]?).bind gS,(ops[p.2]?).bind gS with
 | some aS,some bs=>Kg s aS bs
 | _,_=>False
def pU (ops:Array Oper) (s:St):List (Nat × Nat)→Prop
 | []=>True
 | p :: l=>Ur ops s p∧pU ops s l
inductive Ex where
 | normal
 | exit (id:Nat)
 | ret
def Ex.inBlock (id:Nat):Ex→Ex
 | .exit i=>if i=id then .normal else .exit i
 | e=>e
noncomputable def uG (bi:Bool) (call:Nat→List AV→Option AV) (inl:Nat→List AV→St→Option (AV × St)):Nat→Code→St→Option (Ex × St)
 | 0,_,_=>none
 | n+1,c,st =>
   match c with
   | .skip=>some (.normal,st)
   | .region id ops _=>cD (mG P bi call inl ops ops.toList st) fun s=>if bi=true∧¬pU ops s (Ext.dyn id ops.size (rR ops)) then none else some (.normal,s)
   | .seq a b=>cD (uG bi call inl n a st) fun r=>match r.1 with
     | .normal=>uG bi call inl n b r.2
     | e=>some (e,r.2)
   | .cond c a b =>
     match st.ev c with
     | .v (.bool t)=>if t=true then uG bi call inl n a st else uG bi call inl n b st
     | _=>none
   | .block id b=>cD (uG bi call inl n b st) fun r=>some (r.1.inBlock id,r.2)
   | .loop b=>cD (uG bi call inl n b st) fun r=>match r.1 with
     | .normal=>uG bi call inl n (.loop b) r.2
     | e=>some (e,r.2)
   | .exit id=>some (.exit id,st)
   | .ret=>some (.ret,st)
   | _=>none
def jW (st:St):ResultVar→Option AV
 | .tmp t=>some (st.env t)
 | .cell a T=>cD (qC st (st.env a)) (xE P T)
noncomputable def Rt (st:St) (x:AV):Option AV :=
 match x with
 | .own s g =>
   match st.heap s g with
   | some (.row e sz n cs)=>if ∀c∈cs,Flat c then some (.uniq e sz n cs) else none
   | _=>none
 | x=>fO st x
noncomputable def Bz (st:St) (x:AV):Option AV :=
 match x with
 | .own s g =>
   match st.heap s g with
   | some (.row _ _ n cs)=>(cE (cs.map (cY st))).map (.sl n)
   | _=>none
 | x=>cY st x
noncomputable def Mc (st:St) (x:AV):Option AV :=
 match x with
 | .agg cs=>(cE (cs.map (Bz st))).map .agg
 | x=>Bz st x
noncomputable def Ca (st:St) (x:AV):Option AV :=
 match fO st x with
 | some y=>some y
 | none=>Mc st x
noncomputable def vO (fn:Func) (st:St):Option AV :=
 match fn.results.toList with
 | [r]=>cD (jW P st r) (Rt st)
 | rs=>(cE (rs.map fun r=>cD (jW P st r) (Ca st))).map .eE
noncomputable def kE (st:St) (x:AV):Option AV :=
 if Flat x then some x else
 match x with
 | .own s g =>
   match st.heap s g with
   | some (.row e sz n cs)=>if ∀c∈cs,Flat c then some (.uniq e sz n cs) else none
   | _=>none
 | _=>none
noncomputable def rP (st:St):AV→Option AV
 | .agg cs=>(cE (cs.map (kE st))).map .agg
 | x=>kE st x
noncomputable def Cb (st:St):AV→Option AV
 | .eE vs=>(cE (vs.map (rP st))).map .eE
 | x=>rP st x
noncomputable def Md (fn:Func) (st:St):Option AV :=
 match fn.results.toList with
 | [r]=>cD (jW P st r) fun x=>if (lP x).Nodup then Cb st x else none
 | rs=>cD (cE (rs.map fun r=>jW P st r)) fun xs=>if (lP (.eE xs)).Nodup then Cb st (.eE xs) else none
noncomputable def jN (f:Nat) (fn:Func) (st:St):Option AV:=if Ext.qB f=true then Md P fn st else vO P fn st
def St.init (xs:List AV):St:=⟨fun t=>(xs[t]?).getD (.v undef),fun _ _=>none,fun _=>0⟩
def mN (ops:Array Oper) (o:Oper):Nat:= -- 0: touches no memory · 1: reads · 2: makes memory · 3: writes
 match o.op with
 | .load ..=>1
 | .indexAddr ..=>1
 | .slice ..=>1
 | .alloc _|.box .. | .buildSlice .. | .makeSlice .. | .makeMap ..=>2
 | .store ..=>3
 | .mapUpdate ..=>3
 | .lookup ..=>1
 | .call { callee:=.builtin .append,args,.. }=>match args.toList with
   | .const (.slice none 0 0) :: _=>1
   | _=>3
 | .call { callee:=.builtin .len,.. }=>1
 | .call { callee:=.builtin .clear,.. }=>3
 | .call { callee:=.value (.func g),args,.. }=>if Ext.eat g o.dst=true then 3 else if Ext.mv g=true then (match args.toList with
   | .const (.slice none 0 0) :: _=>1
   | _=>3) else 1
 | .call _=>1
 | .select ..=>4
 | _=>if ops.size=0 then 0 else 0
def rZ (ops:Array Oper) (x y:Oper):Bool :=
 Oper.apart ops x y &&
 (match mN ops x,mN ops y with
  | 4,_=>false
  | _,4=>false
  | 3,1=>false
  | 1,3=>false
  | 3,3=>false
  | _,_=>true)
def QZ (acc:Array Nat) (o:Oper):Nat :=
 o.after.toList.foldl (fun s e=>if Region.binds .any e=true then s ||| 2 ^ e.on ||| acc.getD e.on 0 else s) 0
def forced {α:Type} (n:Nat) (k:Nat→α):α :=
 match n with
 | 0=>k 0
 | m+1=>k (m+1)
def CE:List Oper→Array Nat→Array Nat
 | [],acc=>acc
 | o :: r,acc=>forced (QZ acc o) fun n=>CE r (acc.push n)
def vT (b:Array Nat) (i:Nat) (aS:List Nat):List Oper→Nat→Bool
 | [],_=>true
 | o :: r,m=>((match o.dst with | some d=>!aS.contains d | none=>true) || (b.getD i 0).testBit m) && vT b i aS r (m+1)
def EH (ops:Array Oper) (b:Array Nat) (i:Nat) (oi:Oper) (j:Nat) (oj:Oper):Bool :=
 match gS oi,gS oj with
 | some aS,some bs=>Oper.apart ops oi oj && vT b i aS ops.toList 0 && vT b j bs ops.toList 0
 | _,_=>false
def Me (ops:Array Oper) (dy:List (Nat × Nat)) (b:Array Nat) (j:Nat) (oj:Oper):List Oper→Nat→Bool
 | [],_=>true
 | oi :: r,i=>(decide (j≤i) || (b.getD j 0).testBit i || (WH oi && WH oj && (rZ ops oi oj || (dy.contains (i,j) && EH ops b i oi j oj)))) && Me ops dy b j oj r (i+1)
def EI (ops:Array Oper) (dy:List (Nat × Nat)) (b:Array Nat):List Oper→Nat→Bool
 | [],_=>true
 | oj :: r,j=>(oj.after.toList.all fun e=>!(Region.binds .any e) || decide (e.on<j)) && Me ops dy b j oj ops.toList 0 && EI ops dy b r (j+1)
def Us (ops:Array Oper) (dy:List (Nat × Nat)):Bool:=EI ops dy (CE ops.toList #[]) ops.toList 0
def codeOk (bi:Bool) (nt:Nat):Code→Bool
 | .region id ops draw=>(ops.all fun o=>o.dst.all fun d=>decide (d<nt)) && (!draw || (Us ops (if bi=true then Ext.dyn id ops.size (rR ops) else [])))
 | .seq a b=>codeOk bi nt a && codeOk bi nt b
 | .cond _ a b=>codeOk bi nt a && codeOk bi nt b
 | .block _ b=>codeOk bi nt b
 | .loop b=>codeOk bi nt b
 | _=>true
def nN:Code→Bool
 | .region _ ops draw=>!aIm ops || (draw && !Us ops [])
 | .seq a b=>nN a || nN b
 | .cond _ a b=>nN a || nN b
 | .block _ b=>nN b
 | .loop b=>nN b
 | _=>false
def CF (bi : Bool) (fn : Func) : Bool := fn.name != "runtime.NumGoroutine" && (match fn.body with | some c => codeOk bi fn.ntmps c | none => false)
def tL (fn:Func):Bool:=CF (match fn.body with|some c=>nN c|none=>false) fn
noncomputable def YM (call:Nat→List AV→Option AV) (inl:Nat→List AV→St→Option (AV × St)) (n f:Nat) (xs:List AV):Option AV :=
 match P.funcs[f]? with
 | some fn =>
   if tL fn=true then
    match fn.body with
    | some c=>cD (uG P (nN c) call inl n c (St.init xs)) fun r=>match r.1 with
      | .exit _=>none
      | _=>jN P f fn r.2
    | none=>none
   else none
 | none=>none
def St.sQ (e sz n:Nat) (cs rest:List AV):St :=
 ⟨fun t=>match t with|0=>.own 0 0|t+1=>(rest[t]?).getD (.v undef),fun s g=>if s=0∧g=0 then some (.row e sz n cs) else none,fun s=>if s=0 then 1 else 0⟩
noncomputable def Aa (fn:Func) (st:St):Option AV :=
 match fn.results.toList with
 | [r] =>
   match jW P st r with
   | some (.own s g) =>
     match st.heap s g with
     | some (.row e sz n cs)=>if ∀c∈cs,fM c then some (.uniq e sz n cs) else none
     | _=>none
   | some (.vw s g 0 k) =>
     match st.heap s g with
     | some (.row e sz n cs)=>if k≤n∧cs.length=n * sz∧∀c∈cs,fM c then some (.uniq e sz k (cs.take (k * sz))) else none
     | _=>none
   | _=>none
 | _=>none
noncomputable def runM (call:Nat→List AV→Option AV) (inl:Nat→List AV→St→Option (AV × St)) (n f e sz m:Nat) (cs rest:List AV):Option AV :=
 match P.funcs[f]? with
 | some fn =>
   if tL fn=true then
    match fn.body with
    | some c=>cD (uG P (nN c) call inl n c (St.sQ e sz m cs rest)) fun r=>match r.1 with
      | .exit _=>none
      | _=>Aa P fn r.2
    | none=>none
   else none
 | none=>none
noncomputable def Ac (fn:Func) (st:St):Option AV :=
 match fn.results.toList with
 | [r]=>jW P st r
 | rs=>(cE (rs.map fun r=>jW P st r)).map .eE
noncomputable def YN (call:Nat→List AV→Option AV) (inl:Nat→List AV→St→Option (AV × St)) (n f:Nat) (xs:List AV) (st:St):Option (AV × St) :=
 match P.funcs[f]? with
 | some fn =>
   if CF true fn=true then
    match fn.body with
    | some c=>cD (uG P true call inl n c ((St.init xs).back st)) fun r=>match r.1 with
      | .exit _=>none
      | _=>(Ac P fn r.2).map fun x=>(x,r.2)
    | none=>none
   else none
 | none=>none
def tM:AV→Bool
 | .uniq _ _ _ _=>true
 | _=>false
def tN:List AV→Option (Nat × Nat × Nat × List AV × List AV)
 | .uniq e sz m cs :: rest=>some (e,sz,m,cs,rest)
 | _=>none
noncomputable def JN:Nat→(Nat→List AV→Option AV) × (Nat→List AV→St→Option (AV × St))
 | 0=>(Ext.ext,fun _ _ _=>none)
 | n+1=>(fun f xs=>match Ext.ext f xs with
   | some r=>some r
   | none =>
     match tN xs with
     | some u=>runM P (JN n).1 (JN n).2 n f u.1 u.2.1 u.2.2.1 u.2.2.2.1 u.2.2.2.2
     | none=>if xs.any tM=true then none else YM P (JN n).1 (JN n).2 n f xs,
  fun f xs st=>YN P (JN n).1 (JN n).2 n f xs st)
noncomputable def Ly (n:Nat):Nat→List AV→Option AV:=(JN P n).1
noncomputable def Ut (n:Nat):Nat→List AV→St→Option (AV × St):=(JN P n).2
theorem Uu (f:Nat) (xs:List AV):Ly P 0 f xs=Ext.ext f xs:=rfl
theorem yC (n f:Nat) (xs:List AV):Ly P (n+1) f xs=match Ext.ext f xs with
 | some r=>some r
 | none =>
   match tN xs with
   | some u=>runM P (Ly P n) (Ut P n) n f u.1 u.2.1 u.2.2.1 u.2.2.2.1 u.2.2.2.2
   | none=>if xs.any tM=true then none else YM P (Ly P n) (Ut P n) n f xs:=rfl
theorem G7 (f:Nat) (xs:List AV) (st:St):Ut P 0 f xs st=none:=rfl
theorem Mf (n f:Nat) (xs:List AV) (st:St):Ut P (n+1) f xs st=YN P (Ly P n) (Ut P n) n f xs st:=rfl
end ext
end ops
end Go.Ab
end
section
namespace Go.Ab
open Classical
structure Ctx where
 h:Nat→Obj→Prop
 ρ:Nat→Nat→Value
 aQ:Nat→Nat
def dD:Value→Option Nat
 | .pointer (some a)=>some a.block
 | .slice (some a) _ (_+1)=>some a.block
 | .map (some r)=>some r
 | _=>none
inductive cS (C:Ctx):AV→Value→Prop
 | v (x:Value):cS C (.v x) x
 | agg (cs:List AV) (a:Array Value) (hl:cs.length=a.size) (h:∀(i:Nat) (x:AV) (y:Value),cs[i]? = some x→a[i]? = some y→cS C x y)
  (h1:∀(i:Nat) (y:Value),a[i]? = some y→y.oneCell'=true):cS C (.agg cs) (.agg a)
 | JO (n cap:Nat) (p:Option Addr) (mS:n≤cap):cS C (.sl n []) (.slice p n cap)
 | sl (n:Nat) (cs:List AV) (b off cap:Nat) (arr:Array Value) (T:Nat) (fr:Nat × Nat) (mS:n≤cap) (hb:C.h b (.cells arr T fr)) (hle:off+cs.length≤arr.size)
  (h:∀(i:Nat) (x:AV) (y:Value),cs[i]? = some x→arr[off+i]? = some y→cS C x y)
  (h1:∀(i:Nat) (y:Value),i<cs.length→arr[off+i]? = some y→y.oneCell'=true):cS C (.sl n cs) (.slice (some ⟨b,off,none⟩) n cap)
 | cl0 (n:Nat) (p:Option Addr):cS C (.cl n []) (.slice p n n)
 | cl (n:Nat) (cs:List AV) (b off:Nat) (arr:Array Value) (T:Nat) (fr:Nat × Nat) (hb:C.h b (.cells arr T fr)) (hle:off+cs.length≤arr.size)
  (h:∀(i:Nat) (x:AV) (y:Value),cs[i]? = some x→arr[off+i]? = some y→cS C x y)
  (h1:∀(i:Nat) (y:Value),i<cs.length→arr[off+i]? = some y→y.oneCell'=true):cS C (.cl n cs) (.slice (some ⟨b,off,none⟩) n n)
 | ip (cs:List AV) (o b off:Nat) (arr:Array Value) (T:Nat) (fr:Nat × Nat) (hb:C.h b (.cells arr T fr)) (hle:off+cs.length≤arr.size)
  (h:∀(i:Nat) (x:AV) (y:Value),cs[i]? = some x→arr[off+i]? = some y→cS C x y)
  (h1:∀(i:Nat) (y:Value),i<cs.length→arr[off+i]? = some y→y.oneCell'=true):cS C (.ip cs o) (.pointer (some ⟨b,off+o,none⟩))
 | ptr (s g off b:Nat) (hg:g<C.aQ s) (hb:dD (C.ρ s g)=some b):cS C (.ptr s g off) (.pointer (some ⟨b,off,none⟩))
 | own (s g:Nat) (hg:g<C.aQ s) (ho:(C.ρ s g).oneCell'=true):cS C (.own s g) (C.ρ s g)
 | mp (s g:Nat) (hg:g<C.aQ s) (ho:(C.ρ s g).oneCell'=true):cS C (.mp s g) (C.ρ s g)
 | vw (s g o n b cap:Nat) (hg:g<C.aQ s) (hb:dD (C.ρ s g)=some b) (mS:n≤cap) (yD:o=0→∀p n0 c0,C.ρ s g=.slice p n0 c0→cap=c0):cS C (.vw s g o n) (.slice (some ⟨b,o,none⟩) n cap)
 | Ev (f:Nat) (cs:List AV) (a:Array Value) (hl:cs.length=a.size) (h:∀(i:Nat) (x:AV) (y:Value),cs[i]? = some x→a[i]? = some y→cS C x y) :
  cS C (.Ev f cs) (.func (.func f) #[] a)
 | eE (cs:List AV) (a:Array Value) (hl:cs.length=a.size) (h:∀(i:Nat) (x:AV) (y:Value),cs[i]? = some x→a[i]? = some y→cS C x y) :
  cS C (.eE cs) (.tuple a)
structure Ctx.Le (C D:Ctx):Prop where
 h:∀b o,C.h b o→D.h b o
 aQ:∀s,C.aQ s≤D.aQ s
 ρ:∀s g,g<C.aQ s→D.ρ s g=C.ρ s g
theorem Ctx.Le.refl (C:Ctx):C.Le C:=⟨fun _ _ h=>h,fun _=>Nat.le_refl _,fun _ _ _=>rfl⟩
theorem Ctx.Le.trans {C D E:Ctx} (h:C.Le D) (k:D.Le E):C.Le E :=
 ⟨fun b o x=>k.h b o (h.h b o x),fun s=>Nat.le_trans (h.aQ s) (k.aQ s),fun s g x=>(k.ρ s g (Nat.lt_of_lt_of_le x (h.aQ s))).trans (h.ρ s g x)⟩
theorem cS.le {C D:Ctx} {x:AV} {y:Value} (hr:cS C x y) (k:C.Le D):cS D x y:=by
 induction hr with
 | v x=>exact .v x
 | agg cs a hl _ h1 ih=>exact .agg cs a hl ih h1
 | JO n cap p mS=>exact .JO n cap p mS
 | sl n cs b off cap arr T fr mS hb hle _ h1 ih=>exact .sl n cs b off cap arr T fr mS (k.h _ _ hb) hle ih h1
 | cl0 n p=>exact .cl0 n p
 | cl n cs b off arr T fr hb hle _ h1 ih=>exact .cl n cs b off arr T fr (k.h _ _ hb) hle ih h1
 | ip cs o b off arr T fr hb hle _ h1 ih=>exact .ip cs o b off arr T fr (k.h _ _ hb) hle ih h1
 | ptr s g off b hg hb=>exact .ptr s g off b (Nat.lt_of_lt_of_le hg (k.aQ s)) (by rw[k.ρ s g hg];exact hb)
 | own s g hg ho=>rw[← k.ρ s g hg];exact .own s g (Nat.lt_of_lt_of_le hg (k.aQ s)) (by rw[k.ρ s g hg];exact ho)
 | vw s g o n b cap hg hb mS yD=>exact .vw s g o n b cap (Nat.lt_of_lt_of_le hg (k.aQ s)) (by rw[k.ρ s g hg];exact hb) mS (by rw[k.ρ s g hg];exact yD)
 | mp s g hg ho=>rw[← k.ρ s g hg];exact .mp s g (Nat.lt_of_lt_of_le hg (k.aQ s)) (by rw[k.ρ s g hg];exact ho)
 | Ev f cs a hl _ ih=>exact .Ev f cs a hl ih
 | eE cs a hl _ ih=>exact .eE cs a hl ih
structure gB (C:Ctx) (cs:List AV) (ys:List Value):Prop where
 len:cs.length=ys.length
 rel:∀(i:Nat) (x:AV) (y:Value),cs[i]? = some x→ys[i]? = some y→cS C x y
 one:∀(i:Nat) (y:Value),ys[i]? = some y→y.oneCell'=true
structure lI (C:Ctx) (cs:List AV) (ys:List Value):Prop where
 len:cs.length=ys.length
 rel:∀(i:Nat) (x:AV) (y:Value),cs[i]? = some x→ys[i]? = some y→cS C x y
theorem gB.le {C D:Ctx} {cs:List AV} {ys:List Value} (h:gB C cs ys) (k:C.Le D):gB D cs ys:=⟨h.len,fun i x y hx hy=>(h.rel i x y hx hy).le k,h.one⟩
theorem lI.le {C D:Ctx} {cs:List AV} {ys:List Value} (h:lI C cs ys) (k:C.Le D):lI D cs ys:=⟨h.len,fun i x y hx hy=>(h.rel i x y hx hy).le k⟩
theorem gB.aAV {C:Ctx} {cs:List AV} {ys:List Value} (h:gB C cs ys):lI C cs ys:=⟨h.len,h.rel⟩
theorem gB.nil (C:Ctx):gB C [] []:=⟨rfl,by simp,by simp⟩
theorem lI.nil (C:Ctx):lI C [] []:=⟨rfl,by simp⟩
theorem lI.cons {C:Ctx} {x:AV} {y:Value} {cs:List AV} {ys:List Value} (h:cS C x y) (k:lI C cs ys):lI C (x :: cs) (y :: ys) :=
 ⟨by simp[k.len],fun i a b ha hb=>by
  cases i with
  | zero=>simp at ha hb;subst ha;subst hb;exact h
  | succ i=>exact k.rel i a b (by simpa using ha) (by simpa using hb)⟩
theorem lI.head {C:Ctx} {x:AV} {y:Value} {cs:List AV} {ys:List Value} (k:lI C (x :: cs) (y :: ys)):cS C x y:=k.rel 0 x y rfl rfl
theorem lI.tail {C:Ctx} {x:AV} {y:Value} {cs:List AV} {ys:List Value} (k:lI C (x :: cs) (y :: ys)):lI C cs ys :=
 ⟨by simpa using k.len,fun i a b ha hb=>k.rel (i+1) a b (by simpa using ha) (by simpa using hb)⟩
theorem lI.app {C:Ctx} {cs ds:List AV} {ys zs:List Value} (h:lI C cs ys) (k:lI C ds zs):lI C (cs++ds) (ys++zs):=by
 induction cs generalizing ys with
 | nil=>cases ys with
   | nil=>exact k
   | cons y ys=>have:=h.len;simp at this
 | cons c cs ih=>cases ys with
   | nil=>have:=h.len;simp at this
   | cons y ys=>exact lI.cons h.head (ih h.tail)
theorem lI.map {C:Ctx} {α:Type} (l:List α) (f:α→AV) (g:α→Value) (h:∀a∈l,cS C (f a) (g a)):lI C (l.map f) (l.map g):=by
 induction l with
 | nil=>exact .nil C
 | cons a l ih=>exact .cons (h a (by simp)) (ih fun b hb=>h b (by simp[hb]))
theorem gB.app {C:Ctx} {cs ds:List AV} {ys zs:List Value} (h:gB C cs ys) (k:gB C ds zs):gB C (cs++ds) (ys++zs) :=
 ⟨(h.aAV.app k.aAV).len,(h.aAV.app k.aAV).rel,fun i y hy=>by
  rw[List.getElem?_append] at hy;split at hy
  ·exact h.one _ _ hy
  ·exact k.one _ _ hy⟩
theorem gB.take {C:Ctx} {cs:List AV} {ys:List Value} (h:gB C cs ys) (n:Nat):gB C (cs.take n) (ys.take n):=by
 refine⟨by simp[h.len],fun i x y hx hy=>?_,fun i y hy=>?_⟩
 ·rw[List.getElem?_take] at hx hy;by_cases hi:i<n
  ·rw[if_pos hi] at hx hy;exact h.rel i x y hx hy
  ·rw[if_neg hi] at hx;cases hx
 ·rw[List.getElem?_take] at hy;by_cases hi:i<n
  ·rw[if_pos hi] at hy;exact h.one i y hy
  ·rw[if_neg hi] at hy;cases hy
theorem gB.drop {C:Ctx} {cs:List AV} {ys:List Value} (h:gB C cs ys) (n:Nat):gB C (cs.drop n) (ys.drop n) :=
 ⟨by simp[h.len],fun i x y hx hy=>by rw[List.getElem?_drop] at hx hy;exact h.rel _ x y hx hy,fun i y hy=>by rw[List.getElem?_drop] at hy;exact h.one _ y hy⟩
theorem gB.vs (C:Ctx) (l:List Value) (h1:∀y∈l,y.oneCell'=true):gB C (l.map .v) l :=
 ⟨by simp,fun i x y hx hy=>by
  rw[List.getElem?_map,hy] at hx;simp at hx;subst hx;exact .v y,fun i y hy=>h1 y (List.mem_of_getElem? hy)⟩
theorem gB.single {C:Ctx} {x:AV} {y:Value} (h:cS C x y) (h1:y.oneCell'=true):gB C [x] [y] :=
 ⟨rfl,fun i a b ha hb=>by
  cases i with
  | zero=>simp at ha hb;subst ha;subst hb;exact h
  | succ i=>simp at ha,fun i b hb=>by
  cases i with
  | zero=>simp at hb;subst hb;exact h1
  | succ i=>simp at hb⟩
theorem Value.YO {y:Value} (h:y.oneCell'=true):y.cells=#[y]:=by
 cases y<;>first|rfl|(simp[Value.oneCell'] at h;done)
theorem cS.JP {C:Ctx} {x:AV} {y:Value} (h:cS C x y) (hs:x.jL=true) (hn:∀cs,x≠.agg cs):y.oneCell'=true:=by
 cases h with
 | v=>exact hs
 | agg cs a hl h h1=>exact absurd rfl (hn cs)
 | own s g hg ho=>exact ho
 | mp s g hg ho=>exact ho
 | eE cs a hl h=>simp[AV.jL] at hs
 | _=>rfl
theorem cS.cells {C:Ctx} {x:AV} {y:Value} (h:cS C x y) (hs:x.jL=true):gB C x.cells y.cells.toList:=by
 by_cases hn:∃cs,x=.agg cs
 ·obtain⟨cs,rfl⟩:=hn
  cases h with
  | agg cs a hl h h1=>exact⟨by simpa [AV.cells,Value.cells] using hl,fun i x y hx hy=>h i x y (by simpa [AV.cells] using hx) (by simpa [Value.cells] using hy),fun i y hy=>h1 i y (by simpa [Value.cells] using hy)⟩
 ·have Iw:∀cs,x≠.agg cs:=fun cs e=>hn ⟨cs,e⟩
  have h1:=h.JP hs Iw
  have hx:x.cells=[x]:=by
   cases x<;>first|rfl|exact absurd rfl (Iw _)
  rw[hx,Value.YO h1];exact .single h h1
def nX (w:World) (base e sz:Nat) (v:Value) (n:Nat) (xs:List Value):Prop :=
 xs.length=n * sz∧((∃p,v=.slice p 0 0∧n=0) ∨
  ∃g cap cur,v=.slice (some ⟨g,0,none⟩) n cap∧base≤g∧w.heap[g]? = some (.cells cur e (0,0))∧n≤cap∧cap≤maxLen∧cur.size=cap * sz∧cur.toList.take (n * sz)=xs∧0<cap)
theorem jY {a:Addr} {n cap:Nat} (h:0<cap):dD (.slice (some a) n cap)=some a.block:=by
 cases cap with
 | zero=>omega
 | succ c=>rfl
theorem pL (p:Option Addr) (n:Nat):dD (.slice p n 0)=none:=by cases p<;>rfl
theorem Ge {w:World} {base e sz:Nat} {v:Value} {n:Nat} {xs:List Value} (h:w.ownsRow base e sz v n xs):nX w base e sz v n xs:=by
 refine⟨h.1, ?_⟩
 rcases h.2 with ⟨rfl,rfl⟩|⟨g,cap,cur,rfl,h1,h2,h3,h4,h5,h6⟩
 ·exact .inl ⟨none,rfl,rfl⟩
 ·by_cases hc:cap=0
  ·subst hc;have:n=0:=by omega
   subst this;exact .inl ⟨_,rfl,rfl⟩
  ·exact .inr ⟨g,cap,cur,rfl,h1,h2,h3,h4,h5,h6,by omega⟩
theorem yE {w:World} {b b' e sz n:Nat} {v:Value} {xs:List Value} (h:nX w b e sz v n xs) (hb:b'≤b):nX w b' e sz v n xs :=
 ⟨h.1,h.2.imp id fun ⟨g,cap,cur,h1,h2,h3⟩=>⟨g,cap,cur,h1,Nat.le_trans hb h2,h3⟩⟩
theorem Cc {w:World} {base e sz n:Nat} {v:Value} {xs:List Value} (h:nX w base e sz v n xs):∀b,dD v=some b→base≤b∧b<w.heap.size:=by
 intro b hb;rcases h.2 with ⟨p,rfl,_⟩|⟨g,cap,cur,rfl,h1,h2,_,_,_,_,hc⟩
 ·rw[pL] at hb;cases hb
 ·rw[jY hc] at hb;simp only[Option.some.injEq] at hb;subst hb;exact⟨h1,(Array.getElem?_eq_some_iff.1 h2).1⟩
theorem sR {w:World} {base e sz n:Nat} {v:Value} {xs:List Value} (h:nX w base e sz v n xs):v.oneCell'=true:=by
 rcases h.2 with ⟨p,rfl,_⟩|⟨g,cap,cur,rfl,_⟩<;>rfl
theorem nX.kept {w w':World} {base e sz n:Nat} {v:Value} {xs:List Value} {row:Option Nat} (h:nX w base e sz v n xs) (hg:w.grownBy w' row) (gT:dD v=none∨dD v≠row):nX w' base e sz v n xs:=by
 refine⟨h.1, ?_⟩
 rcases h.2 with h|⟨g,cap,cur,rfl,h1,h2,h3,h4,h5,h6,hc⟩
 ·exact .inl h
 ·refine .inr ⟨g,cap,cur,rfl,h1, ?_,h3,h4,h5,h6,hc⟩
  rw[jY hc] at gT;rw[hg.block g (Array.getElem?_eq_some_iff.1 h2).1 (by rcases gT with h|h;cases h;exact h)]
  exact h2
def Uv (C:Ctx):List (AV × AV)→List MapEntry→Prop
 | [],[]=>True
 | p :: es,m :: ms=>cS C p.1 m.key∧cS C p.2 m.val∧Uv C es ms
 | _,_=>False
theorem Uv.le {C D:Ctx} (k:C.Le D):∀ {es:List (AV × AV)} {ms:List MapEntry},Uv C es ms→Uv D es ms
 | [],[],_=>trivial
 | _ :: _,_ :: _,h=>⟨h.1.le k,h.2.1.le k,Uv.le k h.2.2⟩
 | [],_ :: _,h=>h.elim
 | _ :: _,[],h=>h.elim
def nF (C:Ctx) (w:World) (base:Nat) (v:Value):nD→Prop
 | .cells cs=>∃b arr T,v=.pointer (some ⟨b,0,none⟩)∧base≤b∧w.heap[b]? = some (.cells arr T (0,0))∧gB C cs arr.toList
 | .row e sz n cs=>∃xs,nX w base e sz v n xs∧gB C cs xs
 | .map es=>∃b arr clock,v=.map (some b)∧base≤b∧w.heap[b]? = some (.map arr clock)∧Uv C es arr.toList
def ctx (h0:Nat→Obj→Prop) (w0:World) (ρ:Nat→Nat→Value) (st:St) (w:World):Ctx where
 h:=fun b o=>w.heap[b]? = some o∧(b<w0.heap.size→h0 b o)∧∀s g e,st.heap s g=some e→dD (ρ s g)≠some b
 ρ:=ρ
 aQ:=st.aQ
structure Gf where
 fr:AV→Value→Prop
 hb:Nat→Obj→Prop
 sz:Nat
def Gf.none:Gf:=⟨fun _ _=>False,fun _ _=>False,0⟩
structure kN (F:Gf) (h0:Nat→Obj→Prop) (w0:World) (nt:Nat) (ρ:Nat→Nat→Value) (st:St) (a:Act) (w:World):Prop where
 env:∀t,cS (ctx h0 w0 ρ st w) (st.env t) (a.tmps.getD t undef)
 sA:∀s g e,st.heap s g=some e→g<st.aQ s∧(ρ s g).oneCell'=true∧nF (ctx h0 w0 ρ st w) w w0.heap.size (ρ s g) e
 inj:∀s g s' g' e e' b,st.heap s g=some e→st.heap s' g'=some e'→dD (ρ s g)=some b→dD (ρ s' g')=some b→s=s'∧g=g'
 ext:w0.grownBy w none
 size:nt≤a.tmps.size
 defers:a.defers=[]
 Lz:(∀x v,F.fr x v→cS (ctx h0 w0 ρ st w) x v)∧(∀b o,F.hb b o→(ctx h0 w0 ρ st w).h b o)∧F.sz≤w.heap.size
section
variable {h0:Nat→Obj→Prop} {w0:World} {F:Gf} {nt:Nat} {ρ:Nat→Nat→Value} {st:St} {a:Act} {w:World}
theorem Tz (d:Option Nat) (x:AV):ctx h0 w0 ρ (st.put d x) w=ctx h0 w0 ρ st w:=by cases d<;>rfl
theorem Uw (d:Option Nat) (x:AV):(st.put d x).heap=st.heap:=by cases d<;>rfl
theorem JQ (st:St) (d:Nat) (x:nD) (s g:Nat):(st.new d x).heap s g=if s=d∧g=st.aQ d then some x else st.heap s g:=rfl
theorem YP (st:St) (s0 g0:Nat) (x:Option nD) (s g:Nat):(st.jM s0 g0 x).heap s g=if s=s0∧g=g0 then x else st.heap s g:=rfl
theorem WI (d:Option Nat) (x:AV):(st.put d x).aQ=st.aQ:=by cases d<;>rfl
theorem kN.put (S:kN F h0 w0 nt ρ st a w) (d:Option Nat) {x:AV} {v:Value} (hd:∀t,d=some t→t<nt) (h:cS (ctx h0 w0 ρ st w) x v) :
 kN F h0 w0 nt ρ (st.put d x) (a.put d v) w:=by
 refine⟨fun t=>?_,fun s g e he=>?_,fun s g s' g' e e' b he zS=>?_,S.ext, ?_, ?_,⟨fun x v h=>by rw[Tz];exact S.Lz.1 x v h,fun b o h=>by rw[Tz];exact S.Lz.2.1 b o h,S.Lz.2.2⟩⟩
 ·rw[Tz];cases d with
  | none=>exact S.env t
  | some d =>
    have bB:d<a.tmps.size:=Nat.lt_of_lt_of_le (hd d rfl) S.size
    simp only[St.put,Act.put];by_cases htd:t=d
    ·subst htd;rw[if_pos rfl];simp[bB]
     exact h
    ·rw[if_neg htd];have:(a.tmps.setIfInBounds d v).getD t undef=a.tmps.getD t undef:=by
      simp[Array.getElem?_setIfInBounds_ne (Ne.symm htd)]
     rw[this];exact S.env t
 ·rw[Uw] at he;rw[Tz,WI];exact S.sA s g e he
 ·rw[Uw] at he zS;exact S.inj s g s' g' e e' b he zS
 ·cases d<;>simp[Act.put,S.size]
 ·cases d<;>exact S.defers
theorem vU {w w1 w2:World} {r:Option Nat} (h:w.grownBy w1 none) (k:w1.grownBy w2 r) (hr:∀b,r=some b→w.heap.size≤b):w.grownBy w2 none :=
 ⟨k.os.trans h.os,k.tape.trans h.tape,k.output.trans h.output,Nat.le_trans h.size k.size,fun b hb _=>by
  rw[k.block b (Nat.lt_of_lt_of_le hb h.size) (fun e=>by have:=hr b e.symm;omega)]
  exact h.block b hb (by simp)⟩
theorem nF.world {C D:Ctx} {w w':World} {base:Nat} {v:Value} {e:nD} {r:Option Nat} (h:nF C w base v e) (k:C.Le D) (hg:w.grownBy w' r) (hr:dD v=none∨dD v≠r):nF D w' base v e:=by
 cases e with
 | cells cs =>
   obtain⟨b,arr,T,rfl,hb,hh,hc⟩:=h
   refine⟨b,arr,T,rfl,hb, ?_,hc.le k⟩
   have gT:some b≠r:=by
    rcases hr with hr|hr
    ·simp[dD] at hr
    ·simpa [dD] using hr
   rw[hg.block b (Array.getElem?_eq_some_iff.1 hh).1 gT];exact hh
 | row e sz n cs =>
   obtain⟨xs,ho,hc⟩:=h
   exact⟨xs,ho.kept hg hr,hc.le k⟩
 | map es =>
   obtain⟨b,arr,clock,rfl,hb,hh,hc⟩:=h
   refine⟨b,arr,clock,rfl,hb, ?_,hc.le k⟩
   have gT:some b≠r:=by
    rcases hr with hr|hr
    ·simp[dD] at hr
    ·simpa [dD] using hr
   rw[hg.block b (Array.getElem?_eq_some_iff.1 hh).1 gT];exact hh
theorem nF.QN {C:Ctx} {w:World} {base:Nat} {v:Value} {e:nD} (h:nF C w base v e):∀b,dD v=some b→base≤b∧b<w.heap.size:=by
 intro b hb;cases e with
 | cells cs =>
   obtain⟨b',arr,T,rfl,nP,hh,hc⟩:=h
   simp[dD] at hb;subst hb;exact⟨nP,(Array.getElem?_eq_some_iff.1 hh).1⟩
 | row e sz n cs =>
   obtain⟨xs,ho,hc⟩:=h
   exact Cc ho b hb
 | map es =>
   obtain⟨b',arr,clock,rfl,nP,hh,_⟩:=h
   simp[dD] at hb;subst hb;exact⟨nP,(Array.getElem?_eq_some_iff.1 hh).1⟩
theorem kN.grow (S:kN F h0 w0 nt ρ st a w) {w':World} (hg:w.grownBy w' none):kN F h0 w0 nt ρ st a w'∧(ctx h0 w0 ρ st w).Le (ctx h0 w0 ρ st w'):=by
 have k:(ctx h0 w0 ρ st w).Le (ctx h0 w0 ρ st w'):=⟨fun b o hb=>⟨by
  rw[hg.block b (Array.getElem?_eq_some_iff.1 hb.1).1 (by simp)];exact hb.1,hb.2.1,hb.2.2⟩,fun _=>Nat.le_refl _,fun _ _ _=>rfl⟩
 exact⟨⟨fun t=>(S.env t).le k,fun s g e he=>⟨(S.sA s g e he).1,(S.sA s g e he).2.1,(S.sA s g e he).2.2.world k hg (by cases dD (ρ s g)<;>simp)⟩,S.inj,vU S.ext hg (by simp),S.size,S.defers,⟨fun x v h=>(S.Lz.1 x v h).le k,fun b o h=>k.h b o (S.Lz.2.1 b o h),Nat.le_trans S.Lz.2.2 hg.size⟩⟩,k⟩
def tO (ρ:Nat→Nat→Value) (d g:Nat) (v:Value):Nat→Nat→Value:=fun s' g'=>if s'=d∧g'=g then v else ρ s' g'
theorem jO (S:kN F h0 w0 nt ρ st a w) {s g:Nat} {e:nD} (he:st.heap s g=some e) {b:Nat} (hb:w.heap.size≤b):dD (ρ s g)≠some b:=by
 intro h;have:=((S.sA s g e he).2.2.QN b h).2
 omega
def Ey (ρ:Nat→Nat→Value) (d c:Nat) (vs:List Value):Nat→Nat→Value:=fun s' g'=>if s'=d∧c≤g'∧g' - c<vs.length then vs.getD (g' - c) undef else ρ s' g'
theorem kN.news (S:kN F h0 w0 nt ρ st a w) {w':World} (hg:w.grownBy w' none) (d:Nat) (xs:List nD) (vs:List Value) (hl:xs.length=vs.length) (h1:∀v∈vs,v.oneCell'=true)
 (yF:∀v∈vs,∀b,dD v=some b→w.heap.size≤b)
 (hinj:∀(i j:Nat) (x y:Value) (b:Nat),vs[i]? = some x→vs[j]? = some y→dD x=some b→dD y=some b→i=j)
 (hx:∀C,(ctx h0 w0 ρ st w).Le C→(∀b o,w.heap.size≤b→w'.heap[b]? = some o→(∀v∈vs,dD v≠some b)→C.h b o) →
  (∀(i:Nat) (x:Value),vs[i]? = some x→st.aQ d+i<C.aQ d∧C.ρ d (st.aQ d+i)=x)→∀(i:Nat) (e:nD) (x:Value),xs[i]? = some e→vs[i]? = some x→nF C w' w0.heap.size x e) :
 kN F h0 w0 nt (Ey ρ d (st.aQ d) vs) (st.news d xs) a w'∧(ctx h0 w0 ρ st w).Le (ctx h0 w0 (Ey ρ d (st.aQ d) vs) (st.news d xs) w') ∧
  (∀b o,w.heap.size≤b→w'.heap[b]? = some o→(∀v∈vs,dD v≠some b)→(ctx h0 w0 (Ey ρ d (st.aQ d) vs) (st.news d xs) w').h b o) ∧
  (∀(i:Nat) (x:Value),vs[i]? = some x→st.aQ d+i<(st.news d xs).aQ d∧Ey ρ d (st.aQ d) vs d (st.aQ d+i)=x):=by
 have hold:∀s g,g<st.aQ s→Ey ρ d (st.aQ d) vs s g=ρ s g:=fun s g bB=>by
  unfold Ey;rw[if_neg];rintro⟨rfl,h,_⟩
  omega
 have hcd:(st.news d xs).aQ d=st.aQ d+xs.length:=by simp[St.news]
 have oS:∀(i:Nat) (x:Value),vs[i]? = some x→st.aQ d+i<(st.news d xs).aQ d∧Ey ρ d (st.aQ d) vs d (st.aQ d+i)=x:=fun i x hi=>by
  have bB:i<vs.length:=(List.getElem?_eq_some_iff.1 hi).1
  refine⟨by rw[hcd];omega, ?_⟩
  unfold Ey;rw[if_pos ⟨rfl,by omega,by omega⟩,show st.aQ d+i-st.aQ d=i by omega]
  simp[List.getD_eq_getElem?_getD,hi]
 have Jl:∀s g e,(st.news d xs).heap s g=some e→(∃i x,s=d∧g=st.aQ d+i∧xs[i]? = some e∧vs[i]? = some x)∨st.heap s g=some e:=fun s g e he=>by
  simp only[St.news] at he;split at he
  ·rename_i hc;obtain⟨rfl,c1,c2⟩:=hc
   exact .inl ⟨g-st.aQ s,vs[g-st.aQ s]'(by omega),rfl,by omega,he,by simp⟩
  ·exact .inr he
 have k:(ctx h0 w0 ρ st w).Le (ctx h0 w0 (Ey ρ d (st.aQ d) vs) (st.news d xs) w'):=by
  refine⟨fun b o hb=>⟨?_,hb.2.1,fun s g e he=>?_⟩,fun s=>?_,hold⟩
  ·rw[hg.block b (Array.getElem?_eq_some_iff.1 hb.1).1 (by simp)];exact hb.1
  ·rcases Jl s g e he with ⟨i,x,rfl,rfl,_,hi⟩|he
   ·rw[(oS i x hi).2];intro hbv;have:=yF x (List.mem_of_getElem? hi) b hbv
    have:=(Array.getElem?_eq_some_iff.1 hb.1).1
    omega
   ·rw[hold s g (S.sA s g e he).1];exact hb.2.2 s g e he
  ·simp only[ctx,St.news];split
   ·rename_i h;subst h;omega
   ·exact Nat.le_refl _
 have hh:∀b o,w.heap.size≤b→w'.heap[b]? = some o→(∀v∈vs,dD v≠some b)→(ctx h0 w0 (Ey ρ d (st.aQ d) vs) (st.news d xs) w').h b o:=fun b o hb ho gT =>
  ⟨ho,fun bB=>by have:=S.ext.size;omega,fun s g e he=>by
   rcases Jl s g e he with ⟨i,x,rfl,rfl,_,hi⟩|he
   ·rw[(oS i x hi).2];exact gT x (List.mem_of_getElem? hi)
   ·rw[hold s g (S.sA s g e he).1];exact jO S he hb⟩
 refine⟨⟨fun t=>(S.env t).le k,fun s g e he=>?_,fun s g s' g' e e' b he zS hb nP=>?_,vU S.ext hg (by simp),S.size,S.defers,⟨fun x v h=>(S.Lz.1 x v h).le k,fun b o h=>k.h b o (S.Lz.2.1 b o h),Nat.le_trans S.Lz.2.2 hg.size⟩⟩,k,hh,oS⟩
 ·rcases Jl s g e he with ⟨i,x,rfl,rfl,hxi,hi⟩|he
  ·refine⟨(oS i x hi).1,by rw[(oS i x hi).2];exact h1 x (List.mem_of_getElem? hi), ?_⟩
   rw[(oS i x hi).2];exact hx _ k hh oS i e x hxi hi
  ·obtain⟨e1,e2,e3⟩:=S.sA s g e he
   refine⟨by simp only[St.news];split<;>(try subst_vars)<;>omega,by rw[hold s g e1];exact e2, ?_⟩
   rw[hold s g e1];exact e3.world k hg (by cases dD (ρ s g)<;>simp)
 ·rcases Jl s g e he with ⟨i,x,rfl,rfl,_,hi⟩|hq<;>rcases Jl s' g' e' zS with ⟨j,y,rfl,rfl,_,hj⟩|hq'
  ·rw[(oS i x hi).2] at hb;rw[(oS j y hj).2] at nP
   exact⟨rfl,by rw[hinj i j x y b hi hj hb nP]⟩
  ·rw[(oS i x hi).2] at hb;rw[hold s' g' (S.sA s' g' e' hq').1] at nP
   exact absurd nP (jO S hq' (yF x (List.mem_of_getElem? hi) b hb))
  ·rw[(oS j y hj).2] at nP
   rw[hold s g (S.sA s g e hq).1] at hb;exact absurd hb (jO S hq (yF y (List.mem_of_getElem? hj) b nP))
  ·rw[hold s g (S.sA s g e hq).1] at hb;rw[hold s' g' (S.sA s' g' e' hq').1] at nP
   exact S.inj s g s' g' e e' b hq hq' hb nP
theorem Ux (st:St) (d:Nat) (e:nD):st.news d [e]=st.new d e:=by
 unfold St.news St.new;congr 1
 funext s g
 by_cases h:s=d∧g=st.aQ d
 ·obtain⟨rfl,rfl⟩:=h
  simp
 ·rw[if_neg h];split
  ·rename_i hc;exact absurd ⟨hc.1,by simp at hc;omega⟩ h
  ·rfl
theorem kN.new (S:kN F h0 w0 nt ρ st a w) {w':World} (hg:w.grownBy w' none) (d:Nat) (x:nD) (v:Value) (h1:v.oneCell'=true)
 (yF:∀b,dD v=some b→w.heap.size≤b)
 (hx:∀C,(ctx h0 w0 ρ st w).Le C→(∀b o,w.heap.size≤b→w'.heap[b]? = some o→dD v≠some b→C.h b o)→nF C w' w0.heap.size v x) :
 kN F h0 w0 nt (tO ρ d (st.aQ d) v) (st.new d x) a w'∧(ctx h0 w0 ρ st w).Le (ctx h0 w0 (tO ρ d (st.aQ d) v) (st.new d x) w')∧tO ρ d (st.aQ d) v d (st.aQ d)=v:=by
 have hold:∀s g,g<st.aQ s→tO ρ d (st.aQ d) v s g=ρ s g:=fun s g bB=>by
  unfold tO;rw[if_neg];rintro⟨rfl,rfl⟩
  omega
 have oS:tO ρ d (st.aQ d) v d (st.aQ d)=v:=by simp[tO]
 have k:(ctx h0 w0 ρ st w).Le (ctx h0 w0 (tO ρ d (st.aQ d) v) (st.new d x) w'):=by
  refine⟨fun b o hb=>⟨?_,hb.2.1,fun s g e he=>?_⟩,fun s=>?_,hold⟩
  ·rw[hg.block b (Array.getElem?_eq_some_iff.1 hb.1).1 (by simp)];exact hb.1
  ·simp only[St.new] at he;split at he
   ·rename_i hsg;obtain⟨rfl,rfl⟩:=hsg
    rw[oS];intro hbv;have:=yF b hbv
    have:=(Array.getElem?_eq_some_iff.1 hb.1).1
    omega
   ·rw[hold s g (S.sA s g e he).1];exact hb.2.2 s g e he
  ·simp only[ctx,St.new];split
   ·rename_i h;subst h;omega
   ·exact Nat.le_refl _
 refine⟨⟨fun t=>(S.env t).le k,fun s g e he=>?_,fun s g s' g' e e' b he zS hb nP=>?_,vU S.ext hg (by simp),S.size,S.defers,⟨fun x v h=>(S.Lz.1 x v h).le k,fun b o h=>k.h b o (S.Lz.2.1 b o h),Nat.le_trans S.Lz.2.2 hg.size⟩⟩,k,oS⟩
 ·simp only[St.new] at he;split at he
  ·rename_i hsg;obtain⟨rfl,rfl⟩:=hsg
   cases he
   refine⟨by simp[St.new],by rw[oS];exact h1, ?_⟩
   rw[oS];refine hx _ k fun b o hb ho gT=>⟨ho,fun bB=>by have:=S.ext.size;omega,fun s2 g2 e2 he2=>?_⟩
   rw[JQ] at he2;by_cases hsg:s2=s∧g2=st.aQ s
   ·obtain⟨rfl,rfl⟩:=hsg
    rw[oS];exact gT
   ·rw[if_neg hsg] at he2;rw[hold s2 g2 (S.sA s2 g2 e2 he2).1];exact jO S he2 hb
  ·obtain⟨e1,e2,e3⟩:=S.sA s g e he
   refine⟨by simp only[St.new];split<;>(try subst_vars)<;>omega,by rw[hold s g e1];exact e2, ?_⟩
   rw[hold s g e1];exact e3.world k hg (by cases dD (ρ s g)<;>simp)
 ·simp only[St.new] at he zS
  split at he
  ·rename_i hsg;obtain⟨rfl,rfl⟩:=hsg
   split at zS
   ·rename_i aAW;exact⟨aAW.1.symm,aAW.2.symm⟩
   ·rw[oS] at hb;rw[hold s' g' (S.sA s' g' e' zS).1] at nP
    exact absurd nP (jO S zS (yF b hb))
  ·split at zS
   ·rename_i aAW
    obtain⟨rfl,rfl⟩:=aAW
    rw[oS] at nP
    rw[hold s g (S.sA s g e he).1] at hb;exact absurd hb (jO S he (yF b nP))
   ·rw[hold s g (S.sA s g e he).1] at hb;rw[hold s' g' (S.sA s' g' e' zS).1] at nP
    exact S.inj s g s' g' e e' b he zS hb nP
theorem kN.G8 (S:kN F h0 w0 nt ρ st a w) {s g:Nat} {e e':nD} (he:st.heap s g=some e) {w':World} (hg:w.grownBy w' (dD (ρ s g)))
 (hx:∀C,(ctx h0 w0 ρ st w).Le C→nF C w' w0.heap.size (ρ s g) e') :
 kN F h0 w0 nt ρ (st.jM s g (some e')) a w':=by
 have k:(ctx h0 w0 ρ st w).Le (ctx h0 w0 ρ (st.jM s g (some e')) w'):=by
  refine⟨fun b' o nP=>⟨?_,nP.2.1,fun s' g' e'' h=>?_⟩,fun _=>Nat.le_refl _,fun _ _ _=>rfl⟩
  ·rw[hg.block b' (Array.getElem?_eq_some_iff.1 nP.1).1 (fun h=>nP.2.2 s g e he h.symm)];exact nP.1
  ·simp only[St.jM] at h;split at h
   ·rename_i h';obtain⟨rfl,rfl⟩:=h';exact nP.2.2 _ _ e he
   ·exact nP.2.2 _ _ _ h
 refine⟨fun t=>(S.env t).le k,fun s' g' x h=>?_,fun s1 g1 s2 g2 e1 e2 b' h1 h2 RA WJ=>?_,vU S.ext hg (fun b hb=>((S.sA s g e he).2.2.QN b hb).1),S.size,S.defers,⟨fun x v h=>(S.Lz.1 x v h).le k,fun b o h=>k.h b o (S.Lz.2.1 b o h),Nat.le_trans S.Lz.2.2 hg.size⟩⟩
 ·simp only[St.jM] at h;split at h
  ·rename_i h'
   obtain⟨rfl,rfl⟩:=h'
   cases h
   exact⟨(S.sA _ _ e he).1,(S.sA _ _ e he).2.1,hx _ k⟩
  ·rename_i h'
   obtain⟨x1,x2,x3⟩:=S.sA _ _ _ h
   refine⟨x1,x2,x3.world k hg ?_⟩
   cases wL:dD (ρ s' g') with
   | none=>exact .inl rfl
   | some b =>
     right
     intro hq;exact h' (S.inj _ _ _ _ _ _ b h he wL hq.symm)
 ·have old:∀s1 g1 e1,(st.jM s g (some e')).heap s1 g1=some e1→∃e2,st.heap s1 g1=some e2:=fun s1 g1 e1 h=>by
   simp only[St.jM] at h;split at h
   ·rename_i h';obtain⟨rfl,rfl⟩:=h';exact⟨e,he⟩
   ·exact⟨_,h⟩
  obtain⟨x1,y1⟩:=old _ _ _ h1
  obtain⟨x2,y2⟩:=old _ _ _ h2
  exact S.inj _ _ _ _ _ _ b' y1 y2 RA WJ
theorem kN.store (S:kN F h0 w0 nt ρ st a w) {s g b:Nat} {e e':nD} (he:st.heap s g=some e) (hb:dD (ρ s g)=some b) {w':World} (hg:w.grownBy w' (some b))
 (hx:∀C,(ctx h0 w0 ρ st w).Le C→nF C w' w0.heap.size (ρ s g) e') :
 kN F h0 w0 nt ρ (st.jM s g (some e')) a w':=S.G8 he (by rw[hb];exact hg) hx
theorem kN.G9 (S:kN F h0 w0 nt ρ st a w) {s g:Nat} {e:nD} (he:st.heap s g=some e) {w':World} (hg:w.grownBy w' (dD (ρ s g))) (d:Nat) (x:nD) (v:Value) (h1:v.oneCell'=true)
 (yF:∀b,dD v=some b→dD (ρ s g)=some b∨w.heap.size≤b)
 (hx:∀C,(ctx h0 w0 ρ st w).Le C→nF C w' w0.heap.size v x) :
 kN F h0 w0 nt (tO ρ d (st.aQ d) v) ((st.jM s g none).new d x) a w'∧(ctx h0 w0 ρ st w).Le (ctx h0 w0 (tO ρ d (st.aQ d) v) ((st.jM s g none).new d x) w')∧tO ρ d (st.aQ d) v d (st.aQ d)=v:=by
 have hlo:∀b,dD (ρ s g)=some b→w0.heap.size≤b:=fun b hb=>((S.sA s g e he).2.2.QN b hb).1
 have hold:∀s g,g<st.aQ s→tO ρ d (st.aQ d) v s g=ρ s g:=fun s g bB=>by
  unfold tO;rw[if_neg];rintro⟨rfl,rfl⟩
  omega
 have oS:tO ρ d (st.aQ d) v d (st.aQ d)=v:=by simp[tO]
 have Jl:∀s1 g1 e1,((st.jM s g none).new d x).heap s1 g1=some e1→(s1=d∧g1=st.aQ d∧e1=x)∨(st.heap s1 g1=some e1∧¬(s1=s∧g1=g)):=fun s1 g1 e1 h=>by
  rw[JQ] at h;by_cases c1:s1=d∧g1=(st.jM s g none).aQ d
  ·rw[if_pos c1] at h;cases h;exact .inl ⟨c1.1,c1.2,rfl⟩
  ·rw[if_neg c1,YP] at h;by_cases c2:s1=s∧g1=g
   ·rw[if_pos c2] at h;cases h
   ·rw[if_neg c2] at h;exact .inr ⟨h,c2⟩
 have k:(ctx h0 w0 ρ st w).Le (ctx h0 w0 (tO ρ d (st.aQ d) v) ((st.jM s g none).new d x) w'):=by
  refine⟨fun b o hb=>⟨?_,hb.2.1,fun s1 g1 e1 h=>?_⟩,fun s=>?_,hold⟩
  ·rw[hg.block b (Array.getElem?_eq_some_iff.1 hb.1).1 (fun h=>hb.2.2 s g e he h.symm)];exact hb.1
  ·rcases Jl _ _ _ h with ⟨rfl,rfl,rfl⟩|⟨h,_⟩
   ·rw[oS];intro hbv;rcases yF b hbv with h'|h'
    ·exact hb.2.2 s g e he h'
    ·have:=(Array.getElem?_eq_some_iff.1 hb.1).1
     omega
   ·rw[hold _ _ (S.sA _ _ _ h).1];exact hb.2.2 _ _ _ h
  ·simp only[ctx,St.new,St.jM];split
   ·rename_i h;subst h;omega
   ·exact Nat.le_refl _
 refine⟨⟨fun t=>(S.env t).le k,fun s1 g1 e1 h=>?_,fun s1 g1 s2 g2 e1 e2 b CG h2' RA WJ=>?_,vU S.ext hg hlo,S.size,S.defers,⟨fun x v h=>(S.Lz.1 x v h).le k,fun b o h=>k.h b o (S.Lz.2.1 b o h),Nat.le_trans S.Lz.2.2 hg.size⟩⟩,k,oS⟩
 ·rcases Jl _ _ _ h with ⟨rfl,rfl,rfl⟩|⟨h,hn⟩
  ·refine⟨by simp[St.new,St.jM],by rw[oS];exact h1, ?_⟩
   rw[oS];exact hx _ k
  ·obtain⟨x1,x2,x3⟩:=S.sA _ _ _ h
   refine⟨by simp only[St.new,St.jM];split<;>(try subst_vars)<;>omega,by rw[hold _ _ x1];exact x2, ?_⟩
   rw[hold _ _ x1];refine x3.world k hg ?_
   cases wL:dD (ρ s1 g1) with
   | none=>exact .inl rfl
   | some b1 =>
     right
     intro heq;exact hn (S.inj _ _ _ _ _ _ b1 h he wL heq.symm)
 ·rcases Jl _ _ _ CG with ⟨rfl,rfl,rfl⟩|⟨h1,n1⟩<;>rcases Jl _ _ _ h2' with ⟨rfl,rfl,rfl⟩|⟨h2,n2⟩<;>clear CG h2'
  ·exact⟨rfl,rfl⟩
  ·rw[oS] at RA;rw[hold _ _ (S.sA _ _ _ h2).1] at WJ;rcases yF b RA with h'|h'
   ·exact absurd (S.inj _ _ _ _ _ _ b h2 he WJ h') n2
   ·exact absurd WJ (jO S h2 h')
  ·rw[oS] at WJ;rw[hold _ _ (S.sA _ _ _ h1).1] at RA;rcases yF b WJ with h'|h'
   ·exact absurd (S.inj _ _ _ _ _ _ b h1 he RA h') n1
   ·exact absurd RA (jO S h1 h')
  ·rw[hold _ _ (S.sA _ _ _ h1).1] at RA;rw[hold _ _ (S.sA _ _ _ h2).1] at WJ;exact S.inj _ _ _ _ _ _ b h1 h2 RA WJ
end
end Go.Ab
end
section
namespace Go.Ab
open Classical
def gC:List Bool→List Value→List Value→Prop
 | [],[],[]=>True
 | true :: l,.int k _ :: xs,.int k' _ :: ys=>k=k'∧gC l xs ys
 | false :: l,.bool _ :: xs,.bool _ :: ys=>gC l xs ys
 | _,_,_=>False
theorem Cd:∀(l:List Bool) (xs ys:List AV),gY l xs ys→∃us vs,xs=us.map .v∧ys=vs.map .v∧gC l us vs
 | [],[],[],_=>⟨[],[],rfl,rfl,trivial⟩
 | true :: l,.v (.int k a) :: xs,.v (.int k' b) :: ys,h=>by
   obtain⟨us,vs,rfl,rfl,h'⟩:=Cd l xs ys h.2
   exact⟨.int k a :: us,.int k' b :: vs,rfl,rfl,h.1,h'⟩
 | false :: l,.v (.bool a) :: xs,.v (.bool b) :: ys,h=>by
   obtain⟨us,vs,rfl,rfl,h'⟩:=Cd l xs ys h
   exact⟨.bool a :: us,.bool b :: vs,rfl,rfl,h'⟩
theorem lJ:∀(l:List Bool) (us vs:List Value),gC l us vs→us.length=l.length∧vs.length=l.length
 | [],[],[],_=>⟨rfl,rfl⟩
 | true :: l,.int k a :: xs,.int k' b :: ys,h=>by have:=lJ l xs ys h.2;simp[this.1,this.2]
 | false :: l,.bool a :: xs,.bool b :: ys,h=>by have:=lJ l xs ys h;simp[this.1,this.2]
theorem Uy (l m:List Bool):∀(us vs:List Value),gC (l++m) us vs→gC l (us.take l.length) (vs.take l.length)∧gC m (us.drop l.length) (vs.drop l.length):=by
 induction l with
 | nil=>intro us vs h;simpa [gC] using h
 | cons b l ih =>
   intro us vs h;cases b<;>cases us with
   | nil=>simp[gC] at h
   | cons u us=>cases vs with
     | nil=>cases u<;>simp[gC] at h
     | cons v vs=>cases u<;>cases v<;>simp[gC] at h<;>(have:=ih us vs (by first|exact h|exact h.2);simp[gC,this.1,this.2])<;>(try exact h.1)
def mk (agg:Bool) (us:List Value):Value:=if agg=true then .agg us.toArray else us.headD undef
section
variable {P:Program} (w:World)
theorem Hz {t:Nat} {d:TypeDesc} (h:P.underlying t=some d):(isAgg t).run P w=.ok (cZ P t) w:=by
 simp only[isAgg,underlying,Sem.run_bind,run_program,Result.andThen_ok,h,Sem.run_pure,cZ];cases d<;>rfl
theorem run_sizeOf {t:Nat} {i:TypeInfo} (h:P.info? t=some i):(sizeOf t).run P w=.ok i.size w:=by
 simp[sizeOf,typeInfo,h]
theorem Bd {t:Nat} {i:TypeInfo} {z:Value} (h:P.info? t=some i) (hz:i.zero=some z):(zeroValue t).run P w=.ok z w:=by
 simp[zeroValue,typeInfo,h,hz]
theorem qU {t:Nat} {i:TypeInfo} (h:P.info? t=some i):P.cellsOf t=i.size:=by simp[Program.cellsOf,h]
theorem Gg {t:Nat} {d:TypeDesc} {i:TypeInfo} (h:P.underlying t=some d) (hi:P.info? t=some i) (us:List Value) (off:Nat) (h1:cZ P t=false→i.size=1) (hl:off+i.size≤us.length) :
 (part t us.toArray off).run P w=.ok (mk (cZ P t) ((us.drop off).take i.size)) w:=by
 unfold part;simp only[Sem.run_bind,Hz w h,Result.andThen_ok];cases hb:cZ P t with
 | true =>
   simp only[if_true,Sem.run_bind,run_sizeOf w hi,Result.andThen_ok,Sem.run_pure,mk];congr 2
   simp[List.take_drop]
 | false =>
   have:=h1 hb
   have bB:off<us.length:=by omega
   simp[bB,mk,this,List.take_one]
theorem nY:∀(d t:Nat) (m:List Bool),eX P d t=some m→cZ P t=false→m.length=1
 | 0,_,_,h,_=>by simp[eX] at h
 | d+1,t,m,h,hp=>by
   unfold eX at h;unfold cZ at hp;cases hu:P.underlying t with
   | none=>simp[hu] at h
   | some k=>cases k<;>simp[hu] at h hp<;>(subst h;rfl)
theorem Sw {t:Nat} {k:TypeDesc} (h:P.underlying t=some k):∃i,P.info? t=some i:=info_of_underlying h
theorem wX:∀(d t:Nat) (m:List Bool),eX P d t=some m→∃k,P.underlying t=some k
 | 0,_,_,h=>by simp[eX] at h
 | d+1,t,m,h=>by
   unfold eX at h;cases hu:P.underlying t with
   | none=>simp[hu] at h
   | some k=>exact⟨k,rfl⟩
def Ua (P:Program) (dd d:Nat):Prop :=
 ∀(w:World) (t:Nat) (m:List Bool),eX P d t=some m→∀us vs,gC m us vs →
  (Op.equalIn dd t (mk (cZ P t) us) (mk (cZ P t) vs)).run P w=.ok (decide (us=vs)) w
theorem WK {dd d:Nat} (IH:Ua P dd d) {t:Nat} {m:List Bool} (hm:eX P d t=some m) (hc:P.cellsOf t=m.length) {us vs:List Value} {off:Nat}
 (hl:gC m ((us.drop off).take m.length) ((vs.drop off).take m.length)) :
 ∃a b,(part t us.toArray off).run P w=.ok a w∧(part t vs.toArray off).run P w=.ok b w∧(Op.equalIn dd t a b).run P w=.ok (decide ((us.drop off).take m.length=(vs.drop off).take m.length)) w:=by
 obtain⟨k,hk⟩:=wX d t m hm
 obtain⟨i,hi⟩:=Sw hk
 have hs:i.size=m.length:=by rw[← hc,qU hi]
 have h1:cZ P t=false→i.size=1:=fun h=>by rw[hs];exact nY d t m hm h
 have lens:=lJ _ _ _ hl
 simp only[List.length_take,List.length_drop] at lens;by_cases hz:m.length=0
 ·have kP:cZ P t=true:=by
   cases h:cZ P t with
   | true=>rfl
   | false=>have:=h1 h;omega
  refine⟨.agg #[],.agg #[], ?_, ?_, ?_⟩
  ·simp[part,Hz w hk,kP,run_sizeOf w hi,hs,hz]
  ·simp[part,Hz w hk,kP,run_sizeOf w hi,hs,hz]
  ·have:=IH w t m hm _ _ hl
   rw[kP] at this;simpa [mk,hz] using this
 ·have e1:=Gg w hk hi us off h1 (by omega)
  have e2:=Gg w hk hi vs off h1 (by omega)
  refine⟨_,_,e1,e2, ?_⟩
  have:=IH w t m hm _ _ hl
  rw[hs];exact this
theorem Dn (us:List Value) (off n:Nat):us.drop off=(us.drop off).take n++us.drop (off+n):=by
 rw[← List.drop_drop,List.take_append_drop]
theorem Gh {dd d:Nat} (IH:Ua P dd d) (us vs:List Value):∀(fs:List Field) (off:Nat) (l:List Bool),Hy P (eX P d) fs off=some l →
 gC l (us.drop off) (vs.drop off)→(Op.eqFields dd us.toArray vs.toArray fs).run P w=.ok (decide (us.drop off=vs.drop off)) w
 | [],off,l,hl,hv=>by
   simp[Hy] at hl
   subst hl;have:=lJ _ _ _ hv
   rw[List.length_eq_zero_iff.1 this.1,List.length_eq_zero_iff.1 this.2];simp[Op.eqFields]
 | f :: fs,off,l,hl,hv=>by
   unfold Hy at hl;cases hm:eX P d f.type with
   | none=>simp[hm] at hl
   | some m =>
     simp only[hm] at hl;split at hl
     ·rename_i hc;obtain⟨c1,c2,c3,c4⟩:=hc
      cases hr:Hy P (eX P d) fs (off+m.length) with
      | none=>simp[hr] at hl
      | some l' =>
        simp[hr] at hl
        subst hl;obtain⟨v1,v2⟩:=Uy m l' _ _ hv
        rw[List.drop_drop,List.drop_drop] at v2;obtain⟨a,b,p1,p2,p3⟩:=WK w IH hm c3 v1
        have ih:=Gh IH us vs fs (off+m.length) l' hr v2
        subst c2;simp only[Op.eqFields,c1,ne_eq,not_false_eq_true,if_true,Sem.run_bind,p1,p2,p3,Result.andThen_ok];have iff:(us.drop f.offset=vs.drop f.offset)↔((us.drop f.offset).take m.length=(vs.drop f.offset).take m.length∧us.drop (f.offset+m.length)=vs.drop (f.offset+m.length)):=by
         constructor
         ·intro h;refine⟨by rw[h], ?_⟩
          rw[← List.drop_drop,← List.drop_drop,h]
         ·rintro⟨h,k⟩
          rw[Dn us f.offset m.length,Dn vs f.offset m.length,h,k]
        by_cases h:(us.drop f.offset).take m.length=(vs.drop f.offset).take m.length
        ·simp[h,ih,iff]
        ·simp[h,iff]
     ·cases hl
theorem Jm {dd d:Nat} (IH:Ua P dd d) {e:Nat} {m:List Bool} (hm:eX P d e=some m) (hc:P.cellsOf e=m.length) (us vs:List Value):∀(n k:Nat),
 gC ((List.range n).flatMap fun _=>m) (us.drop (k * m.length)) (vs.drop (k * m.length)) →
 (Op.eqItems dd e m.length us.toArray vs.toArray ((List.range n).map (k + ·))).run P w=.ok (decide (us.drop (k * m.length)=vs.drop (k * m.length))) w
 | 0,k,hv=>by
   have:=lJ _ _ _ hv
   simp only[List.range_zero,List.flatMap_nil,List.length_nil] at this;rw[List.length_eq_zero_iff.1 this.1,List.length_eq_zero_iff.1 this.2];simp[Op.eqItems]
 | n+1,k,hv=>by
   rw[List.range_succ_eq_map] at hv ⊢;simp only[List.flatMap_cons,List.flatMap_map] at hv;obtain⟨v1,v2⟩:=Uy m _ _ _ hv
   rw[List.drop_drop,List.drop_drop,show k * m.length+m.length=(k+1) * m.length by rw[Nat.add_mul];omega] at v2
   obtain⟨a,b,p1,p2,p3⟩:=WK w IH hm hc v1
   have ih:=Jm IH hm hc us vs n (k+1) v2
   simp only[List.map_cons,Nat.add_zero,List.map_map,Op.eqItems,Sem.run_bind,p1,p2,p3,Result.andThen_ok];have hmap:(List.range n).map ((k + ·) ∘ Nat.succ)=(List.range n).map (k+1 + ·):=by
    apply List.map_congr_left
    intro x _;simp only[Function.comp];omega
   rw[hmap];have iff:(us.drop (k * m.length)=vs.drop (k * m.length))↔((us.drop (k * m.length)).take m.length=(vs.drop (k * m.length)).take m.length∧us.drop ((k+1) * m.length)=vs.drop ((k+1) * m.length)):=by
    rw[show (k+1) * m.length=k * m.length+m.length by rw[Nat.add_mul];omega]
    constructor
    ·intro h;refine⟨by rw[h], ?_⟩
     rw[← List.drop_drop,← List.drop_drop,h]
    ·rintro⟨h,k'⟩
     rw[Dn us _ m.length,Dn vs _ m.length,h,k']
   by_cases h:(us.drop (k * m.length)).take m.length=(vs.drop (k * m.length)).take m.length
   ·simp[h,ih,iff]
   ·simp[h,iff]
theorem Be:∀(d dd:Nat),d≤dd→Ua P dd d
 | 0,_,_=>fun w t m hm=>by simp[eX] at hm
 | d+1,0,h=>absurd h (by omega)
 | d+1,dd+1,h=>by
   intro w t m hm us vs hv;have IH:=Be d dd (by omega)
   unfold eX at hm;cases hu:P.underlying t with
   | none=>simp[hu] at hm
   | some k =>
     cases k<;>simp only[hu] at hm<;>(try (cases hm;done))
     case bool =>
      cases hm
      have kP:cZ P t=false:=by simp[cZ,hu]
      cases us with
      | nil=>simp[gC] at hv
      | cons u us=>cases vs with
        | nil=>cases u<;>simp[gC] at hv
        | cons v vs =>
          cases u<;>cases v<;>simp[gC] at hv
          cases us<;>cases vs<;>simp[gC] at hv
          rename_i a b;simp[kP,mk,run_equalIn_bool' w dd t a b hu]
          rw[Bool.eq_iff_iff];simp
     case int q =>
      cases hm
      have kP:cZ P t=false:=by simp[cZ,hu]
      cases us with
      | nil=>simp[gC] at hv
      | cons u us=>cases vs with
        | nil=>cases u<;>simp[gC] at hv
        | cons v vs =>
          cases u<;>cases v<;>simp[gC] at hv
          cases us<;>cases vs<;>simp[gC] at hv
          rename_i k1 a k2 b;subst hv;simp[kP,mk,run_equalIn_int w dd t k1 q a b hu]
          rw[Bool.eq_iff_iff];simp
     case struct fs =>
      have kP:cZ P t=true:=by simp[cZ,hu]
      split at hm
      ·cases hm
      ·rename_i xG;have WL:P.fieldsOf t=fs:=by simp[Program.fieldsOf,hu]
       rw[kP];simp only[mk,if_true];rw[run_equalIn_struct w dd t _ _ (by rw[WL];exact hu) (by simpa using xG),WL]
       have:=Gh w IH us vs fs.toList 0 m hm (by simpa using hv)
       simpa using this
     case array n e =>
      have kP:cZ P t=true:=by simp[cZ,hu]
      cases hm':eX P d e with
      | none=>simp[hm'] at hm
      | some l =>
        simp only[hm'] at hm;split at hm
        ·rename_i hc;cases hm
         obtain⟨i,hi⟩:=Option.isSome_iff_exists.1 hc.2
         rw[kP];simp only[mk,if_true];rw[run_equalIn_array w dd _ _ hu hi];have:=Jm w IH hm' hc.1 us vs n 0 (by simpa using hv)
         rw[hc.1];simpa using this
        ·cases hm
end
end Go.Ab
end
section
namespace Go.Ab
open Classical
section
variable {P:Program} {h0:Nat→Obj→Prop} {w0:World} {F:Gf} {nt:Nat} {ρ:Nat→Nat→Value} {st:St} {a:Act} {w:World}
theorem kN.ev (S:kN F h0 w0 nt ρ st a w) (x:Operand):cS (ctx h0 w0 ρ st w) (st.ev x) (a.eval x):=by
 cases x with
 | tmp t=>exact S.env t
 | const v=>exact .v v
 | global g=>exact .v _
 | func f=>exact .v _
theorem iI {C:Ctx} {x y:Value} (h:cS C (.v x) y):y=x:=by cases h;rfl
theorem CH (us vs:List Value):us.map AV.v=vs.map AV.v↔us=vs:=by
 constructor
 ·intro h;induction us generalizing vs with
  | nil=>cases vs with
    | nil=>rfl
    | cons v vs=>simp at h
  | cons u us ih=>cases vs with
    | nil=>simp at h
    | cons v vs =>
      simp at h
      rw[h.1,ih vs h.2]
 ·intro h;rw[h]
theorem Ad {C:Ctx} {us:List Value} {y:Value} (h:cS C (.agg (us.map .v)) y):y=.agg us.toArray:=by
 cases h with
 | agg cs a hl hr h1 =>
   congr 1
   apply Array.ext'
   simp only
   apply List.ext_getElem?
   intro i;by_cases hi:i<us.length
   ·have ha:i<a.size:=by simpa [← hl] using hi
    have:=hr i (.v us[i]) a[i] (by simp[hi]) (by simp[ha])
    have:=iI this
    simp[hi,ha,this]
   ·have ha:¬i<a.size:=by simpa [← hl] using hi
    simp[hi,ha]
theorem dG {α β:Type} {x:Sem α} {f:α→Sem β} {v:α} {w w':World} (h:x.run P w=.ok v w'):(x >>= f).run P w=(f v).run P w':=by
 rw[Sem.run_bind,h];rfl
theorem Ru (op:BinOp) (pV:op=.eql∨op=.neq) {T:Nat} {xs ys:List AV} {b:Bool} {C:Ctx} {u v:Value} (X Y:Operand) (h:uH P T xs ys=some b)
 (hu:cS C (.agg xs) u) (hv:cS C (.agg ys) v) :
 (do eqGuard op T X Y u v;binOp op T u v:Sem Value).run P w=.ok (.bool (if op=.eql then b else !b)) w:=by
 unfold uH at h;cases hl:eX P 20 T with
 | none=>simp[hl] at h
 | some l =>
   simp only[hl] at h;split at h
   ·rename_i hc;obtain⟨kP,hg,hf⟩:=hc
    simp only[Option.some.injEq] at h;obtain⟨us,vs,rfl,rfl,hv'⟩:=Cd _ _ _ hf
    have eu:=Ad hu
    have ev:=Ad hv
    subst eu;subst ev;obtain⟨k,hk⟩:=wX 20 T l hl
    have he:=Be (P:=P) 20 10000 (by omega) w T l hl us vs hv'
    rw[kP] at he;simp only[mk,if_true] at he;have hgd:=run_eqGuard_agg (P:=P) w op T X Y us.toArray vs.toArray hg
    rw[dG hgd];have hd:decide (us=vs)=b:=by
     rw[← h,Bool.eq_iff_iff];simp[CH]
    rcases pV with rfl|rfl
    ·rw[run_eql_struct,he];simp[hd]
    ·rw[run_neq_struct,he];simp[hd]
   ·cases h
theorem Mg {op:BinOp} {T:Nat} {b:Bool} {z:AV} {C:Ctx} {p:Option Addr} {n cap:Nat} (X Y:Operand) (h:sE P op T b=some z) (hb:p.isNone=b:=by rfl) :
 ∃r,(do eqGuard op T X Y (.slice p n cap) (.slice none 0 0);binOp op T (.slice p n cap) (.slice none 0 0):Sem Value).run P w=.ok r w∧cS C z r:=by
 unfold sE at h;split at h
 ·rename_i e hT;have hgd:(eqGuard op T X Y (.slice p n cap) (.slice none 0 0)).run P w=.ok () w:=by
   cases op<;>simp[eqGuard]
  rw[dG hgd];have he:=run_equal_slice_nil (P:=P) w T e p n cap hT
  rw[hb] at he;cases op<;>simp only at h<;>(try (cases h;done))<;>simp only[Option.some.injEq] at h<;>subst h<;>refine⟨_, ?_,.v _⟩<;>simp[binOp,he]
 ·cases h
theorem RC {op:BinOp} {T:Nat} {x y z:AV} {C:Ctx} {u v:Value} (X Y:Operand) (h:fS P op T x y=some z) (hu:cS C x u) (hv:cS C y v) :
 ∃r,(do eqGuard op T X Y u v;binOp op T u v:Sem Value).run P w=.ok r w∧cS C z r:=by
 unfold fS at h;split at h
 ·rename_i k a k' b
  have eu:=iI hu
  have ev:=iI hv
  subst eu;subst ev;have hgd:(eqGuard op T X Y (.int k a) (.int k' b)).run P w=.ok () w:=by
   cases op<;>simp[eqGuard]
  rw[dG hgd];cases op<;>simp only at h<;>split at h<;>(try (cases h;done))<;>simp only[Option.some.injEq] at h<;>subst h<;>refine⟨_, ?_,.v _⟩ <;>
   (try (rename_i hk;first|subst hk|(obtain⟨hk,hb⟩:=hk;subst hk)))<;>simp[binOp,Op.intArith,Op.intDiv,Op.intBits,Op.intCmp,Op.shift, *]
 ·rename_i a b;have eu:=iI hu
  have ev:=iI hv
  subst eu;subst ev;have hgd:(eqGuard op T X Y (.bool a) (.bool b)).run P w=.ok () w:=by
   cases op<;>simp[eqGuard]
  rw[dG hgd];split at h
  ·rename_i hT;cases op<;>simp only at h<;>(try (cases h;done))<;>simp only[Option.some.injEq] at h<;>subst h<;>refine⟨_, ?_,.v _⟩<;>simp[binOp,run_equal_bool w T a b hT]
  ·cases h
 ·rename_i xs ys;cases op<;>simp only at h<;>(try (cases h;done))<;>cases he:uH P T xs ys with
  | none=>simp[he] at h
  | some b =>
    simp only[he,Option.map_some,Option.some.injEq] at h;subst h;first
     | exact⟨_,Ru (w:=w) .eql (.inl rfl) X Y he hu hv,.v _⟩
     | exact⟨_,Ru (w:=w) .neq (.inr rfl) X Y he hu hv,.v _⟩
 ·rename_i n c cs;have ev:=iI hv
  subst ev;cases hu with
  | sl _ _ b off cap arr T' fr mS hb hle hh h1=>exact Mg X Y h
 ·have eu:=iI hu
  have ev:=iI hv
  subst eu;subst ev;exact Mg (p:=none) X Y h
 ·cases h
theorem YQ {op:UnOp} {x z:AV} {C:Ctx} {u:Value} (h:unA op x=some z) (hu:cS C x u):∃r,(Op.unary op u).run P w=.ok r w∧cS C z r:=by
 unfold unA at h;split at h<;>(try (cases h;done))<;>simp only[Option.some.injEq] at h<;>subst h<;>(have eu:=iI hu;subst eu;refine⟨_, ?_,.v _⟩)<;>simp[Op.unary,Op.intArith,Op.intBits]
theorem aX {t:Nat} {d:TypeDesc} (h:P.underlying t=some d):(underlying t).run P w=.ok d w:=by simp[underlying,h]
theorem lM (b off k:Nat):(⟨b,off,none⟩:Addr).add k=⟨b,off+k,none⟩:=by
 unfold Addr.add;split
 ·rename_i h;subst h;rfl
 ·rfl
theorem Mh {x z:AV} {k:Nat} {C:Ctx} {u:Value} (h:uR x k=some z) (hu:cS C x u):∃b off,u=.pointer (some ⟨b,off,none⟩)∧cS C z (.pointer (some ⟨b,off+k,none⟩)):=by
 cases x<;>simp[uR] at h
 ·rename_i cs o;obtain⟨hk,rfl⟩:=h
  cases hu with
  | ip _ _ b off arr T fr hb hle hr h1=>exact⟨b,off+o,rfl,by rw[Nat.add_assoc];exact .ip cs (o+k) b off arr T fr hb hle hr h1⟩
 ·subst h;cases hu with
  | ptr s g off b hg hb=>exact⟨b,_,rfl,.ptr _ _ _ b hg hb⟩
theorem Sx {x z:AV} {T f k:Nat} {C:Ctx} {u:Value} (hf:aV P T f=some k) (h:uR x k=some z) (hu:cS C x u) :
 ∃r,(Instr.fieldAt T u f).run P w=.ok r w∧cS C z r:=by
 obtain⟨b,off,rfl,hz⟩:=Mh h hu
 unfold aV at hf;split at hf
 ·rename_i fs hT;split at hf
  ·rename_i fd hfd;split at hf
   ·cases hf
   ·rename_i gT;simp only[Option.some.injEq] at hf;subst hf;have hi:∃i,P.info? fd.type=some i:=by
     cases h:P.info? fd.type with
     | some i=>exact⟨i,rfl⟩
     | none=>simp[Program.cellsOf,h] at gT
    obtain⟨i,hi⟩:=hi
    rw[qU hi] at gT;refine⟨_, ?_,hz⟩
    simp[Instr.fieldAt,aX hT,hfd,Instr.sureAddr,fieldPlace,run_sizeOf w hi,gT,lM]
  ·cases hf
 ·cases hf
theorem Mi {T n sz:Nat} (h:jF P T=some (n,sz)):∃e i,P.underlying T=some (.array n e)∧P.info? e=some i∧i.size=sz∧sz≠0:=by
 unfold jF at h;split at h
 ·rename_i n' e hT
  split at h
  ·cases h
  ·rename_i gT;simp only[Option.some.injEq,Prod.mk.injEq] at h;obtain⟨rfl,rfl⟩:=h
   cases hi:P.info? e with
   | none=>simp[Program.cellsOf,hi] at gT
   | some i=>exact⟨e,i,hT,hi,(qU hi).symm,gT⟩
 ·cases h
theorem jV {T e sz by_:Nat} (h:dL P T=some (e,sz,by_)):∃i z,P.underlying T=some (.slice e)∧P.info? e=some i∧i.zero=some z∧i.size=sz∧z.cells.size=sz∧i.bytes=by_∧0<sz:=by
 unfold dL at h;split at h
 ·rename_i e' hT
  split at h
  ·rename_i i hi;split at h
   ·rename_i z hz;split at h
    ·cases h
    ·rename_i gT;simp only[Option.some.injEq,Prod.mk.injEq] at h;obtain⟨rfl,rfl,rfl⟩:=h
     simp only[not_or,ne_eq,Decidable.not_not] at gT;exact⟨i,z,hT,hi,hz,rfl,gT.2,rfl,by omega⟩
   ·cases h
  ·cases h
 ·cases h
theorem Mj (S:kN F h0 w0 nt ρ st a w) {x:AV} {cs:List AV} {u:Value} (h:qC st x=some cs) (hu:cS (ctx h0 w0 ρ st w) x u) :
 ∃b off arr T fr,u=.pointer (some ⟨b,off,none⟩)∧w.heap[b]? = some (.cells arr T fr)∧gB (ctx h0 w0 ρ st w) cs ((arr.toList.drop off).take cs.length):=by
 cases x<;>simp[qC] at h
 ·subst h;cases hu with
  | ip Dj o' b off arr T fr hb hle hr h1 =>
    refine⟨b,_,arr,T,fr,rfl,hb.1,⟨by simp;omega,fun i x y hx hy=>?_,fun i y hy=>?_⟩⟩
    ·have hi:=(List.getElem?_eq_some_iff.1 hx).1
     rw[List.getElem?_take,if_pos hi,List.getElem?_drop] at hy;rw[List.getElem?_drop] at hx;exact hr _ x y hx (by rw[← Nat.add_assoc];simpa using hy)
    ·rw[List.getElem?_take] at hy;split at hy
     ·rename_i hi;rw[List.getElem?_drop] at hy;simp only[List.length_drop] at hi;have hy':=hy
      simp only[Array.getElem?_toList,Nat.add_assoc] at hy'
      exact h1 _ y (by omega) hy'
     ·cases hy
 ·rename_i s g o;cases hu with
  | ptr s g off b hg hb =>
    cases he:st.heap s g with
    | none=>simp[he] at h
    | some e =>
      obtain⟨_,_,her⟩:=S.sA s g e he
      cases e with
      | cells es =>
        simp[he] at h;subst h;obtain⟨b',arr,T,lA,_,hh,hc⟩:=her
        have wL:b'=b:=by
         have h2:dD (ρ s g)=some b:=hb
         rw[lA] at h2;simpa [dD] using h2
        subst wL;refine⟨b',o,arr,T,(0,0),rfl,hh, ?_⟩
        have:=hc.drop o
        rwa [List.take_of_length_le (by rw[this.len];exact Nat.le_refl _)]
      | row e sz n es =>
        simp[he] at h;subst h;obtain⟨xs,ho,hc⟩:=her
        rcases ho.2 with ⟨p,lA,_⟩|⟨b',cap,cur,lA,_,hh,_,_,_,ht,qD⟩
        ·have h2:dD (ρ s g)=some b:=hb
         rw[lA,pL] at h2;cases h2
        ·have wL:b'=b:=by
          have h2:dD (ρ s g)=some b:=hb
          rw[lA,jY qD] at h2;simpa using h2
         subst wL;refine⟨b',o,cur,e,(0,0),rfl,hh, ?_⟩
         have:=hc.drop o
         have hl:=this.len
         rw[← ht] at this;rw[List.drop_take] at this;have e1:(es.drop o).length=n * sz-o:=by rw[hl,List.length_drop,ho.1]
         rw[e1];exact this
      | map es=>simp[he] at h
theorem Rv (w:World) {b off:Nat} {arr:Array Value} {B:Nat} {fr:Nat × Nat} {T:Nat} {i:TypeInfo} {d:TypeDesc} (hb:w.heap[b]? = some (.cells arr B fr)) (hi:P.info? T=some i) (hu:P.underlying T=some d)
 (hl:off+(if cZ P T=true then i.size else 1)≤arr.size) :
 (loadVar T ⟨b,off,none⟩).run P w=.ok (if cZ P T=true then .agg ((arr.toList.drop off).take i.size).toArray else arr.toList.getD off undef) w:=by
 unfold loadVar;rw[dG (Hz w hu)];have oL:∀j,w.cell? ((⟨b,off,none⟩:Addr).add j)=arr[off+j]?:=fun j=>by rw[lM];exact cell_of_row w b (off+j) arr B fr hb
 cases kP:cZ P T with
 | true =>
   simp only[kP,if_true] at hl;simp only[if_true];rw[dG (run_sizeOf w hi)];have:=run_loadCells_list (P:=P) w ⟨b,off,none⟩ ((arr.toList.drop off).take i.size) (fun j v hv=>by
    rw[oL];rw[List.getElem?_take] at hv;by_cases hj:j<i.size
    ·rw[if_pos hj,List.getElem?_drop] at hv;simpa using hv
    ·rw[if_neg hj] at hv;cases hv)
   have hlen:((arr.toList.drop off).take i.size).length=i.size:=by simp;omega
   rw[hlen] at this;rw[dG this];simp
 | false =>
   simp only[kP,Bool.false_eq_true,if_false] at hl ⊢;have h0:=oL 0
   simp only[Addr.add,if_true,Nat.add_zero] at h0;have bB:off<arr.size:=by omega
   simp[h0,bB]
theorem Ae {T:Nat} {bb:Bool} {k:Nat} (h:fK P T=some (bb,k)):∃i d,P.info? T=some i∧P.underlying T=some d∧cZ P T=bb∧i.size=k:=by
 unfold fK at h;cases hi:P.info? T with
 | none=>simp[hi] at h
 | some i =>
   simp only[hi] at h;cases hu:P.underlying T with
   | none=>simp[hu] at h
   | some d =>
     simp only[hu] at h;refine⟨i,d,rfl,rfl, ?_, ?_⟩
     ·cases d<;>simp_all [cZ]
     ·cases d<;>simp_all
theorem Uz (S:kN F h0 w0 nt ρ st a w) {T:Nat} {x z:AV} {cs:List AV} {u:Value} (hr:qC st x=some cs) (h:xE P T cs=some z) (hu:cS (ctx h0 w0 ρ st w) x u) :
 ∃r,(Instr.loadAt T u).run P w=.ok r w∧cS (ctx h0 w0 ρ st w) z r:=by
 obtain⟨b,off,arr,B,fr,rfl,hb,hc⟩:=Mj S hr hu
 unfold xE at h;have hlen:=hc.len
 simp only[List.length_take,List.length_drop,Array.length_toList] at hlen;split at h
 ·rename_i k hk;obtain⟨i,d,hi,hd,kP,rfl⟩:=Ae hk
  split at h
  ·rename_i hle;obtain⟨tP,hle⟩:=hle
   simp only[Option.some.injEq] at h;subst h;refine⟨_,by
    simp only[Instr.loadAt,Instr.sureAddr];rw[dG (Sem.run_pure P w _)];exact Rv w hb hi hd (by rw[kP];simp only[if_true];omega), ?_⟩
   rw[kP];simp only[if_true];have:=hc.take i.size
   rw[List.take_take,Nat.min_eq_left hle] at this;exact .agg _ _ (by simpa using this.len) (fun j x y hx hy=>this.rel j x y hx (by simpa using hy)) (fun j y hy=>this.one j y (by simpa using hy))
  ·cases h
 ·rename_i k hk;obtain⟨i,d,hi,hd,kP,rfl⟩:=Ae hk
  cases cs with
  | nil=>simp at h
  | cons c cs =>
    simp at h
    subst h;have bB:off<arr.size:=by simp at hlen;omega
    refine⟨_,by
     simp only[Instr.loadAt,Instr.sureAddr];rw[dG (Sem.run_pure P w _)];exact Rv w hb hi hd (by rw[kP];simp;omega), ?_⟩
    rw[kP];simp only[Bool.false_eq_true,if_false];refine hc.rel 0 c _ rfl ?_
    simp[bB]
 ·cases h
theorem sB (S:kN F h0 w0 nt ρ st a w) {x:AV} {n:Nat} {cs:List AV} {u:Value} (h:aR st x=some (n,cs)) (hu:cS (ctx h0 w0 ρ st w) x u) :
 ∃p cap,u=.slice p n cap∧(cs≠[]→∃b off arr T fr,p=some ⟨b,off,none⟩∧w.heap[b]? = some (.cells arr T fr)∧gB (ctx h0 w0 ρ st w) cs ((arr.toList.drop off).take cs.length)):=by
 unfold aR at h;split at h
 ·rename_i n' Dj
  simp only[Option.some.injEq,Prod.mk.injEq] at h;obtain⟨rfl,rfl⟩:=h
  cases hu with
  | JO n cap p mS=>exact⟨p,cap,rfl,fun h=>absurd rfl h⟩
  | sl n cs'' b off cap arr T fr mS hb hle hr h1 =>
    refine⟨_,cap,rfl,fun _=>⟨b,off,arr,T,fr,rfl,hb.1,⟨by simp;omega,fun i x y hx hy=>?_,fun i y hy=>?_⟩⟩⟩
    ·have hi:=(List.getElem?_eq_some_iff.1 hx).1
     rw[List.getElem?_take,if_pos hi,List.getElem?_drop] at hy;exact hr i x y hx (by simpa using hy)
    ·rw[List.getElem?_take] at hy;split at hy
     ·rename_i hi;rw[List.getElem?_drop] at hy;exact h1 i y hi (by simpa using hy)
     ·cases hy
 ·rename_i n' Dj
  simp only[Option.some.injEq,Prod.mk.injEq] at h;obtain⟨rfl,rfl⟩:=h
  cases hu with
  | cl0 n p=>exact⟨p,_,rfl,fun h=>absurd rfl h⟩
  | cl n cs'' b off arr T fr hb hle hr h1 =>
    refine⟨_,_,rfl,fun _=>⟨b,off,arr,T,fr,rfl,hb.1,⟨by simp;omega,fun i x y hx hy=>?_,fun i y hy=>?_⟩⟩⟩
    ·have hi:=(List.getElem?_eq_some_iff.1 hx).1
     rw[List.getElem?_take,if_pos hi,List.getElem?_drop] at hy;exact hr i x y hx (by simpa using hy)
    ·rw[List.getElem?_take] at hy;split at hy
     ·rename_i hi;rw[List.getElem?_drop] at hy;exact h1 i y hi (by simpa using hy)
     ·cases hy
 ·rename_i s g;cases he:st.heap s g with
  | none=>simp[he] at h
  | some e =>
    cases e with
    | row e sz n' es =>
      simp[he] at h
      obtain⟨rfl,rfl⟩:=h
      obtain⟨_,_,xs,ho,hc⟩:=S.sA s g _ he
      cases hu with
      | own s g hg h1 =>
        show ∃p cap,ρ s g=_∧_
        rcases ho.2 with ⟨p,lA,hn⟩|⟨b',cap,cur,lA,_,hh,_,_,_,ht,qD⟩
        ·refine⟨p,0,by rw[lA,hn],fun gT=>?_⟩
         have:xs.length=0:=by rw[ho.1,hn];simp
         have:=hc.len
         exact absurd (List.length_eq_zero_iff.1 (by omega)) gT
        ·refine⟨_,cap,lA,fun _=>⟨b',0,cur,e,(0,0),rfl,hh, ?_⟩⟩
         rw[hc.len,ho.1,List.drop_zero,ht];exact hc
    | _=>simp[he] at h
 ·rename_i s g o n'
  cases he:st.heap s g with
  | none=>simp[he] at h
  | some e =>
    cases e with
    | row e sz N es =>
      simp only[he] at h;split at h
      ·rename_i hle;simp only[Option.some.injEq,Prod.mk.injEq] at h;obtain⟨rfl,rfl⟩:=h
       obtain⟨_,_,xs,ho,hc⟩:=S.sA s g _ he
       cases hu with
       | vw _ _ _ _ b cap hg hb mS yD =>
         refine⟨_,cap,rfl,fun gT=>?_⟩
         rcases ho.2 with ⟨p,lA,hn⟩|⟨b',Zv,cur,lA,_,hh,_,_,_,ht,qD⟩
         ·exfalso
          change dD (ρ s g)=some b at hb
          rw[lA] at hb;cases p<;>cases hb
         ·change dD (ρ s g)=some b at hb
          rw[lA,jY qD] at hb;simp only[Option.some.injEq] at hb;subst hb;refine⟨b',o,cur,e,(0,0),rfl,hh, ?_⟩
          have hxl:xs.length=es.length:=hc.len.symm
          have:((cur.toList.drop o).take ((es.drop o).take (n' * sz)).length)=(xs.drop o).take (n' * sz):=by
           have hl:((es.drop o).take (n' * sz)).length=n' * sz:=by simp;omega
           rw[hl,← ht,List.drop_take,List.take_take,Nat.min_eq_left (by rw[← ho.1];omega)]
          rw[this];exact (hc.drop o).take _
      ·cases h
    | cells es =>
      simp only[he] at h;split at h
      ·rename_i hle;simp only[Option.some.injEq,Prod.mk.injEq] at h;obtain⟨rfl,rfl⟩:=h
       obtain⟨_,_,b',arr,T',lA,_,hh,hc⟩:=S.sA s g _ he
       cases hu with
       | vw _ _ _ _ b cap hg hb mS yD =>
         refine⟨_,cap,rfl,fun gT=>?_⟩
         change dD (ρ s g)=some b at hb
         rw[lA] at hb;simp only[dD,Option.some.injEq] at hb;subst hb;refine⟨b',o,arr,T',(0,0),rfl,hh, ?_⟩
         have hl:((es.drop o).take n').length=n':=by simp;omega
         rw[hl];exact (hc.drop o).take _
      ·cases h
    | _=>simp[he] at h
 ·simp only[Option.some.injEq,Prod.mk.injEq] at h;obtain⟨rfl,rfl⟩:=h
  have:=iI hu
  subst this;exact⟨none,0,rfl,fun h=>absurd rfl h⟩
 ·cases h
theorem Sy (S:kN F h0 w0 nt ρ st a w) {T:Nat} {x i z:AV} {u v:Value} (h:bD P st T x i=some z) (hu:cS (ctx h0 w0 ρ st w) x u) (hv:cS (ctx h0 w0 ρ st w) i v) :
 ∃r,(Instr.indexAt T u v).run P w=.ok r w∧cS (ctx h0 w0 ρ st w) z r:=by
 unfold bD at h;split at h
 ·rename_i k j;have:=iI hv
  subst this;split at h
  ·rename_i n sz ha;obtain⟨e,ei,hT,hi,rfl,gT⟩:=Mi ha
   split at h
   ·rename_i hj;obtain⟨b,off,rfl,hz⟩:=Mh h hu
    refine⟨_, ?_,hz⟩
    simp[Instr.indexAt,asIntOf,aX hT,Instr.sureAddr,hj,run_sizeOf w hi,lM]
   ·cases h
  ·split at h
   ·rename_i e sz by_ hs;obtain⟨ei,ez,hT,hi,Zw,rfl,Mk,rfl,Dp⟩:=jV hs
    split at h
    ·rename_i n cs;split at h
     ·rename_i hj;simp only[Option.some.injEq] at h;subst h;obtain⟨j1,j2,j3⟩:=hj
      cases hu with
      | JO n cap p mS=>simp at j3;omega
      | sl n cs b off cap arr T' fr mS hb hle hr h1 =>
        refine⟨_, ?_,.ip ((cs.drop (j.toNat * ei.size)).take ei.size) 0 b (off+j.toNat * ei.size) arr T' fr hb (by simp;omega) (fun i x y hx hy=>?_) (fun i y Ce hy=>?_)⟩
        ·simp[Instr.indexAt,asIntOf,aX hT,j1,j2,run_sizeOf w hi,lM]
        ·rw[List.getElem?_take] at hx;split at hx
         ·rw[List.getElem?_drop] at hx;exact hr _ x y hx (by rw[← Nat.add_assoc];exact hy)
         ·cases hx
        ·simp only[List.length_take,List.length_drop] at Ce
         exact h1 (j.toNat * ei.size+i) y (by omega) (by rw[← Nat.add_assoc];exact hy)
     ·cases h
    ·rename_i s g;cases he:st.heap s g with
     | none=>simp[he] at h
     | some e' =>
       cases e' with
       | row e2 sz2 n es =>
         simp only[he] at h;split at h
         ·rename_i hj;obtain⟨j1,j2,rfl,rfl⟩:=hj
          simp only[Option.some.injEq] at h;subst h;obtain⟨bB,_,xs,ho,hc⟩:=S.sA s g _ he
          cases hu with
          | own s g hg h1 =>
            rcases ho.2 with ⟨p,lA,hn⟩|⟨b',cap,cur,lA,_,hh,_,_,_,ht,qD⟩
            ·omega
            ·refine⟨.pointer (some ⟨b',j.toNat * ei.size,none⟩), ?_,.ptr s g _ b' bB (by show dD (ρ s g)=_;rw[lA,jY qD])⟩
             show (Instr.indexAt T (ρ s g) _).run P w=_
             rw[lA];simp[Instr.indexAt,asIntOf,aX hT,j1,j2,run_sizeOf w hi,lM]
         ·cases h
       | _=>simp[he] at h
    ·rename_i s g o n;split at h
     ·rename_i hj;obtain⟨j1,j2⟩:=hj
      simp only[Option.some.injEq] at h;subst h;cases hu with
      | vw _ _ _ _ b cap hg hb mS yD =>
        refine⟨.pointer (some ⟨b,o+j.toNat * ei.size,none⟩), ?_,.ptr s g _ b hg hb⟩
        simp[Instr.indexAt,asIntOf,aX hT,j1,j2,run_sizeOf w hi,lM]
     ·cases h
    ·cases h
   ·cases h
 ·cases h
end
end Go.Ab
end
section
namespace Go.Ab
open Classical
theorem foldl_set (off:Nat):∀(vs:List Value) (k:Nat) (cs:Array Value),off+k+vs.length≤cs.size →
 ((vs.zipIdx k).foldl (fun cs (x:Value × Nat)=>cs.setIfInBounds (off+x.2) x.1) cs).toList=cs.toList.take (off+k)++vs++cs.toList.drop (off+k+vs.length)
 | [],k,cs,h=>by simp
 | v :: vs,k,cs,h=>by
   simp only[List.zipIdx_cons,List.foldl_cons];simp only[List.length_cons] at h;rw[foldl_set off vs (k+1) (cs.setIfInBounds (off+k) v) (by simp;omega)]
   have bB:off+k<cs.size:=by omega
   have JR:off+k<cs.toList.length:=by simpa using bB
   have e1:(cs.setIfInBounds (off+k) v).toList=cs.toList.set (off+k) v:=by simp
   rw[e1,show off+(k+1)=off+k+1 by omega]
   have e2:cs.toList.set (off+k) v=cs.toList.take (off+k)++v :: cs.toList.drop (off+k+1):=by
    rw[List.set_eq_take_append_cons_drop,if_pos JR]
   have l1:(cs.toList.take (off+k)).length=off+k:=by simp;omega
   have e3:(cs.toList.set (off+k) v).take (off+k+1)=cs.toList.take (off+k)++[v]:=by
    rw[e2,List.take_append,l1,List.take_of_length_le (by rw[l1];omega),show off+k+1-(off+k)=1 by omega]
    simp
   have e4:(cs.toList.set (off+k) v).drop (off+k+1+vs.length)=cs.toList.drop (off+k+(vs.length+1)):=by
    rw[e2,List.drop_append,l1,List.drop_of_length_le (by rw[l1];omega),show off+k+1+vs.length-(off+k)=vs.length+1 by omega]
    simp only[List.drop_succ_cons,List.nil_append,List.drop_drop];congr 1
    omega
   rw[e3,e4];simp
section
variable {P:Program} {h0:Nat→Obj→Prop} {w0:World} {F:Gf} {nt:Nat} {ρ:Nat→Nat→Value} {st:St} {a:Act} {w:World}
theorem Kh {C:Ctx} {place:Nat→Option (Nat × Nat)}:∀(parts:List (Nat × AV)) (pv:List (Nat × Value)) (cells:List AV) (ys:Array Value) (out:List AV),
 parts.map (·.1)=pv.map (·.1)→lI C (parts.map (·.2)) (pv.map (·.2))→(∀p∈parts,p.2.jL=true)→gB C cells ys.toList→gM place cells parts=some out →
 ∃zs,Instr.fill place ys pv=some zs∧gB C out zs.toList
 | [],pv,cells,ys,out,h1,h2,h3,h4,h5=>by
   cases pv with
   | nil=>simp[gM] at h5;subst h5;exact⟨ys,rfl,h4⟩
   | cons p pv=>simp at h1
 | (i,x) :: parts,[],cells,ys,out,h1,_,_,_,_=>by simp at h1
 | (i,x) :: parts,(i',v) :: pv,cells,ys,out,h1,h2,h3,h4,h5=>by
   simp only[List.map_cons,List.cons.injEq] at h1;obtain⟨rfl,h1⟩:=h1
   simp only[List.map_cons] at h2;have hx:=h2.head
   have hc:=hx.cells (h3 (i,x) (by simp))
   unfold gM at h5;unfold Instr.fill;cases hp:place i with
   | none=>simp[hp] at h5
   | some os =>
     obtain⟨off,size⟩:=os
     simp only[hp] at h5 ⊢;split at h5
     ·rename_i H0;obtain⟨c1,c2⟩:=H0
      have hl:=hc.len
      have hl4:=h4.len
      simp only[Array.length_toList] at hl hl4;have gT:¬(v.cells.size≠size∨off+v.cells.size > ys.size):=by omega
      have hne':(decide (v.cells.size≠size) || decide (off+v.cells.size > ys.size))=false:=by simp;omega
      rw[if_neg (by simpa using gT)]
      refine Kh parts pv _ _ out h1 h2.tail (fun p hp'=>h3 p (by simp[hp'])) ?_ h5
      have e:=foldl_set off v.cells.toList 0 ys (by simp;omega)
      simp only[Nat.add_zero,Array.length_toList] at e;have e2:(v.cells.zipIdx.foldl (fun cs (x:Value × Nat)=>cs.setIfInBounds (off+x.2) x.1) ys).toList=ys.toList.take off++v.cells.toList++ys.toList.drop (off+v.cells.size):=by
       rw[← e,← Array.foldl_toList,Array.toList_zipIdx]
      show gB C _ (v.cells.zipIdx.foldl (fun cs (x:Value × Nat)=>cs.setIfInBounds (off+x.2) x.1) ys).toList
      rw[e2];have e3:off+size=off+v.cells.size:=by omega
      rw[e3];exact ((h4.take off).app hc).app (h4.drop _)
     ·cases h5
theorem yG {T:Nat} {z:List Value} (h:dZ P T=some z):∃i zv,P.info? T=some i∧i.zero=some zv∧z=zv.cells.toList∧∀y∈z,y.oneCell'=true:=by
 unfold dZ at h;split at h
 ·rename_i i hi;cases hz:i.zero with
  | none=>simp[hz] at h
  | some zv =>
    simp only[hz] at h;split at h
    ·rename_i h1;simp only[Option.some.injEq] at h;subst h;exact⟨i,zv,hi,hz,rfl,List.all_eq_true.1 h1⟩
    ·cases h
 ·cases h
theorem JS (S:kN F h0 w0 nt ρ st a w) {T:Nat} {parts:Array (Nat × Operand)} {z:AV} (h:iR P st T parts.toList=some z) :
 ∃r,(Instr.build T (parts.map fun (i,x)=>(i,a.eval x))).run P w=.ok r w∧cS (ctx h0 w0 ρ st w) z r:=by
 unfold iR at h;cases hz:dZ P T with
 | none=>simp[hz] at h
 | some zs =>
   cases hp:placeOf P T with
   | none=>simp[hz,hp] at h
   | some place =>
     simp only[hz,hp] at h;split at h
     ·rename_i xG;simp only[Option.map_eq_some_iff] at h;obtain⟨out,hf,rfl⟩:=h
      obtain⟨i,zv,hi,JT,rfl,H2⟩:=yG hz
      have gA:lI (ctx h0 w0 ρ st w) ((parts.toList.map fun p=>(p.1,st.ev p.2)).map (·.2)) ((parts.toList.map fun p=>(p.1,a.eval p.2)).map (·.2)):=by
       simp only[List.map_map];exact lI.map _ _ _ fun p _=>S.ev p.2
      obtain⟨cells,JU,oL⟩:=Kh (place:=place) (parts.toList.map fun p=>(p.1,st.ev p.2)) (parts.toList.map fun p=>(p.1,a.eval p.2)) _ zv.cells out (by simp) gA
       (fun p hp'=>by
        obtain⟨q,hq,rfl⟩:=List.mem_map.1 hp'
        exact List.all_eq_true.1 xG q hq) (gB.vs _ _ H2) hf
      have hbuilt:P.built T (parts.map fun (i,x)=>(i,a.eval x)).toList=some cells:=by
       unfold Program.built;unfold placeOf at hp;split at hp
       ·rename_i fs hu;split at hp
        ·rename_i Ki;simp only[Option.some.injEq] at hp;simp only[hi,hu,JT];have hm:fs.toList.mapM (fun f=>(P.info? f.type).map fun i=>(f.offset,i.size))=some (fs.toList.map fun f=>(f.offset,P.cellsOf f.type)):=by
          have H3:∀f∈fs.toList,(P.info? f.type).isSome=true:=fun f hf=>Array.all_eq_true_iff_forall_mem.1 Ki f (Array.mem_toList_iff.1 hf)
          generalize fs.toList=l at H3
          induction l with
          | nil=>rfl
          | cons f l ih =>
            obtain⟨j,hj⟩:=Option.isSome_iff_exists.1 (H3 f (by simp))
            rw[List.mapM_cons,ih fun g hg=>H3 g (by simp[hg])]
            simp[hj,qU hj]
         rw[hm];simp only
         have:(fun x=>(fs.toList.map fun f=>(f.offset,P.cellsOf f.type)).toArray[x]?)=place:=by
          rw[← hp];funext j
          simp
         rw[this];simpa using JU
        ·cases hp
       ·rename_i n e hu;split at hp
        ·rename_i hsome;obtain⟨ie,Bf⟩:=Option.isSome_iff_exists.1 hsome
         simp only[Option.some.injEq] at hp;simp only[hi,hu,JT,Bf];rw[← hp] at JU;simpa [qU Bf] using JU
        ·cases hp
       ·cases hp
      refine⟨_,run_build w T _ cells hbuilt, ?_⟩
      exact .agg _ _ (by simpa using oL.len) (fun j x y hx hy=>oL.rel j x y hx (by simpa using hy)) (fun j y hy=>oL.one j y (by simpa using hy))
     ·cases h
end
end Go.Ab
end
