/-
  Part 5 of the proof: an evaluator of programs, its soundness, and what functions of this program compute.
-/
import Derived.Test.YtmcjkemalibacaaGreatK4
set_option linter.all false
set_option maxRecDepth 20000
set_option maxHeartbeats 40000000
section
namespace Go.Ab
open Classical
variable [Ext]
def rd (cs:List AV) (o k:Nat):List AV:=(cs.drop o).take k
def onB {α:Type} (x:AV) (k:Bool→Option α):Option α :=
 match x with
 | .v (.bool b)=>k b
 | _=>none
section
variable (P:Program)
def fB (T:Nat) (cs:List AV) (o:Nat):Option AV :=
 match fQ P T with
 | some (true,k)=>if 0<k∧k≤cs.length-o then some (.agg (rd cs o k)) else none
 | some (false,_)=>cs[o]?
 | none=>none
def Fm (st:St) (T:Nat) (x:AV):Option AV :=
 match x with
 | .ip cs o=>fB P T cs o
 | .ptr s g o =>
   match st.heap s g with
   | some (.cells cs)=>fB P T cs o
   | some (.row _ _ _ cs)=>fB P T cs o
   | _=>none
 | _=>none
theorem IP (T:Nat) (cs:List AV) (o:Nat):yA P T (cs.drop o)=fB P T cs o:=by
 unfold yA fB;cases fQ P T with
 | none=>rfl
 | some bk =>
   obtain⟨b,k⟩:=bk
   cases b
   ·simp
   ·simp[rd]
theorem Pa (st:St) (T:Nat) (x:AV):cS (qP st x) (yA P T)=Fm P st T x:=by
 cases x<;>simp only[qP,cS,Fm,IP]
 split<;>rename_i h
 ·split at h
  ·rename_i h';cases h;rw[h'];exact IP P T _ _
  ·rename_i h';cases h;rw[h'];exact IP P T _ _
  ·cases h
 ·split at h
  ·cases h
  ·cases h
  ·rename_i h1 h2;split<;>first|rfl|(rename_i h';first|exact absurd h' (h1 _)|exact absurd h' (h2 _ _ _ _))
def Vm (st:St) (T:Nat) (a x:AV):Option St:=(pZ P st T a x).map fun u=>st.jB u.1 u.2.1 (some u.2.2)
variable {P}
variable {call:Nat→List AV→Option AV} {ops:Array Oper} {st:St} {d:Option Nat} {T:Nat} {pos:String} {eQ:Array Edge}
@[congr] theorem aJz {α β:Type} {x y:Option α} {f:α→Option β} (h:x=y):cS x f=cS y f:=by rw[h]
@[congr] theorem aJA {α:Type} {x y:AV} {k:Bool→Option α} (h:x=y):onB x k=onB y k:=by rw[h]
@[congr] theorem aFG {l:List Oper} {s t:St} (h:s=t):Ms P call ops l s=Ms P call ops l t:=by rw[h]
@[congr] theorem aHn {o:Oper} {s t:St} (h:s=t):cH P call ops o s=cH P call ops o t:=by rw[h]
@[congr] theorem aJB {c:Code} {s t:St} (h:s=t):zC P c s=zC P c t:=by rw[h]
theorem cK {α β:Type} (a:α) (f:α→Option β):cS (some a) f=f a:=rfl
theorem MO {α β:Type} (f:α→Option β):cS none f=none:=rfl
theorem aAi {α:Type} (b:Bool) (k:Bool→Option α):onB (.v (.bool b)) k=k b:=rfl
theorem F9:Ms P call ops [] st=some st:=rfl
theorem WI (o:Oper) (l:List Oper):Ms P call ops (o :: l) st=cS (cH P call ops o st) (Ms P call ops l):=rfl
theorem eD (op:Op):cH P call ops ⟨d,op,T,pos,eQ,none⟩ st=(dO P call ⟨d,op,T,pos,eQ,none⟩ st).map fun e=>e.apply st:=rfl
theorem aDc (x:Operand):cH P call ops ⟨d,.move x,T,pos,eQ,none⟩ st=some (st.put d (st.ev x)):=rfl
theorem G0 (x:Operand):cH P call ops ⟨d,.assign x,T,pos,eQ,none⟩ st=some (st.put d (st.ev x)):=rfl
theorem aDd (c a b:Operand):cH P call ops ⟨d,.pick c a b,T,pos,eQ,none⟩ st=onB (st.ev c) fun t=>some (st.put d (if t=true then st.ev a else st.ev b)):=by
 rw[eD];simp only[dO,iX];cases st.ev c<;>try rfl
 rename_i x;cases x<;>rfl
theorem aAj (op:BinOp) (S:Nat) (x y:Operand) (yT:Nat):cH P call ops ⟨d,.binOp op S x y yT,T,pos,eQ,none⟩ st=cS (gL P op S (st.ev x) (st.ev y)) fun v=>some (st.put d v):=by
 rw[eD];simp only[dO,iX];cases gL P op S (st.ev x) (st.ev y)<;>rfl
theorem aDe (op:UnOp) (S:Nat) (x:Operand):cH P call ops ⟨d,.unOp op S x,T,pos,eQ,none⟩ st=cS (unA op (st.ev x)) fun v=>some (st.put d v):=by
 rw[eD];simp only[dO,iX];cases unA op (st.ev x)<;>rfl
def PK (P:Program) (src dst:Nat) (x:AV):Option AV :=
 match x,intKind P dst,intKind P src with
 | .v (.int _ n),some k,some _=>some (.v (.int k (k.wrap n)))
 | _,_,_=>none
theorem WJ (src dst:Nat) (x:Operand):cH P call ops ⟨d,.convert src dst x,T,pos,eQ,none⟩ st=cS (PK P src dst (st.ev x)) fun v=>some (st.put d v):=by
 rw[eD];simp only[dO,iX];show Option.map _ (Option.map _ (PK P src dst (st.ev x)))=_
 cases PK P src dst (st.ev x)<;>rfl
theorem aAk (S:Nat) (x:Operand) (f:Nat):cH P call ops ⟨d,.field S x f,T,pos,eQ,none⟩ st=cS (Bv P S f (st.ev x)) fun v=>some (st.put d v):=by
 rw[eD];simp only[dO,iX];cases Bv P S f (st.ev x)<;>rfl
theorem WK {S f off k:Nat} {cs:List AV} (h:fieldInfo P S f=some (off,true,k)) (hl:off+k≤cs.length):Bv P S f (.agg cs)=some (.agg (rd cs off k)):=by
 simp only[Bv,h,if_pos hl];rfl
theorem WL {S f off k:Nat} {cs:List AV} (h:fieldInfo P S f=some (off,false,k)):Bv P S f (.agg cs)=cs[off]?:=by
 simp only[Bv,h]
theorem IQ (S:Nat) (x:Operand) (f:Nat):cH P call ops ⟨d,.fieldAddr S x f,T,pos,eQ,none⟩ st=cS (aZ P S f) fun k=>cS (vF (st.ev x) k) fun v=>some (st.put d v):=by
 rw[eD];simp only[dO,iX];cases aZ P S f with
 | none=>rfl
 | some k =>
   simp only[cS];cases vF (st.ev x) k<;>rfl
theorem IS (S:Nat) (x i:Operand):cH P call ops ⟨d,.indexAddr S x i,T,pos,eQ,none⟩ st=cS (bH P st S (st.ev x) (st.ev i)) fun v=>some (st.put d v):=by
 rw[eD];simp only[dO,iX];cases bH P st S (st.ev x) (st.ev i)<;>rfl
theorem aDf (S:Nat) (x:Operand):cH P call ops ⟨d,.load S x,T,pos,eQ,none⟩ st=cS (Fm P st S (st.ev x)) fun v=>some (st.put d v):=by
 rw[eD];simp only[dO,iX,Pa];cases Fm P st S (st.ev x)<;>rfl
def dM (x:AV) (i:Nat):Option AV :=
 match x with
 | .eE vs=>vs[i]?
 | _=>none
theorem WM (t:Operand) (i:Nat):cH P call ops ⟨d,.extract t i,T,pos,eQ,none⟩ st=cS (dM (st.ev t) i) fun v=>some (st.put d v):=by
 rw[eD];simp only[dO,iX];show Option.map _ (Option.map _ (dM (st.ev t) i))=_
 cases dM (st.ev t) i<;>rfl
theorem aAl (S:Nat) (parts:Array (Nat × Operand)):cH P call ops ⟨d,.build S parts,T,pos,eQ,none⟩ st=cS (iW P st S parts.toList) fun v=>some (st.put d v):=by
 rw[eD];simp only[dO,iX];cases iW P st S parts.toList<;>rfl
theorem aAm (S:Nat) (x:Operand) (lo hi:Option Operand):cH P call ops ⟨d,.slice S x lo hi none,T,pos,eQ,none⟩ st=cS (dA P st S (st.ev x) lo hi) fun v=>some (st.put d v):=by
 rw[eD];simp only[dO,iX];cases dA P st S (st.ev x) lo hi<;>rfl
theorem aAn (S d:Nat):cH P call ops ⟨some d,.alloc S,T,pos,eQ,none⟩ st=cS (eH P S) fun z=>some ((st.new d (.cells (z.map .v))).put (some d) (.ptr d (st.aQ d) 0)):=by
 rw[eD];simp only[dO,cS];cases eH P S with
 | none=>rfl
 | some z=>simp only[Option.map_some,lJ]
theorem aHo (S d:Nat) (x:Operand):cH P call ops ⟨some d,.box S x,T,pos,eQ,none⟩ st=if (st.ev x).jD=true then some ((st.new d (.cells (st.ev x).cells)).put (some d) (.ptr d (st.aQ d) 0)) else none:=by
 rw[eD];simp only[dO,cS];split
 ·simp only[Option.map_some,lJ]
 ·rfl
theorem aAo (S:Nat) (x y:Operand):cH P call ops ⟨d,.store S x y,T,pos,eQ,none⟩ st=cS (Vm P st S (st.ev x) (st.ev y)) fun s=>some (s.put d (.v undef)):=by
 rw[eD];simp only[dO,Vm];cases pZ P st S (st.ev x) (st.ev y)<;>rfl
theorem aDg (g:Nat) (args:Array Operand) (tL:Array Nat) (h:Ext.mv g=false) (h2:Ext.eat g d=false):cH P call ops ⟨d,.call ⟨.value (.func g),args,tL⟩,T,pos,eQ,none⟩ st=cS (aN call g (args.toList.map st.ev) st d) fun e=>some (e.apply st):=by
 rw[eD];simp only[dO,iT,nY,h,h2,Bool.false_eq_true,if_false];cases aN call g (args.toList.map st.ev) st d<;>rfl
theorem aAp (g:Nat) (args:Array Operand) (tL:Array Nat) (h:Ext.mv g=true):cH P call ops ⟨d,.call ⟨.value (.func g),args,tL⟩,T,pos,eQ,none⟩ st=cS (lL call g (args.toList.map st.ev) st d) fun e=>some (e.apply st):=by
 rw[eD];simp only[dO,iT,nY,h,if_true];cases lL call g (args.toList.map st.ev) st d<;>rfl
theorem WN (g:Nat) (args:Array Operand) (tL:Array Nat) (h:Ext.mv g=false) (h2:Ext.eat g d=true):cH P call ops ⟨d,.call ⟨.value (.func g),args,tL⟩,T,pos,eQ,none⟩ st=cS (fF call g (args.toList.map st.ev) st d) fun e=>some (e.apply st):=by
 rw[eD];simp only[dO,iT,nY,h,h2,Bool.false_eq_true,if_false,if_true];cases fF call g (args.toList.map st.ev) st d<;>rfl
theorem aAq (t:Nat) (args:Array Operand) (tL:Array Nat) {g:Nat} {mF:List AV} (h:st.env t=.rS g mF):cH P call ops ⟨d,.call ⟨.value (.tmp t),args,tL⟩,T,pos,eQ,none⟩ st=cS (aN call g (args.toList.map st.ev++mF) st d) fun e=>some (e.apply st):=by
 rw[eD];simp only[dO,iT,nY,St.ev,h,FZ];show Option.map _ (aN call g (args.toList.map st.ev++mF) st d)=cS (aN call g (args.toList.map st.ev++mF) st d) _
 cases aN call g (args.toList.map st.ev++mF) st d<;>rfl
theorem G1 (S:Nat) (x:Operand) (lo:Option Operand) (hi mx:Operand):cH P call ops ⟨d,.slice S x lo (some hi) (some mx),T,pos,eQ,none⟩ st=cS (At P st S (st.ev x) lo hi mx) fun v=>some (st.put d v):=by
 rw[eD];simp only[dO,iX];cases At P st S (st.ev x) lo hi mx<;>rfl
theorem G3 (S:Nat) (x i:Operand) (ok:Bool):cH P call ops ⟨d,.lookup S x i ok,T,pos,eQ,none⟩ st=cS (Sn P st S (st.ev x) (st.ev i) ok) fun v=>some (st.put d v):=by
 rw[eD];simp only[dO,iX];cases Sn P st S (st.ev x) (st.ev i) ok<;>rfl
theorem WO (S d:Nat):cH P call ops ⟨some d,.makeMap S none,T,pos,eQ,none⟩ st=some ((st.new d (.map [])).put (some d) (.mp d (st.aQ d))):=by
 rw[eD];simp only[dO,cS,Option.map_some,lJ]
theorem IT (S:Nat) (m x y:Operand):cH P call ops ⟨d,.mapUpdate S m x y,T,pos,eQ,none⟩ st=cS (tT P st S (st.ev m) (st.ev x) (st.ev y)) fun u=>some ((st.jB u.1 u.2.1 (some u.2.2)).put d (.v undef)):=by
 rw[eD];simp only[dO];cases tT P st S (st.ev m) (st.ev x) (st.ev y)<;>rfl
theorem PL (g:Nat) (mF:Array Operand):cH P call ops ⟨d,.makeFunc (.func g) #[] mF,T,pos,eQ,none⟩ st=some (st.put d (.rS g (mF.toList.map st.ev))):=by
 rw[eD];simp only[dO,iX,if_true,Option.map_some];rfl
theorem kY (S n d:Nat) (parts:Array (Nat × Operand)):cH P call ops ⟨some d,.buildSlice S n parts,T,pos,eQ,none⟩ st=cS (dS P S) fun t=>cS (eH P t.1) fun z =>
 if (0<n∨parts=#[])∧n * t.2.1≤2 ^ 24∧(parts.toList.all fun p=>(st.ev p.2).jD)=true then
  cS (gS (fun i=>some (i * t.2.1,t.2.1)) ((List.range n).flatMap fun _=>z.map .v) (parts.toList.map fun p=>(p.1,st.ev p.2))) fun cs =>
   some ((st.new d (.row t.1 t.2.1 n cs)).put (some d) (.own d (st.aQ d)))
 else none:=by
 rw[eD];simp only[dO,cS];cases dS P S with
 | none=>rfl
 | some t =>
   simp only
   cases eH P t.1 with
   | none=>rfl
   | some z =>
     simp only
     split
     ·cases gS (fun i=>some (i * t.2.1,t.2.1)) ((List.range n).flatMap fun _=>z.map .v) (parts.toList.map fun p=>(p.1,st.ev p.2)) with
      | none=>rfl
      | some cs=>simp only[Option.map_some,lJ]
     ·rfl
theorem IU (S d:Nat) (l c:Operand) {n:Nat} (hl:st.ev l=.v (.int .i64 n)) (hc:st.ev c=.v (.int .i64 n)):cH P call ops ⟨some d,.makeSlice S l c,T,pos,eQ,none⟩ st=cS (dS P S) fun t=>cS (eH P t.1) fun z =>
 if (n:Int) * t.2.2≤140737488355328∧(n:Int)≤maxLen then some ((st.new d (.row t.1 t.2.1 n ((List.range n).flatMap fun _=>z.map .v))).put (some d) (.own d (st.aQ d))) else none:=by
 rw[eD];simp only[dO,cS,hl,hc];cases dS P S with
 | none=>rfl
 | some t =>
   simp only
   cases eH P t.1 with
   | none=>rfl
   | some z =>
     simp only[Int.toNat_natCast,Int.natCast_nonneg,true_and];split
     ·simp only[Option.map_some,lJ]
     ·rfl
theorem aHp (x:Operand) (S:Nat) (tL:Array Nat) (h:tL=#[S]):cH P call ops ⟨d,.call ⟨.builtin .len,#[x],tL⟩,T,pos,eQ,none⟩ st=cS (dS P S) fun _=>cS (aW st (st.ev x)) fun nc=>some (st.put d (.v (.int .i64 nc.1))):=by
 subst h;rw[eD];simp only[dO,iT];cases dS P S with
 | none=>rfl
 | some t=>cases aW st (st.ev x) with
   | none=>rfl
   | some nc=>cases nc;rfl
theorem aDh (x:Operand) (S:Nat):cH P call ops ⟨d,.call ⟨.builtin .len,#[x],#[S]⟩,T,pos,eQ,none⟩ st=cS (dS P S) fun _=>cS (aW st (st.ev x)) fun nc=>some (st.put d (.v (.int .i64 nc.1))):=aHp x S #[S] rfl
theorem FR (s x:Operand) (S d:Nat) (tL:Array Nat) (h:tL=#[S,S]) (hv:Ext.va S d=false) (hp:¬(Ext.pa S d=true∧Gn P st S (st.ev s) (st.ev x))):cH P call ops ⟨some d,.call ⟨.builtin .append,#[s,x],tL⟩,T,pos,eQ,none⟩ st=cS (dH P st S (st.ev s) (st.ev x)) fun ur =>
 some (((match ur.1 with|some p=>st.jB p.1 p.2 none|none=>st).new d ur.2).put (some d) (.own d (st.aQ d))):=by
 subst h;rw[eD];simp only[dO,iT,cS,if_true,hv,Bool.false_eq_true,if_false];rw[if_neg hp];cases dH P st S (st.ev s) (st.ev x) with
 | none=>rfl
 | some ur =>
   obtain⟨u,r⟩:=ur
   cases u with
   | none=>simp only[Option.map_some,Option.map_none,lJ]
   | some p=>simp only[Option.map_some,Rl]
theorem WQ (s x:Operand) (S d:Nat) (hv:Ext.va S d=false) (hp:Ext.pa S d=false):cH P call ops ⟨some d,.call ⟨.builtin .append,#[s,x],#[S,S]⟩,T,pos,eQ,none⟩ st=cS (dH P st S (st.ev s) (st.ev x)) fun ur =>
 some (((match ur.1 with|some p=>st.jB p.1 p.2 none|none=>st).new d ur.2).put (some d) (.own d (st.aQ d))):=FR s x S d #[S,S] rfl hv (by rw[hp];exact fun h=>absurd h.1 (by simp))
theorem aAr (s x:Operand) (S d:Nat) (hv:Ext.va S d=false) (hp:Ext.pa S d=true) (hn:¬(st.ev s=.v (.slice none 0 0)∧(aW st (st.ev x)).map Prod.fst=some 0)):cH P call ops ⟨some d,.call ⟨.builtin .append,#[s,x],#[S,S]⟩,T,pos,eQ,none⟩ st=cS (dH P st S (st.ev s) (st.ev x)) fun ur =>
 some (((match ur.1 with|some p=>st.jB p.1 p.2 none|none=>st).new d ur.2).put (some d) (.own d (st.aQ d))):=FR s x S d #[S,S] rfl hv (fun h=>hn ⟨h.2.1,h.2.2.2⟩)
theorem aAs (s x:Operand) (S d:Nat) (hv:Ext.va S d=false) (hp:Ext.pa S d=true) (hi:(dS P S).isSome=true) (h1:st.ev s=.v (.slice none 0 0)) (h2:(aW st (st.ev x)).map Prod.fst=some 0):cH P call ops ⟨some d,.call ⟨.builtin .append,#[s,x],#[S,S]⟩,T,pos,eQ,none⟩ st=some (st.put (some d) (.v (.slice none 0 0))):=by
 rw[eD];simp only[dO,iT,cS,if_true,hv,Bool.false_eq_true,if_false];rw[if_pos ⟨hp,h1,hi,h2⟩];simp only[rT.apply];rfl
theorem NZ (x:Operand) (S:Nat):cH P call ops ⟨d,.call ⟨.builtin .clear,#[x],#[S]⟩,T,pos,eQ,none⟩ st=cS (sA P st S (st.ev x)) fun u =>
 some ((match u with|some p=>st.jB p.1 p.2.1 (some p.2.2)|none=>st).put d (.eE [])):=by
 rw[eD];simp only[dO,iT];cases sA P st S (st.ev x) with
 | none=>rfl
 | some u=>cases u<;>rfl
theorem aAt (x:Value):st.ev (.const x)=.v x:=rfl
theorem aHq (t:Nat):st.ev (.tmp t)=st.env t:=rfl
theorem aDi (t d:Nat) (x:AV):(st.put (some d) x).env t=if t=d then x else st.env t:=rfl
theorem IV (t:Nat) (x:AV):(st.put none x).env t=st.env t:=rfl
theorem aDj (t d:Nat) (e:nU):(st.new d e).env t=st.env t:=rfl
theorem aAu (t s g:Nat) (e:Option nU):(st.jB s g e).env t=st.env t:=rfl
theorem aDk (t:Nat) (d:Option Nat) (x:AV):(st.put d x).aQ t=st.aQ t:=by cases d<;>rfl
theorem aDl (t d:Nat) (e:nU):(st.new d e).aQ t=if t=d then st.aQ d+1 else st.aQ t:=rfl
theorem aAv (t s g:Nat) (e:Option nU):(st.jB s g e).aQ t=st.aQ t:=rfl
theorem Xx (s g:Nat) (d:Option Nat) (x:AV):(st.put d x).heap s g=st.heap s g:=by cases d<;>rfl
theorem Xy (s g d:Nat) (e:nU):(st.new d e).heap s g=if s=d∧g=st.aQ d then some e else st.heap s g:=rfl
theorem Dj (s g s0 g0:Nat) (e:Option nU):(st.jB s0 g0 e).heap s g=if s=s0∧g=g0 then e else st.heap s g:=rfl
theorem aAw (t:Nat) (xs:List AV):(St.init xs).env t=(xs[t]?).getD (.v undef):=rfl
theorem aAx (t:Nat) (xs:List AV):(St.init xs).aQ t=0:=rfl
theorem G4 (s g:Nat) (xs:List AV):(St.init xs).heap s g=none:=rfl
theorem aAy (x:AV):st.put none x=st:=rfl
theorem PM (d:Option Nat) (x:AV):({ dst:=d,val:=x }:rT).apply st=st.put d x:=rfl
theorem G5 (d:Option Nat) (x:AV) (n:Nat) (e:nU):({ dst:=d,val:=x,new:=some (n,[e])}:rT).apply st=(st.new n e).put d x:=lJ d x n e
theorem G6 (d:Option Nat) (x:AV) (s g:Nat) (e:Option nU):({ dst:=d,val:=x,dQ:=some (s,g,e)}:rT).apply st=(st.jB s g e).put d x:=rfl
theorem IW (d:Option Nat) (x:AV) (s g n:Nat) (z:Option nU) (e:nU):({ dst:=d,val:=x,dQ:=some (s,g,z),new:=some (n,[e])}:rT).apply st=((st.jB s g z).new n e).put d x:=Rl d x s g n z e
theorem bG {g:Nat} {args:List AV} {r:AV} (hf:∀x∈args,Flat x) (h:call g args=some r) (hr:Flat r):aN call g args st d=some { dst:=d,val:=r }:=by
 unfold aN;rw[if_pos hf,h];simp only[cS,jC,if_pos hr]
theorem jF {g:Nat} {args:List AV} {d e sz n:Nat} {cs:List AV} (hf:∀x∈args,Flat x) (h:call g args=some (.uniq e sz n cs)) :
 aN call g args st (some d)=some { dst:=some d,val:=.own d (st.aQ d),new:=some (d,[.row e sz n cs])}:=by
 unfold aN;rw[if_pos hf,h];have:¬Flat (.uniq e sz n cs):=by intro h;cases h
 simp only[cS,jC,if_neg this];rfl
end
end Go.Ab
end
section
namespace Go.Ab
open Classical
abbrev cJ:=Vector Int 32
abbrev qN:=Vector Int 4
def lI (x:Int):List AV:=[.v (.int .u64 x)]
def qS (x:Int):List AV:=[.v (.int .i64 x)]
def uY (x:Bool):List AV:=[.v (.bool x)]
def bD (r:cJ):List AV:=r.toList.map fun x=>.v (.int .u8 x)
def gI (r:qN):List AV:=r.toList.map fun x=>.v (.int .u64 x)
@[simp] theorem bB (x:Int):(lI x).length=1:=rfl
@[simp] theorem bI (x:Int):(qS x).length=1:=rfl
@[simp] theorem iA (x:Bool):(uY x).length=1:=rfl
@[simp] theorem aO (r:cJ):(bD r).length=32:=by simp[bD]
@[simp] theorem dZ (r:qN):(gI r).length=4:=by simp[gI]
theorem eC (x:Int):∀y∈lI x,Flat y:=by intro y hy;simp[lI] at hy;subst hy;exact .v _
theorem mE (x:Int):∀y∈qS x,Flat y:=by intro y hy;simp[qS] at hy;subst hy;exact .v _
theorem sZ (x:Bool):∀y∈uY x,Flat y:=by intro y hy;simp[uY] at hy;subst hy;exact .v _
theorem dT (x:cJ):∀y∈bD x,Flat y:=by intro y hy;obtain⟨z,_,rfl⟩:=List.mem_map.1 hy;exact .v _
theorem iQ (x:qN):∀y∈gI x,Flat y:=by intro y hy;obtain⟨z,_,rfl⟩:=List.mem_map.1 hy;exact .v _
theorem Lx {α:Type} (c:α→List AV) (z:Nat) (hz:∀a,(c a).length=z):∀(l:List α) (i:Nat) (h:i<l.length),rd (l.flatMap c) (i * z) z=c l[i]
 | [],i,h=>by simp at h
 | a :: l,0,h=>by simp[rd,List.take_append,hz,List.take_of_length_le]
 | a :: l,i+1,h=>by
   have ih:=Lx c z hz l i (by simpa using h)
   simp only[List.flatMap_cons,List.getElem_cons_succ];rw[← ih];simp only[rd];rw[List.drop_append,List.drop_of_length_le (by rw[hz,Nat.succ_mul];omega),hz,Nat.succ_mul]
   simp
theorem pY (a b:cJ):bD a=bD b↔a=b:=by
 constructor
 ·intro h;unfold bD at h;have h2:a.toList=b.toList:=by
   have:=congrArg (List.map (fun x:AV=>match x with|.v (.int _ n)=>n|_=>0)) h
   simpa [List.map_map,Function.comp_def] using this
  exact Vector.toList_inj.1 h2
 ·intro h;rw[h]
theorem Rq (a b:qN):gI a=gI b↔a=b:=by
 constructor
 ·intro h;unfold gI at h;have h2:a.toList=b.toList:=by
   have:=congrArg (List.map (fun x:AV=>match x with|.v (.int _ n)=>n|_=>0)) h
   simpa [List.map_map,Function.comp_def] using this
  exact Vector.toList_inj.1 h2
 ·intro h;rw[h]
def dQ (cs:List AV) (o:Nat) (xs:List AV) (e:Nat):List AV:=cs.take o++xs++cs.drop e
section
variable {a b xs:List AV} {n o o' e e' k:Nat}
theorem bO (h:xs=b):a++xs=a++b:=by rw[h]
theorem Gc (h:xs=b):xs++a=b++a:=by rw[h]
theorem bF (h:o'=o+n) (ha:a.length=n):rd (a++b) o' k=rd b o k:=by
 subst h;subst ha;simp only[rd];rw[List.drop_append,List.drop_of_length_le (by omega),List.nil_append,show o+a.length-a.length=o by omega]
theorem gK (ha:a.length=n):rd (a++b) 0 n=a:=by
 subst ha;simp[rd]
theorem jA (ha:a.length=n):rd a 0 n=a:=by
 subst ha;simp[rd]
theorem sJ (h:o+k≤a.length):rd (a++b) o k=rd a o k:=by
 simp only[rd];rw[List.drop_append,List.take_append,show o-a.length=0 by omega,show k-(a.drop o).length=0 by simp;omega]
 simp
theorem aJ (h:o'=o+n) (ha:a.length=n):(a++b)[o']? = b[o]?:=by
 subst h;subst ha;rw[List.getElem?_append_right (by omega),show o+a.length-a.length=o by omega]
theorem eN (h:o<a.length):(a++b)[o]? = a[o]?:=List.getElem?_append_left h
theorem aD (h:o'=o+n) (h':e'=e+n) (ha:a.length=n):dQ (a++b) o' xs e'=a++dQ b o xs e:=by
 subst h;subst h';subst ha;simp only[dQ];rw[List.take_append,List.take_of_length_le (by omega),List.drop_append,List.drop_of_length_le (by omega),show o+a.length-a.length=o by omega,show e+a.length-a.length=e by omega]
 simp
theorem cI (ha:a.length=n):dQ (a++b) 0 xs n=xs++b:=by
 subst ha;simp[dQ]
theorem eK (ha:a.length=n):dQ a 0 xs n=xs:=by
 subst ha;simp[dQ]
theorem uZ (h:o≤e∧e≤a.length):dQ (a++b) o xs e=dQ a o xs e++b:=by
 simp only[dQ];rw[List.take_append,List.drop_append,show o-a.length=0 by omega,show e-a.length=0 by omega]
 simp
end
theorem Hz (a b:Int):lI a=lI b↔a=b:=by simp[lI]
theorem xC (a b:Int):qS a=qS b↔a=b:=by simp[qS]
theorem FU (a b:Bool):uY a=uY b↔a=b:=by simp[uY]
def dR:cJ:=Vector.replicate 32 0
def FV:qN:=Vector.replicate 4 0
def tJ:List Value:=List.replicate 32 (.int .u8 0)
def Zh:List Value:=List.replicate 4 (.int .u64 0)
theorem jL:tJ.map AV.v=bD dR:=by simp[tJ,bD,dR]
theorem jM:Zh.map AV.v=gI FV:=by simp[Zh,gI,FV]
def Ia:List Bool:=List.replicate 32 true
def o6:List Bool:=List.replicate 4 true
theorem fV {l m:List Bool}:∀ {xs ys xs' ys':List AV},iS l xs ys→iS m xs' ys'→iS (l++m) (xs++xs') (ys++ys'):=by
 induction l with
 | nil=>intro xs ys xs' ys' h h';cases xs<;>cases ys<;>first|exact h'|exact h.elim
 | cons b l ih =>
   intro xs ys xs' ys' h h'
   cases b
   ·cases xs with
    | nil=>exact h.elim
    | cons x xs=>cases ys with
      | nil=>unfold iS at h;split at h<;>first|exact h.elim|simp_all
      | cons y ys =>
        unfold iS at h;split at h<;>simp_all [iS]
   ·cases xs with
    | nil=>exact h.elim
    | cons x xs=>cases ys with
      | nil=>unfold iS at h;split at h<;>first|exact h.elim|simp_all
      | cons y ys =>
        unfold iS at h;split at h<;>simp_all [iS]
theorem Ly (k:IntKind):∀(a b:List Int),a.length=b.length→iS (List.replicate a.length true) (a.map fun x=>.v (.int k x)) (b.map fun x=>.v (.int k x))
 | [],[],_=>trivial
 | [],_ :: _,h=>by simp at h
 | _ :: _,[],h=>by simp at h
 | a :: l,b :: m,h=>⟨rfl,Ly k l m (by simpa using h)⟩
theorem nP (a b:cJ):iS Ia (bD a) (bD b):=by
 have:=Ly .u8 a.toList b.toList (by simp)
 rw[Vector.length_toList] at this;exact this
theorem Lz (a b:qN):iS o6 (gI a) (gI b):=by
 have:=Ly .u64 a.toList b.toList (by simp)
 rw[Vector.length_toList] at this;exact this
def PN (P:Program) (T:Nat):Option (List (Nat × Nat)) :=
 match P.underlying T with
 | some (.struct fs)=>if fs.all (fun f=>(P.info? f.type).isSome) then some (fs.toList.map fun f=>(f.offset,P.cellsOf f.type)) else none
 | _=>none
def PO (P:Program) (T:Nat):Option Nat :=
 match P.underlying T with
 | some (.array _ e)=>if (P.info? e).isSome then some (P.cellsOf e) else none
 | _=>none
theorem fC {P:Program} {T:Nat} {l:List (Nat × Nat)} (h:PN P T=some l):placeOf P T=some fun i=>l[i]?:=by
 unfold PN at h;unfold placeOf;split at h
 ·rename_i fs hu;split at h
  ·rename_i Kw;simp only[Option.some.injEq] at h;subst h;simp only[hu,Kw,if_true];congr 1
   funext i
   simp
  ·cases h
 ·cases h
theorem Tp {P:Program} {T k:Nat} (h:PO P T=some k):placeOf P T=some fun i=>some (i * k,k):=by
 unfold PO at h;unfold placeOf;split at h
 ·rename_i n e hu;split at h
  ·rename_i Kw;simp only[Option.some.injEq] at h;subst h;simp only[hu,Kw,if_true]
  ·cases h
 ·cases h
theorem iG {P:Program} {st:St} {T:Nat} {parts:List (Nat × Operand)} {z:List Value} {place:Nat→Option (Nat × Nat)} {c:List AV} (hz:eH P T=some z) (hc:z.map AV.v=c) (hp:placeOf P T=some place) :
 iW P st T parts=if (parts.all fun p=>(st.ev p.2).jD)=true then (gS place c (parts.map fun p=>(p.1,st.ev p.2))).map .agg else none:=by
 simp only[iW,hz,hp,hc]
theorem MC (place:Nat→Option (Nat × Nat)) (c:List AV):gS place c []=some c:=rfl
theorem EI (place:Nat→Option (Nat × Nat)) (c:List AV) (i:Nat) (x:AV) (r:List (Nat × AV)):gS place c ((i,x) :: r)=cS (place i) fun os =>
 if x.cells.length=os.2∧os.1+os.2≤c.length then gS place (dQ c os.1 x.cells (os.1+os.2)) r else none:=by
 simp only[gS];cases place i<;>rfl
theorem sK {P:Program} {T:Nat} {l:List Bool} {xs ys:List AV} {p:Prop} [Decidable p] (hl:eW P 20 T=some l) (ha:dF P T=true) (hg:P.eqGuardType P.depth T=false) (hf:iS l xs ys) (hp:xs=ys↔p) :
 wJ P T xs ys=some (decide p):=by
 unfold wJ;rw[hl];simp only[ha,hg,hf,and_self,if_true];congr 1
 rw[Bool.eq_iff_iff];simp[hp]
def sO (P:Program) (T:Nat):Option Nat :=
 match fQ P T with
 | some (_,k)=>some k
 | none=>none
theorem G7 {P:Program} {st:St} {T s g o:Nat} {x:AV}:Vm P st T (.ptr s g o) x=cS (sO P T) fun k=>if x.cells.length=k∧x.jD=true then
 (match st.heap s g with
  | some (.cells cs)=>if o+k≤cs.length then some (st.jB s g (some (.cells (dQ cs o x.cells (o+k))))) else none
  | some (.row e sz n cs)=>if o+k≤cs.length then some (st.jB s g (some (.row e sz n (dQ cs o x.cells (o+k))))) else none
  | _=>none) else none:=by
 simp only[Vm,pZ,sO];cases fQ P T with
 | none=>rfl
 | some bk =>
   obtain⟨b,k⟩:=bk
   simp only[cS];split
   ·split
    ·rename_i h;simp only[h];split<;>rfl
    ·rename_i h;simp only[h];split<;>rfl
    ·rename_i h1 h2;split<;>rename_i h<;>first|rfl|exact absurd h (h1 _)|exact absurd h (h2 _ _ _ _)
   ·rfl
theorem PQ (s:cJ):rd (bD s) 0 32=bD s:=jA (aO _)
theorem PR (s x:cJ):dQ (bD s) 0 (bD x) 32=bD x:=eK (aO _)
theorem PS (s:qN):rd (gI s) 0 4=gI s:=jA (dZ _)
theorem PT (s x:qN):dQ (gI s) 0 (gI x) 4=gI x:=eK (dZ _)
theorem wrap_i64 (x:Int) (h1:-9223372036854775808≤x) (h2:x≤9223372036854775807):IntKind.i64.wrap x=x:=by
 rw[IntKind.wrap_i64];omega
theorem mW (s g:Nat):¬Flat (.own s g):=by intro h;cases h
theorem yD (s g o:Nat):¬Flat (.ptr s g o):=by intro h;cases h
theorem eB {st:St} {x:AV} (h:Flat x):fO st x=some x:=by unfold fO;rw[if_pos h]
theorem kA {st:St} {s g e sz n:Nat} {cs:List AV} (h:st.heap s g=some (.row e sz n cs)) (hf:∀c∈cs,Flat c):cN st (.own s g)=some (.sl n cs):=by
 unfold cN;rw[if_neg (mW s g)];simp only[h];rw[if_pos hf]
theorem cV {st:St} {x:AV} (h:Flat x):cN st x=some x:=by unfold cN;rw[if_pos h]
theorem aAz {st:St} {x:AV} (h:Flat x):wK st x=some x:=by unfold wK;rw[if_pos h]
theorem Gv {st:St}:∀ {cs:List AV},(∀c∈cs,Flat c)→cM (cs.map (wK st))=some cs
 | [],_=>rfl
 | c :: cs,h=>by
   rw[List.map_cons,aAz (h c (by simp))]
   have ih:=Gv (st:=st) (cs:=cs) fun d hd=>h d (List.mem_cons_of_mem _ hd)
   simp only[cM,ih,Option.map_some]
theorem WR {st:St} {s g o:Nat} {cs:List AV} (h:st.heap s g=some (.cells cs)):cN st (.ptr s g o)=(cM (cs.map (wK st))).map fun ds=>.ip ds o:=by
 unfold cN;rw[if_neg (yD s g o)];simp only[h]
theorem G8 {st:St} {s g o:Nat} {cs:List AV} (h:st.heap s g=some (.cells cs)) (hf:∀c∈cs,Flat c):cN st (.ptr s g o)=some (.ip cs o):=by
 rw[WR h,Gv hf];rfl
theorem Xz {st:St} {s g e sz n:Nat} {cs:List AV} (h:st.heap s g=some (.row e sz n cs)) (hf:∀c∈cs,Flat c):fO st (.own s g)=some (.sl n cs):=by
 unfold fO;rw[if_neg (mW s g)];exact kA h hf
theorem OB {st:St} {s g o:Nat} {cs:List AV} (h:st.heap s g=some (.cells cs)) (hf:∀c∈cs,Flat c):fO st (.ptr s g o)=some (.ip cs o):=by
 unfold fO;rw[if_neg (yD s g o)];exact G8 h hf
section
variable [Ext]
theorem aAA {P:Program} {f:Nat} {fn:Func} {t:Nat} {st:St} {x:AV} {e:Ex} (hk:Ext.qO f=false) (he:e=.ret∨e=.normal) (hr:fn.results.toList=[.tmp t]) (hx:st.env t=x) (hf:Flat x):Al P f fn (e,st)=some x:=by
 have h1:jQ P f fn st=some x:=by
  unfold jQ;rw[hk,if_neg (by simp)]
  unfold wB;rw[hr];simp only[lM,cS,hx,So];cases hf<;>simp only[fO]<;>rw[if_pos]<;>constructor<;>assumption
 rcases he with rfl|rfl<;>exact h1
theorem G9 {P:Program} {f:Nat} {fn:Func} {t T:Nat} {st:St} {y x:AV} {e:Ex} (hk:Ext.qO f=false) (he:e=.ret∨e=.normal) (hr:fn.results.toList=[.cell t T]) (hy:st.env t=y) (hx:Fm P st T y=some x) (hf:Flat x):Al P f fn (e,st)=some x:=by
 have h1:jQ P f fn st=some x:=by
  unfold jQ;rw[hk,if_neg (by simp)]
  unfold wB;rw[hr];show cS (cS (qP st (st.env t)) (yA P T)) (So st)=some x
  rw[hy,Pa,hx];simp only[cS,So];cases hf<;>simp only[fO]<;>rw[if_pos]<;>constructor<;>assumption
 rcases he with rfl|rfl<;>exact h1
theorem Xk {P:Program} {f:Nat} {fn:Func} {t:Nat} {st:St} {e:Ex} {s g e' sz n:Nat} {cs:List AV} (hk:Ext.qO f=false) (he:e=.ret∨e=.normal) (hr:fn.results.toList=[.tmp t]) (hx:st.env t=.own s g) (hh:st.heap s g=some (.row e' sz n cs)) (hf:∀c∈cs,Flat c):Al P f fn (e,st)=some (.uniq e' sz n cs):=by
 have h1:jQ P f fn st=some (.uniq e' sz n cs):=by
  unfold jQ;rw[hk,if_neg (by simp)]
  unfold wB;rw[hr];simp only[lM,cS,hx,So,hh];rw[if_pos hf]
 rcases he with rfl|rfl<;>exact h1
theorem WS {P:Program} {f:Nat} {fn:Func} {t T:Nat} {st:St} {e:Ex} {z:AV} {cs:List AV} {y:AV} (hk:Ext.qO f=false) (he:e=.ret∨e=.normal) (hr:fn.results.toList=[.cell t T]) (hz:st.env t=z) (hx:Fm P st T z=some (.agg cs)) (hy:fO st (.agg cs)=some y):Al P f fn (e,st)=some y:=by
 have h1:jQ P f fn st=some y:=by
  unfold jQ;rw[hk,if_neg (by simp)]
  unfold wB;rw[hr];show cS (cS (qP st (st.env t)) (yA P T)) (So st)=some y
  rw[hz,Pa,hx];simp only[cS,So,hy]
 rcases he with rfl|rfl<;>exact h1
def bY (P:Program) (st:St) (r:ResultVar):Option AV :=
 match r with
 | .tmp t=>some (st.env t)
 | .cell t T=>Fm P st T (st.env t)
theorem rH (P:Program) (st:St) (r:ResultVar):lM P st r=bY P st r:=by
 cases r with
 | tmp t=>rfl
 | cell t T=>exact Pa P st T _
theorem aAB {P:Program} {f:Nat} {fn:Func} {st:St} {e:Ex} {r1 r2:ResultVar} {x1 x2 y1 y2:AV} (hk:Ext.qO f=false) (he:e=.ret∨e=.normal) (hr:fn.results.toList=[r1,r2])
 (h1:bY P st r1=some x1) (h2:bY P st r2=some x2) (e1:fO st x1=some y1) (e2:fO st x2=some y2):Al P f fn (e,st)=some (.eE [y1,y2]):=by
 have h:jQ P f fn st=some (.eE [y1,y2]):=by
  unfold jQ;rw[hk,if_neg (by simp)]
  unfold wB;rw[hr];simp only[List.map_cons,List.map_nil,rH,h1,h2,cS,Dm e1,Dm e2,cM,Option.map_some]
 rcases he with rfl|rfl<;>exact h
theorem H0 {P:Program} {f:Nat} {fn:Func} {st:St} {e:Ex} {r1 r2:ResultVar} {x1 x2 y1 y2:AV} (hk:Ext.qO f=false) (he:e=.ret∨e=.normal) (hr:fn.results.toList=[r1,r2])
 (h1:bY P st r1=some x1) (h2:bY P st r2=some x2) (e0:fO st x1=none) (e1:Mt st x1=some y1) (e2:fO st x2=some y2):Al P f fn (e,st)=some (.eE [y1,y2]):=by
 have X7:Co st x1=some y1:=(VQ e0).trans e1
 have h:jQ P f fn st=some (.eE [y1,y2]):=by
  unfold jQ;rw[hk,if_neg (by simp)]
  unfold wB;rw[hr];simp only[List.map_cons,List.map_nil,rH,h1,h2,cS,X7,Dm e2,cM,Option.map_some]
 rcases he with rfl|rfl<;>exact h
theorem WU {P:Program} {f:Nat} {fn:Func} {st:St} {e:Ex} {r1 r2 r3:ResultVar} {x1 x2 x3 y1 y2 y3:AV} (hk:Ext.qO f=false) (he:e=.ret∨e=.normal) (hr:fn.results.toList=[r1,r2,r3])
 (h1:bY P st r1=some x1) (h2:bY P st r2=some x2) (h3:bY P st r3=some x3) (e1:fO st x1=some y1) (e2:fO st x2=some y2) (e3:fO st x3=some y3):Al P f fn (e,st)=some (.eE [y1,y2,y3]):=by
 have h:jQ P f fn st=some (.eE [y1,y2,y3]):=by
  unfold jQ;rw[hk,if_neg (by simp)]
  unfold wB;rw[hr];simp only[List.map_cons,List.map_nil,rH,h1,h2,h3,cS,Dm e1,Dm e2,Dm e3,cM,Option.map_some]
 rcases he with rfl|rfl<;>exact h
end
section
variable [Ext]
theorem H2 {P:Program} (c:Operand) (a b:Code) (st:St):zC P (.cond c a b) st=onB (st.ev c) fun t=>if t=true then zC P a st else zC P b st:=by
 cases h:st.ev c with
 | v x =>
   cases x with
   | bool t=>exact aAg P c a b st h
   | _ =>
     apply Option.ext
     intro r;rw[o0];constructor
     ·rintro⟨n,m,h'⟩
      cases m with
      | zero=>simp[uS] at h'
      | succ m=>simp[uS,h] at h'
     ·intro h';simp[onB] at h'
 | _ =>
   apply Option.ext
   intro r;rw[o0];constructor
   ·rintro⟨n,m,h'⟩
    cases m with
    | zero=>simp[uS] at h'
    | succ m=>simp[uS,h] at h'
   ·intro h';simp[onB] at h'
def o7 (ops:Array Oper) (j:Nat):Option Nat:=(ops[j]?).bind (·.dst)
def WV {α:Type} (x:AV) (want:Bool) (y n:Option α):Option α :=
 match x with
 | .v (.bool b)=>if b=want then y else n
 | .v _=>n
 | _=>none
def onS {α:Type} (d:Option Nat) (k:Nat→Option α) (n:Option α):Option α :=
 match d with
 | some d=>k d
 | none=>n
@[congr] theorem aHr {α:Type} {x x':AV} {want:Bool} {y n:Option α} (h:x=x'):WV x want y n=WV x' want y n:=by rw[h]
@[congr] theorem aJD {α:Type} {d d':Option Nat} {k:Nat→Option α} {n:Option α} (h:d=d'):onS d k n=onS d' k n:=by rw[h]
theorem H3 {α:Type} (b:Bool) (y n:Option α):WV (.v (.bool b)) true y n=if b=true then y else n:=rfl
theorem WW {α:Type} (b:Bool) (y n:Option α):WV (.v (.bool b)) false y n=if b=false then y else n:=rfl
theorem WX {α:Type} (w:Bool) (y n:Option α):WV (.v undef) w y n=n:=rfl
theorem aAC {α:Type} (d:Nat) (k:Nat→Option α) (n:Option α):onS (some d) k n=k d:=rfl
theorem H4 {P:Program} {call:Nat→List AV→Option AV} {ops:Array Oper} {st:St} {d:Option Nat} {T:Nat} {pos:String} {eQ:Array Edge} (op:Op) (j:Nat) (want:Bool) :
 cH P call ops ⟨d,op,T,pos,eQ,some (j,want)⟩ st=onS (o7 ops j) (fun s=>WV (st.env s) want (cH P call ops ⟨d,op,T,pos,eQ,none⟩ st) (some (st.put d (.v undef)))) (some (st.put d (.v undef))):=by
 simp only[cH,gv,o7];cases (ops[j]?).bind (·.dst) with
 | none=>simp[onS]
 | some s =>
   simp only[onS];cases st.env s with
   | v x=>cases x<;>simp[WV,dO]<;>rename_i b<;>cases b<;>cases want<;>simp[dO]
   | _=>rfl
end
section
variable {P:Program} {T:Nat} {k k1:IntKind} {a b:Int}
theorem aDm:gL P .add T (.v (.int k a)) (.v (.int k b))=some (.v (.int k (k.wrap (a+b)))):=by simp[gL]
theorem aDn:gL P .sub T (.v (.int k a)) (.v (.int k b))=some (.v (.int k (k.wrap (a-b)))):=by simp[gL]
theorem aDo:gL P .mul T (.v (.int k a)) (.v (.int k b))=some (.v (.int k (k.wrap (a * b)))):=by simp[gL]
theorem aDp:gL P .and T (.v (.int k a)) (.v (.int k b))=some (.v (.int k (k.wrap (BitVec.ofInt k.bits a &&& BitVec.ofInt k.bits b).toNat))):=by simp[gL]
theorem aDq:gL P .eql T (.v (.int k a)) (.v (.int k b))=some (.v (.bool (a == b))):=by simp[gL]
theorem aDr:gL P .neq T (.v (.int k a)) (.v (.int k b))=some (.v (.bool (a != b))):=by simp[gL]
theorem aDs:gL P .lss T (.v (.int k a)) (.v (.int k b))=some (.v (.bool (decide (a<b)))):=by simp[gL]
theorem aDt:gL P .leq T (.v (.int k a)) (.v (.int k b))=some (.v (.bool (decide (a≤b)))):=by simp[gL]
theorem aDu:gL P .gtr T (.v (.int k a)) (.v (.int k b))=some (.v (.bool (decide (a > b)))):=by simp[gL]
theorem aDv:gL P .geq T (.v (.int k a)) (.v (.int k b))=some (.v (.bool (decide (a≥b)))):=by simp[gL]
theorem aDw (h:b≠0):gL P .quo T (.v (.int k a)) (.v (.int k b))=some (.v (.int k (k.wrap (a.tdiv b)))):=by simp[gL,h]
theorem aDx (h:b≠0):gL P .rem T (.v (.int k a)) (.v (.int k b))=some (.v (.int k (a.tmod b))):=by simp[gL,h]
theorem aDy (h:¬b<0):gL P .shr T (.v (.int k a)) (.v (.int k1 b))=some (.v (.int k (a.fdiv (2 ^ (min b.toNat k.bits))))):=by simp[gL,h]
theorem aDz (h:¬b<0):gL P .shl T (.v (.int k a)) (.v (.int k1 b))=some (.v (.int k (k.wrap (a * 2 ^ (min b.toNat k.bits))))):=by simp[gL,h]
end
theorem IX (s:St) (k:St→Option (Ex × St)):Zg (.normal,s) k=k s:=rfl
theorem H5 (s:St) (k:St→Option (Ex × St)):Zg (.ret,s) k=some (.ret,s):=rfl
theorem WY (i:Nat) (s:St) (k:St→Option (Ex × St)):Zg (.exit i,s) k=some (.exit i,s):=rfl
theorem Wb (r:cJ) (i e:Nat) (x:Int) (h:i<32) (he:e=i+1):dQ (bD r) i [.v (.int .u8 x)] e=bD (r.set i x):=by
 subst he;simp only[dQ,bD,Vector.toList_set,List.map_set];rw[List.set_eq_take_append_cons_drop,if_pos (by simp[h])]
 simp
theorem pJ (r:qN) (i e:Nat) (x:Int) (h:i<4) (he:e=i+1):dQ (gI r) i [.v (.int .u64 x)] e=gI (r.set i x):=by
 subst he;simp only[dQ,gI,Vector.toList_set,List.map_set];rw[List.set_eq_take_append_cons_drop,if_pos (by simp[h])]
 simp
theorem Qj [Ext] {P:Program} {b:Code} (Inv:Nat→St→Prop) (Q:Ex→St→Prop)
 (step:∀n st,Inv n st→∃e st',zC P b st=some (e,st')∧((e=.normal∧∃m,m<n∧Inv m st')∨(e≠.normal∧Q e st'))):∀n st,Inv n st→∃e st',zC P (.loop b) st=some (e,st')∧e≠.normal∧Q e st':=by
 intro n;induction n using Nat.strongRecOn with
 | _ n ih =>
   intro st h;obtain⟨e,s1,h1,h2⟩:=step n st h
   rw[Gs,h1];rcases h2 with ⟨rfl,m,hm,hi⟩|⟨gR,hq⟩
   ·exact ih m hm s1 hi
   ·refine⟨e,s1, ?_,gR,hq⟩
    cases e with
    | normal=>exact absurd rfl gR
    | _=>rfl
theorem kI [Ext] {P:Program} {b:Code} {st:St} {β:Type} {k:Ex × St→Option β} {r:β} (Inv:Nat→St→Prop) (Q:Ex→St→Prop) (n:Nat)
 (step:∀n st,Inv n st→∃e st',zC P b st=some (e,st')∧((e=.normal∧∃m,m<n∧Inv m st')∨(e≠.normal∧Q e st')))
 (start:Inv n st) (rest:∀e st',Q e st'→k (e,st')=some r):cS (zC P (.loop b) st) k=some r:=by
 obtain⟨e,s1,h1,h2,h3⟩:=Qj Inv Q step n st start
 rw[h1];exact rest e s1 h3
theorem cF [Ext] {P:Program} {b:Code} {st:St} {β:Type} {k:Ex × St→Option β} {R:β→Prop} (Inv:Nat→St→Prop) (Q:Ex→St→Prop) (n:Nat)
 (step:∀n st,Inv n st→∃e st',zC P b st=some (e,st')∧((e=.normal∧∃m,m<n∧Inv m st')∨(e≠.normal∧Q e st')))
 (start:Inv n st) (rest:∀e st',Q e st'→∃r,k (e,st')=some r∧R r):∃r,cS (zC P (.loop b) st) k=some r∧R r:=by
 obtain⟨e,s1,h1,h2,h3⟩:=Qj Inv Q step n st start
 rw[h1];exact rest e s1 h3
theorem oR {α β γ:Type} (x:Option α) (f:α→Option β) (g:β→Option γ):cS (cS x f) g=cS x fun a=>cS (f a) g:=by cases x<;>rfl
theorem oX [Ext] {P:Program} {b:Code} {st st':St} {n:Nat} {Inv:Nat→St→Prop} {Q:Ex→St→Prop} (h:zC P b st=some (.normal,st')) (m:Nat) (hm:m<n) (hi:Inv m st') :
 ∃e st',zC P b st=some (e,st')∧((e=.normal∧∃m,m<n∧Inv m st')∨(e≠.normal∧Q e st')):=⟨_,_,h,.inl ⟨rfl,m,hm,hi⟩⟩
theorem aHs [Ext] {P:Program} {b:Code} {st st':St} {e:Ex} {n:Nat} {Inv:Nat→St→Prop} {Q:Ex→St→Prop} (h:zC P b st=some (e,st')) (he:e≠.normal) (hq:Q e st') :
 ∃e st',zC P b st=some (e,st')∧((e=.normal∧∃m,m<n∧Inv m st')∨(e≠.normal∧Q e st')):=⟨_,_,h,.inr ⟨he,hq⟩⟩
def aK (l:List Int):List AV:=l.flatMap qS
@[simp] theorem Jh (l:List (Int)):(aK l).length=l.length * 1:=by
 induction l with
 | nil=>rfl
 | cons x l ih=>simp only[aK,List.flatMap_cons,List.length_append,bI,List.length_cons] at *;omega
theorem gF (l:List (Int)):∀x∈aK l,Flat x:=by
 intro x hx;obtain⟨y,_,hy⟩:=List.mem_flatMap.1 hx
 exact mE y x hy
theorem aAD (l:List (Int)) (i:Nat) (h:i<l.length):rd (aK l) (i * 1) 1=qS l[i]:=Lx qS 1 (bI) l i h
def bJ (l:List Int):List AV:=l.flatMap lI
@[simp] theorem Rb (l:List (Int)):(bJ l).length=l.length * 1:=by
 induction l with
 | nil=>rfl
 | cons x l ih=>simp only[bJ,List.flatMap_cons,List.length_append,bB,List.length_cons] at *;omega
theorem iF (l:List (Int)):∀x∈bJ l,Flat x:=by
 intro x hx;obtain⟨y,_,hy⟩:=List.mem_flatMap.1 hx
 exact eC y x hy
def gY (l:List cJ):List AV:=l.flatMap bD
@[simp] theorem aHt (l:List (cJ)):(gY l).length=l.length * 32:=by
 induction l with
 | nil=>rfl
 | cons x l ih=>simp only[gY,List.flatMap_cons,List.length_append,aO,List.length_cons] at *;omega
theorem Tq (l:List (cJ)):∀x∈gY l,Flat x:=by
 intro x hx;obtain⟨y,_,hy⟩:=List.mem_flatMap.1 hx
 exact dT y x hy
structure dP where
 aG:Int
 root:cJ
def aY (s:dP):List AV:=lI s.aG++(bD s.root)
@[simp] theorem bU (s:dP):(aY s).length=33:=by simp[aY]
theorem bM (s:dP):∀x∈aY s,Flat x:=by
 intro x hx;simp only[aY,List.mem_append,List.mem_singleton] at hx;rcases hx with hx|hx
 ·(exact eC _ _ hx)
 ·(exact dT _ _ hx)
theorem jZ (s:dP):(aY s)[0]? = some (.v (.int .u64 s.aG)):=rfl
theorem Cj (s:dP) (x:Int):dQ (aY s) 0 ([.v (.int .u64 x)]) 1=aY { s with aG:=x }:=cI (bB _)
theorem uN (s:dP):rd (aY s) 1 32=bD s.root:=(bF rfl (bB _)).trans (jA (aO _))
theorem Fb (s:dP) (x:cJ):dQ (aY s) 1 (bD x) 33=aY { s with root:=x }:=(aD rfl rfl (bB _)).trans (bO (eK (aO _)))
def gN:dP:=⟨0,dR⟩
def zL:List Value:=[.int .u64 0]++(tJ)
theorem Be:zL.map AV.v=aY gN:=by simp only[zL,List.map_append,List.map_cons,List.map_nil,jL,jM];rfl
def Tr:List Bool:=[true]++(Ia)
theorem tA (a b:dP):iS Tr (aY a) (aY b):=(fV (show iS [true] [_] [_] from ⟨rfl,trivial⟩) (nP _ _))
theorem mU (a b:dP):aY a=aY b↔a=b:=by
 refine⟨fun h=>?_,fun h=>by rw[h]⟩
 cases a;cases b
 simp only[aY] at h;obtain⟨h0,h⟩:=List.append_inj h (by simp)
 have e0:=(Hz _ _).1 h0
 have e1:=(pY _ _).1 h
 subst e0 e1;rfl
theorem PU (s:dP):rd (aY s) 0 33=aY s:=jA (bU _)
theorem PV (s x:dP):dQ (aY s) 0 (aY x) 33=aY x:=eK (bU _)
structure pE where
 pj:dP
 pf:dP
def fL (s:pE):List AV:=aY s.pj++(aY s.pf)
@[simp] theorem cT (s:pE):(fL s).length=66:=by simp[fL]
theorem Ei (s:pE):∀x∈fL s,Flat x:=by
 intro x hx;simp only[fL,List.mem_append,List.mem_singleton] at hx;rcases hx with hx|hx
 ·(exact bM _ _ hx)
 ·(exact bM _ _ hx)
theorem Pb (s:pE):rd (fL s) 0 33=aY s.pj:=gK (bU _)
theorem Pc (s:pE) (x:dP):dQ (fL s) 0 (aY x) 33=fL { s with pj:=x }:=cI (bU _)
theorem xX (s:pE):(fL s)[0]? = some (.v (.int .u64 s.pj.aG)):=(eN (by rw[bU];decide)).trans (jZ _)
theorem zX (s:pE) (x:Int):dQ (fL s) 0 ([.v (.int .u64 x)]) 1=fL { s with pj:={ s.pj with aG:=x }}:=(uZ (by rw[bU];decide)).trans (Gc (Cj _ x))
theorem Pd (s:pE):rd (fL s) 33 33=aY s.pf:=(bF rfl (bU _)).trans (jA (bU _))
theorem Pe (s:pE) (x:dP):dQ (fL s) 33 (aY x) 66=fL { s with pf:=x }:=(aD rfl rfl (bU _)).trans (bO (eK (bU _)))
theorem xY (s:pE):(fL s)[33]? = some (.v (.int .u64 s.pf.aG)):=(aJ rfl (bU _)).trans (jZ _)
def Nq:pE:=⟨gN,gN⟩
def Pf:List Value:=zL++(zL)
theorem Rr:Pf.map AV.v=fL Nq:=by simp only[Pf,List.map_append,List.map_cons,List.map_nil,jL,jM,Be];rfl
def o8:List Bool:=Tr++(Tr)
theorem IY (a b:pE):iS o8 (fL a) (fL b):=(fV (tA _ _) (tA _ _))
theorem PW (a b:pE):fL a=fL b↔a=b:=by
 refine⟨fun h=>?_,fun h=>by rw[h]⟩
 cases a;cases b
 simp only[fL] at h;obtain⟨h0,h⟩:=List.append_inj h (by simp)
 have e0:=(mU _ _).1 h0
 have e1:=(mU _ _).1 h
 subst e0 e1;rfl
theorem CG (s:pE):rd (fL s) 0 66=fL s:=jA (cT _)
theorem CH (s x:pE):dQ (fL s) 0 (fL x) 66=fL x:=eK (cT _)
structure Block where
 dW:pE
 slot:Int
 root:cJ
 parent:cJ
 jK:cJ
 diff:qN
 EG:qN
 gJ:dP
 fin:dP
 Eo:Bool
def aV (s:Block):List AV:=fL s.dW++(lI s.slot++(bD s.root++(bD s.parent++(bD s.jK++(gI s.diff++(gI s.EG++(aY s.gJ++(aY s.fin++(uY s.Eo)))))))))
@[simp] theorem bR (s:Block):(aV s).length=238:=by simp[aV]
theorem Bp (s:Block):∀x∈aV s,Flat x:=by
 intro x hx;simp only[aV,List.mem_append,List.mem_singleton] at hx;rcases hx with hx|hx|hx|hx|hx|hx|hx|hx|hx|hx
 ·(exact Ei _ _ hx)
 ·(exact eC _ _ hx)
 ·(exact dT _ _ hx)
 ·(exact dT _ _ hx)
 ·(exact dT _ _ hx)
 ·(exact iQ _ _ hx)
 ·(exact iQ _ _ hx)
 ·(exact bM _ _ hx)
 ·(exact bM _ _ hx)
 ·(exact sZ _ _ hx)
theorem Fo (s:Block):rd (aV s) 0 66=fL s.dW:=gK (cT _)
theorem Ug (s:Block) (x:pE):dQ (aV s) 0 (fL x) 66=aV { s with dW:=x }:=cI (cT _)
theorem zY (s:Block):rd (aV s) 0 33=aY s.dW.pj:=(sJ (by rw[cT];decide)).trans (Pb _)
theorem Ma (s:Block) (x:dP):dQ (aV s) 0 (aY x) 33=aV { s with dW:={ s.dW with pj:=x }}:=(uZ (by rw[cT];decide)).trans (Gc (Pc _ x))
theorem rY (s:Block):(aV s)[0]? = some (.v (.int .u64 s.dW.pj.aG)):=(eN (by rw[cT];decide)).trans (xX _)
theorem Ck (s:Block) (x:Int):dQ (aV s) 0 ([.v (.int .u64 x)]) 1=aV { s with dW:={ s.dW with pj:={ s.dW.pj with aG:=x }} }:=(uZ (by rw[cT];decide)).trans (Gc (zX _ x))
theorem zZ (s:Block):rd (aV s) 33 33=aY s.dW.pf:=(sJ (by rw[cT];decide)).trans (Pd _)
theorem Mb (s:Block) (x:dP):dQ (aV s) 33 (aY x) 66=aV { s with dW:={ s.dW with pf:=x }}:=(uZ (by rw[cT];decide)).trans (Gc (Pe _ x))
theorem rZ (s:Block):(aV s)[33]? = some (.v (.int .u64 s.dW.pf.aG)):=(eN (by rw[cT];decide)).trans (xY _)
theorem Ib (s:Block):(aV s)[66]? = some (.v (.int .u64 s.slot)):=(aJ rfl (cT _)).trans (rfl)
theorem CI (s:Block) (x:Int):dQ (aV s) 66 ([.v (.int .u64 x)]) 67=aV { s with slot:=x }:=(aD rfl rfl (cT _)).trans (bO (cI (bB _)))
theorem Km (s:Block):rd (aV s) 67 32=bD s.root:=(bF rfl (cT _)).trans ((bF rfl (bB _)).trans (gK (aO _)))
theorem CJ (s:Block) (x:cJ):dQ (aV s) 67 (bD x) 99=aV { s with root:=x }:=(aD rfl rfl (cT _)).trans (bO ((aD rfl rfl (bB _)).trans (bO (cI (aO _)))))
theorem Uh (s:Block):rd (aV s) 99 32=bD s.parent:=(bF rfl (cT _)).trans ((bF rfl (bB _)).trans ((bF rfl (aO _)).trans (gK (aO _))))
theorem Ui (s:Block) (x:cJ):dQ (aV s) 99 (bD x) 131=aV { s with parent:=x }:=(aD rfl rfl (cT _)).trans (bO ((aD rfl rfl (bB _)).trans (bO ((aD rfl rfl (aO _)).trans (bO (cI (aO _)))))))
theorem Dp (s:Block):rd (aV s) 131 32=bD s.jK:=(bF rfl (cT _)).trans ((bF rfl (bB _)).trans ((bF rfl (aO _)).trans ((bF rfl (aO _)).trans (gK (aO _)))))
theorem Rs (s:Block) (x:cJ):dQ (aV s) 131 (bD x) 163=aV { s with jK:=x }:=(aD rfl rfl (cT _)).trans (bO ((aD rfl rfl (bB _)).trans (bO ((aD rfl rfl (aO _)).trans (bO ((aD rfl rfl (aO _)).trans (bO (cI (aO _)))))))))
theorem CK (s:Block):rd (aV s) 163 4=gI s.diff:=(bF rfl (cT _)).trans ((bF rfl (bB _)).trans ((bF rfl (aO _)).trans ((bF rfl (aO _)).trans ((bF rfl (aO _)).trans (gK (dZ _))))))
theorem CL (s:Block) (x:qN):dQ (aV s) 163 (gI x) 167=aV { s with diff:=x }:=(aD rfl rfl (cT _)).trans (bO ((aD rfl rfl (bB _)).trans (bO ((aD rfl rfl (aO _)).trans (bO ((aD rfl rfl (aO _)).trans (bO ((aD rfl rfl (aO _)).trans (bO (cI (dZ _)))))))))))
theorem Zi (s:Block):rd (aV s) 167 4=gI s.EG:=(bF rfl (cT _)).trans ((bF rfl (bB _)).trans ((bF rfl (aO _)).trans ((bF rfl (aO _)).trans ((bF rfl (aO _)).trans ((bF rfl (dZ _)).trans (gK (dZ _)))))))
theorem Zj (s:Block) (x:qN):dQ (aV s) 167 (gI x) 171=aV { s with EG:=x }:=(aD rfl rfl (cT _)).trans (bO ((aD rfl rfl (bB _)).trans (bO ((aD rfl rfl (aO _)).trans (bO ((aD rfl rfl (aO _)).trans (bO ((aD rfl rfl (aO _)).trans (bO ((aD rfl rfl (dZ _)).trans (bO (cI (dZ _)))))))))))))
theorem Kn (s:Block):rd (aV s) 171 33=aY s.gJ:=(bF rfl (cT _)).trans ((bF rfl (bB _)).trans ((bF rfl (aO _)).trans ((bF rfl (aO _)).trans ((bF rfl (aO _)).trans ((bF rfl (dZ _)).trans ((bF rfl (dZ _)).trans (gK (bU _))))))))
theorem CM (s:Block) (x:dP):dQ (aV s) 171 (aY x) 204=aV { s with gJ:=x }:=(aD rfl rfl (cT _)).trans (bO ((aD rfl rfl (bB _)).trans (bO ((aD rfl rfl (aO _)).trans (bO ((aD rfl rfl (aO _)).trans (bO ((aD rfl rfl (aO _)).trans (bO ((aD rfl rfl (dZ _)).trans (bO ((aD rfl rfl (dZ _)).trans (bO (cI (bU _)))))))))))))))
theorem Ic (s:Block):(aV s)[171]? = some (.v (.int .u64 s.gJ.aG)):=(aJ rfl (cT _)).trans ((aJ rfl (bB _)).trans ((aJ rfl (aO _)).trans ((aJ rfl (aO _)).trans ((aJ rfl (aO _)).trans ((aJ rfl (dZ _)).trans ((aJ rfl (dZ _)).trans ((eN (by rw[bU];decide)).trans (jZ _))))))))
theorem Pg (s:Block):rd (aV s) 204 33=aY s.fin:=(bF rfl (cT _)).trans ((bF rfl (bB _)).trans ((bF rfl (aO _)).trans ((bF rfl (aO _)).trans ((bF rfl (aO _)).trans ((bF rfl (dZ _)).trans ((bF rfl (dZ _)).trans ((bF rfl (bU _)).trans (gK (bU _)))))))))
theorem IZ (s:Block) (x:dP):dQ (aV s) 204 (aY x) 237=aV { s with fin:=x }:=(aD rfl rfl (cT _)).trans (bO ((aD rfl rfl (bB _)).trans (bO ((aD rfl rfl (aO _)).trans (bO ((aD rfl rfl (aO _)).trans (bO ((aD rfl rfl (aO _)).trans (bO ((aD rfl rfl (dZ _)).trans (bO ((aD rfl rfl (dZ _)).trans (bO ((aD rfl rfl (bU _)).trans (bO (cI (bU _)))))))))))))))))
theorem Jv (s:Block):(aV s)[204]? = some (.v (.int .u64 s.fin.aG)):=(aJ rfl (cT _)).trans ((aJ rfl (bB _)).trans ((aJ rfl (aO _)).trans ((aJ rfl (aO _)).trans ((aJ rfl (aO _)).trans ((aJ rfl (dZ _)).trans ((aJ rfl (dZ _)).trans ((aJ rfl (bU _)).trans ((eN (by rw[bU];decide)).trans (jZ _)))))))))
theorem Ph (s:Block) (x:cJ):dQ (aV s) 205 (bD x) 237=aV { s with fin:={ s.fin with root:=x }}:=(aD rfl rfl (cT _)).trans (bO ((aD rfl rfl (bB _)).trans (bO ((aD rfl rfl (aO _)).trans (bO ((aD rfl rfl (aO _)).trans (bO ((aD rfl rfl (aO _)).trans (bO ((aD rfl rfl (dZ _)).trans (bO ((aD rfl rfl (dZ _)).trans (bO ((aD rfl rfl (bU _)).trans (bO ((uZ (by rw[bU];decide)).trans (Gc (Fb _ x))))))))))))))))))
theorem Rt (s:Block):(aV s)[237]? = some (.v (.bool s.Eo)):=(aJ rfl (cT _)).trans ((aJ rfl (bB _)).trans ((aJ rfl (aO _)).trans ((aJ rfl (aO _)).trans ((aJ rfl (aO _)).trans ((aJ rfl (dZ _)).trans ((aJ rfl (dZ _)).trans ((aJ rfl (bU _)).trans ((aJ rfl (bU _)).trans (rfl)))))))))
theorem Uj (s:Block) (x:Bool):dQ (aV s) 237 ([.v (.bool x)]) 238=aV { s with Eo:=x }:=(aD rfl rfl (cT _)).trans (bO ((aD rfl rfl (bB _)).trans (bO ((aD rfl rfl (aO _)).trans (bO ((aD rfl rfl (aO _)).trans (bO ((aD rfl rfl (aO _)).trans (bO ((aD rfl rfl (dZ _)).trans (bO ((aD rfl rfl (dZ _)).trans (bO ((aD rfl rfl (bU _)).trans (bO ((aD rfl rfl (bU _)).trans (bO (eK (iA _)))))))))))))))))))
def dY:Block:=⟨Nq,0,dR,dR,dR,FV,FV,gN,gN,false⟩
def Hn:List Value:=Pf++([.int .u64 0]++(tJ++(tJ++(tJ++(Zh++(Zh++(zL++(zL++([.bool false])))))))))
theorem Pj:Hn.map AV.v=aV dY:=by simp only[Hn,List.map_append,List.map_cons,List.map_nil,jL,jM,Rr,Be];rfl
def WZ:List Bool:=o8++([true]++(Ia++(Ia++(Ia++(o6++(o6++(Tr++(Tr++([false])))))))))
theorem Ts (a b:Block):iS WZ (aV a) (aV b):=(fV (IY _ _) (fV (show iS [true] [_] [_] from ⟨rfl,trivial⟩) (fV (nP _ _) (fV (nP _ _) (fV (nP _ _) (fV (Lz _ _) (fV (Lz _ _) (fV (tA _ _) (fV (tA _ _) (show iS [false] [_] [_] from trivial))))))))))
theorem Zk (a b:Block):aV a=aV b↔a=b:=by
 refine⟨fun h=>?_,fun h=>by rw[h]⟩
 cases a;cases b
 simp only[aV] at h;obtain⟨h0,h⟩:=List.append_inj h (by simp)
 obtain⟨h1,h⟩:=List.append_inj h (by simp)
 obtain⟨h2,h⟩:=List.append_inj h (by simp)
 obtain⟨h3,h⟩:=List.append_inj h (by simp)
 obtain⟨h4,h⟩:=List.append_inj h (by simp)
 obtain⟨h5,h⟩:=List.append_inj h (by simp)
 obtain⟨h6,h⟩:=List.append_inj h (by simp)
 obtain⟨h7,h⟩:=List.append_inj h (by simp)
 obtain⟨h8,h⟩:=List.append_inj h (by simp)
 have e0:=(PW _ _).1 h0
 have e1:=(Hz _ _).1 h1
 have e2:=(pY _ _).1 h2
 have e3:=(pY _ _).1 h3
 have e4:=(pY _ _).1 h4
 have e5:=(Rq _ _).1 h5
 have e6:=(Rq _ _).1 h6
 have e7:=(mU _ _).1 h7
 have e8:=(mU _ _).1 h8
 have e9:=(FU _ _).1 h
 subst e0 e1 e2 e3 e4 e5 e6 e7 e8 e9;rfl
theorem JA (s:Block):rd (aV s) 0 238=aV s:=jA (bR _)
theorem JB (s x:Block):dQ (aV s) 0 (aV x) 238=aV x:=eK (bR _)
structure Node where
 block:Block
 up:Int
 status:Int
def fG (s:Node):List AV:=aV s.block++(qS s.up++(qS s.status))
@[simp] theorem vJ (s:Node):(fG s).length=240:=by simp[fG]
theorem Lb (s:Node):∀x∈fG s,Flat x:=by
 intro x hx;simp only[fG,List.mem_append,List.mem_singleton] at hx;rcases hx with hx|hx|hx
 ·(exact Bp _ _ hx)
 ·(exact mE _ _ hx)
 ·(exact mE _ _ hx)
theorem CN (s:Node):rd (fG s) 0 238=aV s.block:=gK (bR _)
theorem CO (s:Node) (x:Block):dQ (fG s) 0 (aV x) 238=fG { s with block:=x }:=cI (bR _)
theorem Ie (s:Node):rd (fG s) 0 66=fL s.block.dW:=(sJ (by rw[bR];decide)).trans (Fo _)
theorem Dq (s:Node):rd (fG s) 0 33=aY s.block.dW.pj:=(sJ (by rw[bR];decide)).trans (zY _)
theorem vX (s:Node):(fG s)[0]? = some (.v (.int .u64 s.block.dW.pj.aG)):=(eN (by rw[bR];decide)).trans (rY _)
theorem Dr (s:Node):rd (fG s) 33 33=aY s.block.dW.pf:=(sJ (by rw[bR];decide)).trans (zZ _)
theorem vY (s:Node):(fG s)[33]? = some (.v (.int .u64 s.block.dW.pf.aG)):=(eN (by rw[bR];decide)).trans (rZ _)
theorem Jw (s:Node):(fG s)[66]? = some (.v (.int .u64 s.block.slot)):=(eN (by rw[bR];decide)).trans (Ib _)
theorem Mc (s:Node):rd (fG s) 67 32=bD s.block.root:=(sJ (by rw[bR];decide)).trans (Km _)
theorem Gd (s:Node):rd (fG s) 131 32=bD s.block.jK:=(sJ (by rw[bR];decide)).trans (Dp _)
theorem Md (s:Node):rd (fG s) 171 33=aY s.block.gJ:=(sJ (by rw[bR];decide)).trans (Kn _)
theorem Pk (s:Node):rd (fG s) 204 33=aY s.block.fin:=(sJ (by rw[bR];decide)).trans (Pg _)
theorem PX (s:Node):(fG s)[238]? = some (.v (.int .i64 s.up)):=(aJ rfl (bR _)).trans (rfl)
theorem XA (s:Node) (x:Int):dQ (fG s) 238 ([.v (.int .i64 x)]) 239=fG { s with up:=x }:=(aD rfl rfl (bR _)).trans (bO (cI (bI _)))
theorem Fk (s:Node):(fG s)[239]? = some (.v (.int .i64 s.status)):=(aJ rfl (bR _)).trans ((aJ rfl (bI _)).trans (rfl))
theorem Gw (s:Node) (x:Int):dQ (fG s) 239 ([.v (.int .i64 x)]) 240=fG { s with status:=x }:=(aD rfl rfl (bR _)).trans (bO ((aD rfl rfl (bI _)).trans (bO (eK (bI _)))))
def o9:Node:=⟨dY,0,0⟩
def Zl:List Value:=Hn++([.int .i64 0]++([.int .i64 0]))
theorem JC:Zl.map AV.v=fG o9:=by simp only[Zl,List.map_append,List.map_cons,List.map_nil,jL,jM,Pj];rfl
def aFH:List Bool:=WZ++([true]++([true]))
theorem Wl (a b:Node):iS aFH (fG a) (fG b):=(fV (Ts _ _) (fV (show iS [true] [_] [_] from ⟨rfl,trivial⟩) (show iS [true] [_] [_] from ⟨rfl,trivial⟩)))
theorem H6 (a b:Node):fG a=fG b↔a=b:=by
 refine⟨fun h=>?_,fun h=>by rw[h]⟩
 cases a;cases b
 simp only[fG] at h;obtain⟨h0,h⟩:=List.append_inj h (by simp)
 obtain⟨h1,h⟩:=List.append_inj h (by simp)
 have e0:=(Zk _ _).1 h0
 have e1:=(xC _ _).1 h1
 have e2:=(xC _ _).1 h
 subst e0 e1 e2;rfl
theorem PY (s:Node):rd (fG s) 0 240=fG s:=jA (vJ _)
theorem PZ (s x:Node):dQ (fG s) 0 (fG x) 240=fG x:=eK (vJ _)
def bZ (l:List Node):List AV:=l.flatMap fG
@[simp] theorem Ld (l:List (Node)):(bZ l).length=l.length * 240:=by
 induction l with
 | nil=>rfl
 | cons x l ih=>simp only[bZ,List.flatMap_cons,List.length_append,vJ,List.length_cons] at *;omega
theorem iD (l:List (Node)):∀x∈bZ l,Flat x:=by
 intro x hx;obtain⟨y,_,hy⟩:=List.mem_flatMap.1 hx
 exact Lb y x hy
theorem H7 (l:List (Node)) (i:Nat) (h:i<l.length):rd (bZ l) (i * 240) 240=fG l[i]:=Lx fG 240 (vJ) l i h
structure Tree where
 nodes:List Node
def cO (s:Tree):List AV:=[.sl s.nodes.length (bZ s.nodes)]
@[simp] theorem Ru (s:Tree):(cO s).length=1:=by simp[cO]
theorem XB (s:Tree):∀x∈cO s,Flat x:=by
 intro x hx;simp only[cO,List.mem_append,List.mem_singleton] at hx;(subst hx;exact .sl _ _ (iD _))
theorem Zm (s:Tree):(cO s)[0]? = some (.sl s.nodes.length (bZ s.nodes)):=rfl
theorem QA (s:Tree):rd (cO s) 0 1=cO s:=jA (Ru _)
theorem QB (s x:Tree):dQ (cO s) 0 (cO x) 1=cO x:=eK (Ru _)
end Go.Ab
end
section
namespace Go.Ab
open Classical
def yF (e sz by_:Nat) (v:Option (Nat × List AV)):Option (Option (Nat × Nat) × nU) :=
 match v with
 | some (m,news)=>if news.length=m * sz∧m * by_≤140737488355328∧m≤maxLen then some (none,.row e sz m news) else none
 | none=>none
def xV (e sz by_:Nat) (o:Option nU) (s g:Nat) (v:Option (Nat × List AV)):Option (Option (Nat × Nat) × nU) :=
 match o,v with
 | some (.row e' tN n cs),some (m,news)=>if news.length=m * sz∧e'=e∧tN=sz∧(n+m) * by_≤140737488355328∧n+m≤maxLen then some (some (s,g),.row e sz (n+m) (cs++news)) else none
 | _,_=>none
def acE (e sz by_ n:Nat) (cs:List AV) (v:Option (Nat × List AV)):Option (Option (Nat × Nat) × nU) :=
 match v with
 | some (m,news)=>if news.length=m * sz∧cs.length=n * sz∧(n=0∨0<m)∧(n+m) * by_≤140737488355328∧n+m≤maxLen then some (none,.row e sz (n+m) (cs++news)) else none
 | none=>none
section
variable {P:Program} {st:St} {T e sz by_:Nat}
theorem uO (hs:dS P T=some (e,sz,by_)) (x:AV):dH P st T (.v (.slice none 0 0)) x=yF e sz by_ (aW st x):=by
 simp only[dH,hs,yF];cases aW st x with
 | none=>rfl
 | some v =>
   obtain⟨m,news⟩:=v
   by_cases h1:news.length=m * sz<;>simp[h1]
theorem sQ (hs:dS P T=some (e,sz,by_)) (s g:Nat) (x:AV):dH P st T (.own s g) x=xV e sz by_ (st.heap s g) s g (aW st x):=by
 simp only[dH,hs,xV];cases aW st x with
 | none=>cases st.heap s g with
   | none=>rfl
   | some o=>cases o<;>rfl
 | some v =>
   obtain⟨m,news⟩:=v
   cases st.heap s g with
   | none=>by_cases h1:news.length=m * sz<;>simp[h1]
   | some o =>
     cases o with
     | row a b n cs=>by_cases h1:news.length=m * sz<;>simp[h1]
     | _=>by_cases h1:news.length=m * sz<;>simp[h1]
theorem aHv (hs:dS P T=some (e,sz,by_)) (n:Nat) (cs:List AV) (x:AV):dH P st T (.cl n cs) x=acE e sz by_ n cs (aW st x):=by
 simp only[dH,hs,acE];cases aW st x with
 | none=>rfl
 | some v =>
   obtain⟨m,news⟩:=v
   by_cases h1:news.length=m * sz<;>simp[h1]
end
def KU (e sz:Nat) (o:Option nU) (s g:Nat) (i:Int):Option AV :=
 match o with
 | some (.row e' tN n _)=>if 0≤i∧i<n∧e'=e∧tN=sz then some (.ptr s g (i.toNat * sz)) else none
 | _=>none
theorem Jl {P:Program} {st:St} {T e sz by_:Nat} (hn:jJ P T=none) (hs:dS P T=some (e,sz,by_)) (s g:Nat) (k:IntKind) (i:Int):bH P st T (.own s g) (.v (.int k i))=KU e sz (st.heap s g) s g i:=by
 simp only[bH,hn,hs,KU];cases st.heap s g with
 | none=>rfl
 | some e=>cases e<;>rfl
theorem aDA (e sz n:Nat) (cs:List AV) (s g:Nat) (i:Int) (h0:0≤i) (h1:i<n):KU e sz (some (.row e sz n cs)) s g i=some (.ptr s g (i.toNat * sz)):=by
 simp[KU,h0,h1]
theorem Zn [Ext] {P:Program} {S e sz by_:Nat} {z:List Value} (hs:dS P S=some (e,sz,by_)) (hz:eH P e=some z) {call:Nat→List AV→Option AV} {ops:Array Oper} {st:St} {T:Nat} {pos:String} {eQ:Array Edge} (d:Nat) :
 cH P call ops ⟨some d,.buildSlice S 0 #[],T,pos,eQ,none⟩ st=some ((st.new d (.row e sz 0 [])).put (some d) (.own d (st.aQ d))):=by
 rw[kY,hs];simp[cS,hz,gS]
def elV {α:Type} (x:AV) (k:Value→Option α) (fb:Option α):Option α :=
 match x with
 | .v y=>if y.oneCell'=true then k y else fb
 | _=>fb
theorem aDC {α:Type} (kk:IntKind) (n:Int) (k:Value→Option α) (fb:Option α):elV (.v (.int kk n)) k fb=k (.int kk n):=rfl
theorem aAE {α:Type} (n:Bool) (k:Value→Option α) (fb:Option α):elV (.v (.bool n)) k fb=k (.bool n):=rfl
@[congr] theorem aJE {α:Type} {x y:AV} {k:Value→Option α} {fb:Option α} (h:x=y):elV x k fb=elV y k fb:=by rw[h]
theorem JD [Ext] {P:Program} {S e by_:Nat} {z:Value} (hs:dS P S=some (e,1,by_)) (hz:eH P e=some [z]) {call:Nat→List AV→Option AV} {ops:Array Oper} {st:St} {T:Nat} {pos:String} {eQ:Array Edge} (d:Nat) (x:Operand) :
 cH P call ops ⟨some d,.buildSlice S 1 #[(0,x)],T,pos,eQ,none⟩ st=elV (st.ev x) (fun y=>some ((st.new d (.row e 1 1 [.v y])).put (some d) (.own d (st.aQ d)))) (cH P call ops ⟨some d,.buildSlice S 1 #[(0,x)],T,pos,eQ,none⟩ st):=by
 unfold elV;split
 ·rename_i y h;split
  ·rename_i hy;rw[kY,hs];simp[hz,cS,h,AV.jD,hy,gS,AV.cells]
  ·rfl
 ·rfl
def H8 {α:Type} (z:Nat) (x:AV) (k:List AV→Option α) (fb:Option α):Option α :=
 match x with
 | .agg cs=>if cs.length=z then k cs else fb
 | _=>fb
theorem aDD {α:Type} (z:Nat) (cs:List AV) (k:List AV→Option α) (fb:Option α) (h:cs.length=z):H8 z (.agg cs) k fb=k cs:=if_pos h
@[congr] theorem aJF {α:Type} {z:Nat} {x y:AV} {k:List AV→Option α} {fb:Option α} (h:x=y):H8 z x k fb=H8 z y k fb:=by rw[h]
theorem Bq [Ext] {P:Program} {S e sz by_:Nat} {z:List Value} (hs:dS P S=some (e,sz,by_)) (hz:eH P e=some z) (hl:z.length=sz) (hm:sz≤2 ^ 24) {call:Nat→List AV→Option AV} {ops:Array Oper} {st:St} {T:Nat} {pos:String} {eQ:Array Edge} (d:Nat) (x:Operand) :
 cH P call ops ⟨some d,.buildSlice S 1 #[(0,x)],T,pos,eQ,none⟩ st=H8 sz (st.ev x) (fun cs=>some ((st.new d (.row e sz 1 cs)).put (some d) (.own d (st.aQ d)))) (cH P call ops ⟨some d,.buildSlice S 1 #[(0,x)],T,pos,eQ,none⟩ st):=by
 unfold H8;split
 ·rename_i cs h;split
  ·rename_i hc;have h2:((List.range 1).flatMap fun _=>z.map AV.v)=z.map AV.v:=by simp[List.range,List.range.loop]
   have hzl:(z.map AV.v).length=sz:=by simpa using hl
   rw[kY,hs];simp only[hz,cS,List.toList_toArray,List.all_cons,List.all_nil,h,AV.jD,Bool.and_self,List.map_cons,List.map_nil,gS,AV.cells,hc,Nat.zero_mul,Nat.zero_add,List.take_zero,List.nil_append];rw[h2,if_pos (by simpa using hm),if_pos (by simp[hzl])]
   rw[List.drop_of_length_le (by rw[hzl];exact Nat.le_refl _),List.append_nil]
  ·rfl
 ·rfl
theorem Ni {e sz by_ s g n:Nat} {cs:List AV} (hl:cs.length=n * sz) (hb:(n:Int) * by_≤140737488355328) (hm:(n:Int)≤maxLen):xV e sz by_ (some (.row e sz 0 [])) s g (some (n,cs))=some (some (s,g),.row e sz n cs):=by
 simp only[xV];simp only[Nat.zero_add,true_and,List.nil_append];have oB:n * by_≤140737488355328:=by
  have:((n * by_:Nat):Int)≤140737488355328:=by rw[Int.natCast_mul];exact hb
  omega
 rw[if_pos ⟨hl,oB,by omega⟩]
end Go.Ab
end
section
namespace Go.Ab
open Classical
variable [Ext]
@[congr] theorem aJG {P:Program} {bi:Bool} {c:Code} {s t:St} (h:s=t):wT P bi c s=wT P bi c t:=by rw[h]
theorem H9 {P:Program} {bi:Bool} (c:Operand) (a b:Code) (st:St):wT P bi (.cond c a b) st=onB (st.ev c) fun t=>if t=true then wT P bi a st else wT P bi b st:=by
 cases h:st.ev c with
 | v x =>
   cases x with
   | bool t=>exact PI P c a b st h
   | _ =>
     apply Option.ext
     intro r;rw[gP];constructor
     ·rintro⟨n,m,h'⟩
      cases m with
      | zero=>simp[uS] at h'
      | succ m=>simp[uS,h] at h'
     ·intro h';simp[onB] at h'
 | _ =>
   apply Option.ext
   intro r;rw[gP];constructor
   ·rintro⟨n,m,h'⟩
    cases m with
    | zero=>simp[uS] at h'
    | succ m=>simp[uS,h] at h'
   ·intro h';simp[onB] at h'
section
variable {P:Program} {call:Nat→List AV→Option AV} {inl:Nat→List AV→St→Option (AV × St)} {ops:Array Oper} {st:St}
theorem XC:mG P true call inl ops [] st=some st:=rfl
theorem QC (o:Oper) (l:List Oper):mG P true call inl ops (o :: l) st=cS (gT P true call inl ops o st) (mG P true call inl ops l):=rfl
@[congr] theorem aFI {o:Oper} {s t:St} (h:s=t):gT P true call inl ops o s=gT P true call inl ops o t:=by rw[h]
theorem aAF {o:Oper} (h:Fh o=none):gT P true call inl ops o st=cH P call ops o st:=by
 unfold gT;rw[if_pos rfl,h]
theorem I0 {d:Option Nat} {g:Nat} {args:Array Operand} {tL:Array Nat} {T:Nat} {pos:String} {eQ:Array Edge} (h:Ext.inl g d=true) :
 gT P true call inl ops ⟨d,.call ⟨.value (.func g),args,tL⟩,T,pos,eQ,none⟩ st=cS (inl g (args.toList.map st.ev) st) fun r=>some ((st.back r.2).put d r.1):=by
 have e:Fh ⟨d,.call ⟨.value (.func g),args,tL⟩,T,pos,eQ,none⟩=some (g,args.toList):=by
  unfold Fh;simp only
  rw[if_pos h]
 unfold gT;rw[if_pos rfl,e];simp only[gv,if_true];cases inl g (args.toList.map st.ev) st<;>rfl
end
theorem bS (st s:St):(st.back s).env=st.env:=rfl
theorem aT (st s:St):(st.back s).heap=s.heap:=rfl
theorem aX (st s:St):(st.back s).aQ=s.aQ:=rfl
theorem wV {P:Program} {fn:Func} {st:St} {e:Ex} {r:ResultVar} {x:AV} (he:e=.ret∨e=.normal) (hr:fn.results.toList=[r]) (h1:lM P st r=some x):aHm P fn (e,st)=some (x,st):=by
 have h:Au P fn st=some x:=by
  unfold Au;rw[hr];exact h1
 rcases he with rfl|rfl<;>simp only[aHm,h,Option.map_some]
theorem XD {P:Program} {bi:Bool} {b:Code} (Inv:Nat→St→Prop) (Q:Ex→St→Prop)
 (step:∀n st,Inv n st→∃e st',wT P bi b st=some (e,st')∧((e=.normal∧∃m,m<n∧Inv m st')∨(e≠.normal∧Q e st'))):∀n st,Inv n st→∃e st',wT P bi (.loop b) st=some (e,st')∧e≠.normal∧Q e st':=by
 intro n;induction n using Nat.strongRecOn with
 | _ n ih =>
   intro st h;obtain⟨e,s1,h1,h2⟩:=step n st h
   rw[PH,h1];rcases h2 with ⟨rfl,m,hm,hi⟩|⟨gR,hq⟩
   ·exact ih m hm s1 hi
   ·refine⟨e,s1, ?_,gR,hq⟩
    cases e with
    | normal=>exact absurd rfl gR
    | _=>rfl
theorem jH {P:Program} {bi:Bool} {b:Code} {st:St} {β:Type} {k:Ex × St→Option β} {R:β→Prop} (Inv:Nat→St→Prop) (Q:Ex→St→Prop) (n:Nat)
 (step:∀n st,Inv n st→∃e st',wT P bi b st=some (e,st')∧((e=.normal∧∃m,m<n∧Inv m st')∨(e≠.normal∧Q e st')))
 (start:Inv n st) (rest:∀e st',Q e st'→∃r,k (e,st')=some r∧R r):∃r,cS (wT P bi (.loop b) st) k=some r∧R r:=by
 obtain⟨e,s1,h1,h2,h3⟩:=XD Inv Q step n st start
 rw[h1];exact rest e s1 h3
theorem aHw {P:Program} {bi:Bool} {b:Code} {st st':St} {n:Nat} {Inv:Nat→St→Prop} {Q:Ex→St→Prop} (h:wT P bi b st=some (.normal,st')) (m:Nat) (hm:m<n) (hi:Inv m st') :
 ∃e st',wT P bi b st=some (e,st')∧((e=.normal∧∃m,m<n∧Inv m st')∨(e≠.normal∧Q e st')):=⟨_,_,h,.inl ⟨rfl,m,hm,hi⟩⟩
theorem aDE {P:Program} {bi:Bool} {b:Code} {st st':St} {e:Ex} {n:Nat} {Inv:Nat→St→Prop} {Q:Ex→St→Prop} (h:wT P bi b st=some (e,st')) (he:e≠.normal) (hq:Q e st') :
 ∃e st',wT P bi b st=some (e,st')∧((e=.normal∧∃m,m<n∧Inv m st')∨(e≠.normal∧Q e st')):=⟨_,_,h,.inr ⟨he,hq⟩⟩
theorem QD {P:Program} {id:Nat} {ops:Array Oper} {d:Bool} {st:St} {l:List (Nat × Nat)} (h:Ext.dyn id ops.size (sD ops)=l) :
 wT P true (.region id ops d) st=cS (mG P true (aB P) (pR P) ops ops.toList st) fun s=>if qG ops s l then some (.normal,s) else none:=by
 rw[Zf];congr 1
 funext s
 rw[h];by_cases hf:qG ops s l
 ·rw[if_pos hf,if_neg];rintro⟨_,hn⟩
  exact hn hf
 ·rw[if_neg hf,if_pos ⟨rfl,hf⟩]
theorem I1 (ops:Array Oper) (s:St):qG ops s []=True:=rfl
theorem XE (ops:Array Oper) (s:St) (p:Nat × Nat) (l:List (Nat × Nat)):qG ops s (p :: l)=(Vq ops s p∧qG ops s l):=rfl
def QE (s:St) (x y:Option (List Nat)):Prop:=match x,y with|some aS,some bs=>Ku s aS bs|_,_=>False
theorem I2 (ops:Array Oper) (s:St) (i j:Nat):Vq ops s (i,j)=QE s ((ops[i]?).bind gZ) ((ops[j]?).bind gZ):=rfl
theorem aAG (s:St) (a b:Nat):QE s (some [a]) (some [b])=fJ (s.env a) (s.env b):=by simp[QE,Ku]
theorem aAH (s:St) (a a' b:Nat):QE s (some [a,a']) (some [b])=(fJ (s.env a) (s.env b)∧fJ (s.env a') (s.env b)):=by simp[QE,Ku]
@[congr] theorem aAI {x y x' y':AV} (h:x=x') (h':y=y'):fJ x y=fJ x' y':=by rw[h,h']
theorem QF (s g o s' g' o':Nat):fJ (.ptr s g o) (.ptr s' g' o')=((s,g)≠(s',g')):=rfl
theorem QG (s g o s' g':Nat):fJ (.ptr s g o) (.own s' g')=((s,g)≠(s',g')):=rfl
theorem QH (s g s' g' o':Nat):fJ (.own s g) (.ptr s' g' o')=((s,g)≠(s',g')):=rfl
theorem QI (x:Value) (s g o:Nat):fJ (.v x) (.ptr s g o)=True:=rfl
theorem QJ (x:Value) (s g o:Nat):fJ (.ptr s g o) (.v x)=True:=rfl
theorem QK (s g n:Nat) (cs:List AV):fJ (.own s g) (.sl n cs)=True:=rfl
theorem QL (s g n:Nat) (cs:List AV):fJ (.sl n cs) (.own s g)=True:=rfl
theorem QM (s g o n:Nat) (cs:List AV):fJ (.sl n cs) (.ptr s g o)=True:=rfl
theorem QN (s g o n:Nat) (cs:List AV):fJ (.ptr s g o) (.sl n cs)=True:=rfl
theorem QO (n m:Nat) (cs ds:List AV):fJ (.sl n cs) (.sl m ds)=True:=rfl
theorem QP (s g:Nat) (x:Value):fJ (.own s g) (.v x)=True:=rfl
theorem QQ (s g:Nat) (x:Value):fJ (.v x) (.own s g)=True:=rfl
theorem QR (x:Value) (n:Nat) (cs:List AV):fJ (.v x) (.sl n cs)=True:=rfl
theorem QS (x:Value) (n:Nat) (cs:List AV):fJ (.sl n cs) (.v x)=True:=rfl
def aAJ (x y:AV):Option AV :=
 match x,y with
 | .v (.int k a),.v (.int _ b)=>some (.v (.int k (if b<a then b else a)))
 | _,_=>none
def aAK (x y:AV):Option AV :=
 match x,y with
 | .v (.int k a),.v (.int _ b)=>some (.v (.int k (if b > a then b else a)))
 | _,_=>none
theorem aAL (k k':IntKind) (a b:Int):aAJ (.v (.int k a)) (.v (.int k' b))=some (.v (.int k (if b<a then b else a))):=rfl
theorem aAM (k k':IntKind) (a b:Int):aAK (.v (.int k a)) (.v (.int k' b))=some (.v (.int k (if a<b then b else a))):=rfl
@[congr] theorem aHx {x y x' y':AV} (h:x=x') (h':y=y'):aAJ x y=aAJ x' y':=by rw[h,h']
@[congr] theorem aHy {x y x' y':AV} (h:x=x') (h':y=y'):aAK x y=aAK x' y':=by rw[h,h']
theorem aHz {P:Program} {call:Nat→List AV→Option AV} {ops:Array Oper} {st:St} {d:Option Nat} {T:Nat} {pos:String} {eQ:Array Edge} (x y:Operand) (tL:Array Nat) :
 cH P call ops ⟨d,.call ⟨.builtin .min,#[x,y],tL⟩,T,pos,eQ,none⟩ st=cS (aAJ (st.ev x) (st.ev y)) fun v=>some (st.put d v):=by
 rw[eD];simp only[dO,iT,aAJ];cases st.ev x with
 | v a=>cases a with
   | int k a=>cases st.ev y with
     | v b=>cases b<;>rfl
     | _=>rfl
   | _=>rfl
 | _=>rfl
theorem aHA {P:Program} {call:Nat→List AV→Option AV} {ops:Array Oper} {st:St} {d:Option Nat} {T:Nat} {pos:String} {eQ:Array Edge} (x y:Operand) (tL:Array Nat) :
 cH P call ops ⟨d,.call ⟨.builtin .max,#[x,y],tL⟩,T,pos,eQ,none⟩ st=cS (aAK (st.ev x) (st.ev y)) fun v=>some (st.put d v):=by
 rw[eD];simp only[dO,iT,aAK];cases st.ev x with
 | v a=>cases a with
   | int k a=>cases st.ev y with
     | v b=>cases b<;>rfl
     | _=>rfl
   | _=>rfl
 | _=>rfl
noncomputable def mvE (call:Nat→List AV→Option AV) (g:Nat) (rest:List AV) (s k d c:Nat) (o:Option nU):Option rT :=
 match o with
 | some (.row e sz n cs) =>
   if (∀c∈cs,Flat c)∧∀x∈rest,Flat x then
    match call g (.uniq e sz n cs :: rest) with
    | some (.uniq e' tN n' Ea)=>some { dst:=some d,val:=.own d c,dQ:=some (s,k,none),new:=some (d,[.row e' tN n' Ea])}
    | some (.eE [.uniq e' tN n' Ea])=>some { dst:=some d,val:=.eE [],dQ:=some (s,k,some (.row e' tN n' Ea))}
    | _=>none
   else none
 | _=>none
theorem XF (call:Nat→List AV→Option AV) (g s k d:Nat) (rest:List AV) (st:St):lL call g (.own s k :: rest) st (some d)=mvE call g rest s k d (st.aQ d) (st.heap s k):=by
 unfold lL mvE;simp only
 cases st.heap s k with
 | none=>rfl
 | some o =>
   cases o with
   | row e sz n cs =>
     simp only
     by_cases hc:(∀c∈cs,Flat c)∧∀x∈rest,Flat x
     ·simp only[if_pos hc];cases call g (.uniq e sz n cs :: rest) with
      | none=>rfl
      | some r =>
        cases r with
        | eE vs =>
          cases vs with
          | nil=>rfl
          | cons x xs =>
            cases x with
            | uniq _ _ _ _=>cases xs<;>rfl
            | _=>rfl
        | _=>rfl
     ·simp only[if_neg hc]
   | _=>rfl
theorem R5 {call:Nat→List AV→Option AV} {g:Nat} {rest:List AV} {s k d c e sz n e' tN n':Nat} {cs Ea:List AV} (hf:∀c∈cs,Flat c) (hr:∀x∈rest,Flat x) (hc:call g (.uniq e sz n cs :: rest)=some (.uniq e' tN n' Ea)) :
 mvE call g rest s k d c (some (.row e sz n cs))=some { dst:=some d,val:=.own d c,dQ:=some (s,k,none),new:=some (d,[.row e' tN n' Ea])}:=by
 unfold mvE;simp only
 rw[if_pos ⟨hf,hr⟩,hc]
@[congr] theorem aJH {call:Nat→List AV→Option AV} {g:Nat} {rest:List AV} {s k d c c':Nat} {o o':Option nU} (h:c=c') (h':o=o'):mvE call g rest s k d c o=mvE call g rest s k d c' o':=by rw[h,h']
theorem UN {call:Nat→List AV→Option AV} {g d:Nat} {rest:List AV} {st:St} {e sz n:Nat} {cs:List AV} (hr:∀x∈rest,Flat x) (hc:call g (.v (.slice none 0 0) :: rest)=some (.uniq e sz n cs)) :
 lL call g (.v (.slice none 0 0) :: rest) st (some d)=some { dst:=some d,val:=.own d (st.aQ d),new:=some (d,[.row e sz n cs])}:=by
 have hf:∀x∈AV.v (.slice none 0 0) :: rest,Flat x:=by
  intro x hx;rcases List.mem_cons.1 hx with rfl|hx
  ·exact .v _
  ·exact hr x hx
 have hnf:¬Flat (.uniq e sz n cs):=by intro h;cases h
 unfold lL;simp only[if_pos hf];unfold aN;rw[if_pos hf,hc];simp only[cS];unfold jC;rw[if_neg hnf];rfl
theorem R4 {P:Program} {fn:Func} {st:St} {e:Ex} {r:ResultVar} {s g ee sz n:Nat} {cs:List AV} (he:e=.ret∨e=.normal) (hr:fn.results.toList=[r]) (h1:lM P st r=some (.own s g)) (h2:st.heap s g=some (.row ee sz n cs)) (hm:∀c∈cs,iC c) :
 R3 P fn (e,st)=some (.uniq ee sz n cs):=by
 have h:Iw P fn st=some (.uniq ee sz n cs):=by
  unfold Iw;rw[hr];simp only[h1,h2];rw[if_pos hm]
 rcases he with rfl|rfl<;>exact h
theorem mH (e sz n:Nat) (cs rest:List AV):(St.tD e sz n cs rest).env 0=.own 0 0:=rfl
theorem oJ (e sz n:Nat) (cs rest:List AV) (t:Nat):(St.tD e sz n cs rest).env (t+1)=(rest[t]?).getD (.v undef):=rfl
theorem mI (e sz n:Nat) (cs rest:List AV):(St.tD e sz n cs rest).heap 0 0=some (.row e sz n cs):=rfl
theorem mJ (e sz n:Nat) (cs rest:List AV):(St.tD e sz n cs rest).aQ 0=1:=rfl
theorem oK (e sz n:Nat) (cs rest:List AV) (s:Nat) (h:s≠0):(St.tD e sz n cs rest).aQ s=0:=if_neg h
end Go.Ab
end
section
namespace Go.Ab
open Classical
variable [Ext]
theorem Oa {P:Program} {a:Code} {st:St} {β:Type} {k:Ex × St→Option β} {R:β→Prop} (Q:Ex→St→Prop) (h:∃e st',zC P a st=some (e,st')∧Q e st')
 (rest:∀e st',Q e st'→∃r,k (e,st')=some r∧R r):∃r,cS (zC P a st) k=some r∧R r:=by
 obtain⟨e,s1,h1,h2⟩:=h
 rw[h1];exact rest e s1 h2
theorem Jg {P:Program} {bi:Bool} {a:Code} {st:St} {β:Type} {k:Ex × St→Option β} {R:β→Prop} (Q:Ex→St→Prop) (h:∃e st',wT P bi a st=some (e,st')∧Q e st')
 (rest:∀e st',Q e st'→∃r,k (e,st')=some r∧R r):∃r,cS (wT P bi a st) k=some r∧R r:=by
 obtain⟨e,s1,h1,h2⟩:=h
 rw[h1];exact rest e s1 h2
theorem iN {β:Type} {x:Option β} {v:β} (h:∃r,x=some r∧r=v):x=some v:=by
 obtain⟨r,h,rfl⟩:=h;exact h
theorem QT {P:Program} {id:Nat} {ops:Array Oper} {d:Bool} {st:St} :
 wT P true (.region id ops d) st=cS (mG P true (aB P) (pR P) ops ops.toList st) fun s=>if qG ops s (Ext.dyn id ops.size (sD ops)) then some (.normal,s) else none:=QD rfl
theorem XG (o:Oper) (l:List Oper):sD (o :: l).toArray=o.dst:=by simp[sD]
section
variable {P:Program} {call:Nat→List AV→Option AV} {inl:Nat→List AV→St→Option (AV × St)} {ops:Array Oper} {st:St} {d:Option Nat} {T:Nat} {pos:String} {eQ:Array Edge} {g:Option (Nat × Bool)}
theorem aDF (x:Operand):gT P true call inl ops ⟨d,.move x,T,pos,eQ,g⟩ st=cH P call ops ⟨d,.move x,T,pos,eQ,g⟩ st:=rfl
theorem I3 (x:Operand):gT P true call inl ops ⟨d,.assign x,T,pos,eQ,g⟩ st=cH P call ops ⟨d,.assign x,T,pos,eQ,g⟩ st:=rfl
theorem aDG (x y z:Operand):gT P true call inl ops ⟨d,.pick x y z,T,pos,eQ,g⟩ st=cH P call ops ⟨d,.pick x y z,T,pos,eQ,g⟩ st:=rfl
theorem aAN (S:Nat):gT P true call inl ops ⟨d,.alloc S,T,pos,eQ,g⟩ st=cH P call ops ⟨d,.alloc S,T,pos,eQ,g⟩ st:=rfl
theorem aHB (S:Nat) (x:Operand):gT P true call inl ops ⟨d,.box S x,T,pos,eQ,g⟩ st=cH P call ops ⟨d,.box S x,T,pos,eQ,g⟩ st:=rfl
theorem aAO (S:Nat) (x:Array (Nat × Operand)):gT P true call inl ops ⟨d,.build S x,T,pos,eQ,g⟩ st=cH P call ops ⟨d,.build S x,T,pos,eQ,g⟩ st:=rfl
theorem CP (S n:Nat) (x:Array (Nat × Operand)):gT P true call inl ops ⟨d,.buildSlice S n x,T,pos,eQ,g⟩ st=cH P call ops ⟨d,.buildSlice S n x,T,pos,eQ,g⟩ st:=rfl
theorem JE (S:Nat) (x y:Operand):gT P true call inl ops ⟨d,.makeSlice S x y,T,pos,eQ,g⟩ st=cH P call ops ⟨d,.makeSlice S x y,T,pos,eQ,g⟩ st:=rfl
theorem QU (f:Fn) (x y:Array Operand):gT P true call inl ops ⟨d,.makeFunc f x y,T,pos,eQ,g⟩ st=cH P call ops ⟨d,.makeFunc f x y,T,pos,eQ,g⟩ st:=rfl
theorem aDH (S:Nat) (x:Operand):gT P true call inl ops ⟨d,.load S x,T,pos,eQ,g⟩ st=cH P call ops ⟨d,.load S x,T,pos,eQ,g⟩ st:=rfl
theorem aAP (S:Nat) (x y:Operand):gT P true call inl ops ⟨d,.store S x y,T,pos,eQ,g⟩ st=cH P call ops ⟨d,.store S x y,T,pos,eQ,g⟩ st:=rfl
theorem aAQ (o:BinOp) (S S':Nat) (x y:Operand):gT P true call inl ops ⟨d,.binOp o S x y S',T,pos,eQ,g⟩ st=cH P call ops ⟨d,.binOp o S x y S',T,pos,eQ,g⟩ st:=rfl
theorem aDI (o:UnOp) (S:Nat) (x:Operand):gT P true call inl ops ⟨d,.unOp o S x,T,pos,eQ,g⟩ st=cH P call ops ⟨d,.unOp o S x,T,pos,eQ,g⟩ st:=rfl
theorem JF (S f:Nat) (x:Operand):gT P true call inl ops ⟨d,.fieldAddr S x f,T,pos,eQ,g⟩ st=cH P call ops ⟨d,.fieldAddr S x f,T,pos,eQ,g⟩ st:=rfl
theorem aAR (S f:Nat) (x:Operand):gT P true call inl ops ⟨d,.field S x f,T,pos,eQ,g⟩ st=cH P call ops ⟨d,.field S x f,T,pos,eQ,g⟩ st:=rfl
theorem JG (S:Nat) (x y:Operand):gT P true call inl ops ⟨d,.indexAddr S x y,T,pos,eQ,g⟩ st=cH P call ops ⟨d,.indexAddr S x y,T,pos,eQ,g⟩ st:=rfl
theorem XH (S S':Nat) (x:Operand):gT P true call inl ops ⟨d,.convert S S' x,T,pos,eQ,g⟩ st=cH P call ops ⟨d,.convert S S' x,T,pos,eQ,g⟩ st:=rfl
theorem XI (x:Operand) (i:Nat):gT P true call inl ops ⟨d,.extract x i,T,pos,eQ,g⟩ st=cH P call ops ⟨d,.extract x i,T,pos,eQ,g⟩ st:=rfl
theorem aAS (S:Nat) (x:Operand) (a b c:Option Operand):gT P true call inl ops ⟨d,.slice S x a b c,T,pos,eQ,g⟩ st=cH P call ops ⟨d,.slice S x a b c,T,pos,eQ,g⟩ st:=rfl
theorem XJ (b:Builtin) (x:Array Operand) (y:Array Nat):gT P true call inl ops ⟨d,.call ⟨.builtin b,x,y⟩,T,pos,eQ,g⟩ st=cH P call ops ⟨d,.call ⟨.builtin b,x,y⟩,T,pos,eQ,g⟩ st:=rfl
theorem aHC (t:Nat) (x:Array Operand) (y:Array Nat):gT P true call inl ops ⟨d,.call ⟨.value (.tmp t),x,y⟩,T,pos,eQ,g⟩ st=cH P call ops ⟨d,.call ⟨.value (.tmp t),x,y⟩,T,pos,eQ,g⟩ st:=rfl
theorem aDJ (f:Nat) (x:Array Operand) (y:Array Nat) (h:Ext.inl f d=false):gT P true call inl ops ⟨d,.call ⟨.value (.func f),x,y⟩,T,pos,eQ,g⟩ st=cH P call ops ⟨d,.call ⟨.value (.func f),x,y⟩,T,pos,eQ,g⟩ st:=aAF (by unfold Fh;simp[h])
theorem UW (f:Nat) (x:Array Operand) (y:Array Nat) (h:Ext.inl f d=true):gT P true call inl ops ⟨d,.call ⟨.value (.func f),x,y⟩,T,pos,eQ,none⟩ st=cS (inl f (x.toList.map st.ev) st) fun r=>some ((st.back r.2).put d r.1):=I0 h
theorem aDK (S a:Nat):gZ ⟨d,.load S (.tmp a),T,pos,eQ,none⟩=some [a]:=rfl
theorem aAT (S a:Nat) (x:Operand):gZ ⟨d,.store S (.tmp a) x,T,pos,eQ,none⟩=some [a]:=rfl
theorem aAU (S a:Nat) (x:Operand):gZ ⟨d,.indexAddr S (.tmp a) x,T,pos,eQ,none⟩=some [a]:=rfl
theorem aAV (S a:Nat) (x y z:Option Operand):gZ ⟨d,.slice S (.tmp a) x y z,T,pos,eQ,none⟩=some [a]:=rfl
theorem aHD (a:Nat) (y:Array Nat):gZ ⟨d,.call ⟨.builtin .len,#[.tmp a],y⟩,T,pos,eQ,none⟩=some [a]:=rfl
theorem I4 (a b:Nat) (y:Array Nat):gZ ⟨d,.call ⟨.builtin .append,#[.tmp a,.tmp b],y⟩,T,pos,eQ,none⟩=some [a,b]:=rfl
theorem aAW (f a:Nat) (b:Operand) (y:Array Nat) (h:Ext.mv f=true):gZ ⟨d,.call ⟨.value (.func f),#[.tmp a,b],y⟩,T,pos,eQ,none⟩=some [a]:=by simp[gZ,h]
end
end Go.Ab
end
