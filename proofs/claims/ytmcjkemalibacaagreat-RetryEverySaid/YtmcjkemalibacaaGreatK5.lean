/-
  Part 5 of the proof: an evaluator of programs, its soundness, and what functions of this program compute.
-/
import Derived.Test.YtmcjkemalibacaaGreatK4
set_option linter.all false
set_option maxRecDepth 20000
set_option maxHeartbeats 40000000
section
namespace Go.Ab
open Classical
variable [Ext]
def rd (cs:List AV) (o k:Nat):List AV:=(cs.drop o).take k
def onB {α:Type} (x:AV) (k:Bool→Option α):Option α :=
 match x with
 | .v (.bool b)=>k b
 | _=>none
section
variable (P:Program)
def fG (T:Nat) (cs:List AV) (o:Nat):Option AV :=
 match fO P T with
 | some (true,k)=>if 0<k∧k≤cs.length-o then some (.agg (rd cs o k)) else none
 | some (false,_)=>cs[o]?
 | none=>none
def Fp (st:St) (T:Nat) (x:AV):Option AV :=
 match x with
 | .ip cs o=>fG P T cs o
 | .ptr s g o =>
   match st.heap s g with
   | some (.cells cs)=>fG P T cs o
   | some (.row _ _ _ cs)=>fG P T cs o
   | _=>none
 | _=>none
theorem IX (T:Nat) (cs:List AV) (o:Nat):xY P T (cs.drop o)=fG P T cs o:=by
 unfold xY fG;cases fO P T with
 | none=>rfl
 | some bk =>
   obtain⟨b,k⟩:=bk
   cases b
   ·simp
   ·simp[rd]
theorem Ov (st:St) (T:Nat) (x:AV):cC (qQ st x) (xY P T)=Fp P st T x:=by
 cases x<;>simp only[qQ,cC,Fp,IX]
 split<;>rename_i h
 ·split at h
  ·rename_i h';cases h;rw[h'];exact IX P T _ _
  ·rename_i h';cases h;rw[h'];exact IX P T _ _
  ·cases h
 ·split at h
  ·cases h
  ·cases h
  ·rename_i h1 h2;split<;>first|rfl|(rename_i h';first|exact absurd h' (h1 _)|exact absurd h' (h2 _ _ _ _))
def Vt (st:St) (T:Nat) (a x:AV):Option St:=(pX P st T a x).map fun u=>st.iH u.1 u.2.1 (some u.2.2)
variable {P}
variable {call:Nat→List AV→Option AV} {ops:Array Oper} {st:St} {d:Option Nat} {T:Nat} {pos:String} {eM:Array Edge}
@[congr] theorem aKm {α β:Type} {x y:Option α} {f:α→Option β} (h:x=y):cC x f=cC y f:=by rw[h]
@[congr] theorem aKn {α:Type} {x y:AV} {k:Bool→Option α} (h:x=y):onB x k=onB y k:=by rw[h]
@[congr] theorem aGq {l:List Oper} {s t:St} (h:s=t):Mr P call ops l s=Mr P call ops l t:=by rw[h]
@[congr] theorem aH7 {o:Oper} {s t:St} (h:s=t):cE P call ops o s=cE P call ops o t:=by rw[h]
@[congr] theorem aKo {c:Code} {s t:St} (h:s=t):zF P c s=zF P c t:=by rw[h]
theorem cW {α β:Type} (a:α) (f:α→Option β):cC (some a) f=f a:=rfl
theorem MZ {α β:Type} (f:α→Option β):cC none f=none:=rfl
theorem aAX {α:Type} (b:Bool) (k:Bool→Option α):onB (.v (.bool b)) k=k b:=rfl
theorem H6:Mr P call ops [] st=some st:=rfl
theorem WL (o:Oper) (l:List Oper):Mr P call ops (o :: l) st=cC (cE P call ops o st) (Mr P call ops l):=rfl
theorem dR (op:Op):cE P call ops ⟨d,op,T,pos,eM,none⟩ st=(cZ P call ⟨d,op,T,pos,eM,none⟩ st).map fun e=>e.apply st:=rfl
theorem aDZ (x:Operand):cE P call ops ⟨d,.move x,T,pos,eM,none⟩ st=some (st.put d (st.ev x)):=rfl
theorem H7 (x:Operand):cE P call ops ⟨d,.assign x,T,pos,eM,none⟩ st=some (st.put d (st.ev x)):=rfl
theorem aD0 (c a b:Operand):cE P call ops ⟨d,.pick c a b,T,pos,eM,none⟩ st=onB (st.ev c) fun t=>some (st.put d (if t=true then st.ev a else st.ev b)):=by
 rw[dR];simp only[cZ,iQ];cases st.ev c<;>try rfl
 rename_i x;cases x<;>rfl
theorem aAY (op:BinOp) (S:Nat) (x y:Operand) (yT:Nat):cE P call ops ⟨d,.binOp op S x y yT,T,pos,eM,none⟩ st=cC (fS P op S (st.ev x) (st.ev y)) fun v=>some (st.put d v):=by
 rw[dR];simp only[cZ,iQ];cases fS P op S (st.ev x) (st.ev y)<;>rfl
theorem aD1 (op:UnOp) (S:Nat) (x:Operand):cE P call ops ⟨d,.unOp op S x,T,pos,eM,none⟩ st=cC (unA op (st.ev x)) fun v=>some (st.put d v):=by
 rw[dR];simp only[cZ,iQ];cases unA op (st.ev x)<;>rfl
def PN (P:Program) (src dst:Nat) (x:AV):Option AV :=
 match x,intKind P dst,intKind P src with
 | .v (.int _ n),some k,some _=>some (.v (.int k (k.wrap n)))
 | _,_,_=>none
theorem WM (src dst:Nat) (x:Operand):cE P call ops ⟨d,.convert src dst x,T,pos,eM,none⟩ st=cC (PN P src dst (st.ev x)) fun v=>some (st.put d v):=by
 rw[dR];simp only[cZ,iQ];show Option.map _ (Option.map _ (PN P src dst (st.ev x)))=_
 cases PN P src dst (st.ev x)<;>rfl
theorem aAZ (S:Nat) (x:Operand) (f:Nat):cE P call ops ⟨d,.field S x f,T,pos,eM,none⟩ st=cC (Kt P S f (st.ev x)) fun v=>some (st.put d v):=by
 rw[dR];simp only[cZ,iQ];cases Kt P S f (st.ev x)<;>rfl
theorem WN {S f off k:Nat} {cs:List AV} (h:fieldInfo P S f=some (off,false,k)):Kt P S f (.agg cs)=cs[off]?:=by
 simp only[Kt,h]
theorem IY (S:Nat) (x:Operand) (f:Nat):cE P call ops ⟨d,.fieldAddr S x f,T,pos,eM,none⟩ st=cC (aU P S f) fun k=>cC (vH (st.ev x) k) fun v=>some (st.put d v):=by
 rw[dR];simp only[cZ,iQ];cases aU P S f with
 | none=>rfl
 | some k =>
   simp only[cC];cases vH (st.ev x) k<;>rfl
theorem IZ (S:Nat) (x i:Operand):cE P call ops ⟨d,.indexAddr S x i,T,pos,eM,none⟩ st=cC (bD P st S (st.ev x) (st.ev i)) fun v=>some (st.put d v):=by
 rw[dR];simp only[cZ,iQ];cases bD P st S (st.ev x) (st.ev i)<;>rfl
theorem aD2 (S:Nat) (x:Operand):cE P call ops ⟨d,.load S x,T,pos,eM,none⟩ st=cC (Fp P st S (st.ev x)) fun v=>some (st.put d v):=by
 rw[dR];simp only[cZ,iQ,Ov];cases Fp P st S (st.ev x)<;>rfl
def eC (x:AV) (i:Nat):Option AV :=
 match x with
 | .dZ vs=>vs[i]?
 | _=>none
theorem WO (t:Operand) (i:Nat):cE P call ops ⟨d,.extract t i,T,pos,eM,none⟩ st=cC (eC (st.ev t) i) fun v=>some (st.put d v):=by
 rw[dR];simp only[cZ,iQ];show Option.map _ (Option.map _ (eC (st.ev t) i))=_
 cases eC (st.ev t) i<;>rfl
theorem aA0 (S:Nat) (parts:Array (Nat × Operand)):cE P call ops ⟨d,.build S parts,T,pos,eM,none⟩ st=cC (iV P st S parts.toList) fun v=>some (st.put d v):=by
 rw[dR];simp only[cZ,iQ];cases iV P st S parts.toList<;>rfl
theorem aA1 (S:Nat) (x:Operand) (lo hi:Option Operand):cE P call ops ⟨d,.slice S x lo hi none,T,pos,eM,none⟩ st=cC (cS P st S (st.ev x) lo hi) fun v=>some (st.put d v):=by
 rw[dR];simp only[cZ,iQ];cases cS P st S (st.ev x) lo hi<;>rfl
theorem aA2 (S d:Nat):cE P call ops ⟨some d,.alloc S,T,pos,eM,none⟩ st=cC (dX P S) fun z=>some ((st.new d (.cells (z.map .v))).put (some d) (.ptr d (st.aO d) 0)):=by
 rw[dR];simp only[cZ,cC];cases dX P S with
 | none=>rfl
 | some z=>simp only[Option.map_some,lJ]
theorem aH8 (S d:Nat) (x:Operand):cE P call ops ⟨some d,.box S x,T,pos,eM,none⟩ st=if (st.ev x).jR=true then some ((st.new d (.cells (st.ev x).cells)).put (some d) (.ptr d (st.aO d) 0)) else none:=by
 rw[dR];simp only[cZ,cC];split
 ·simp only[Option.map_some,lJ]
 ·rfl
theorem aA3 (S:Nat) (x y:Operand):cE P call ops ⟨d,.store S x y,T,pos,eM,none⟩ st=cC (Vt P st S (st.ev x) (st.ev y)) fun s=>some (s.put d (.v undef)):=by
 rw[dR];simp only[cZ,Vt];cases pX P st S (st.ev x) (st.ev y)<;>rfl
theorem aD3 (g:Nat) (args:Array Operand) (tJ:Array Nat) (h:Ext.mv g=false) (h2:Ext.eat g d=false):cE P call ops ⟨d,.call ⟨.value (.func g),args,tJ⟩,T,pos,eM,none⟩ st=cC (aN call g (args.toList.map st.ev) st d) fun e=>some (e.apply st):=by
 rw[dR];simp only[cZ,gP,mQ,h,h2,Bool.false_eq_true,if_false];cases aN call g (args.toList.map st.ev) st d<;>rfl
theorem aA4 (g:Nat) (args:Array Operand) (tJ:Array Nat) (h:Ext.mv g=true):cE P call ops ⟨d,.call ⟨.value (.func g),args,tJ⟩,T,pos,eM,none⟩ st=cC (jV call g (args.toList.map st.ev) st d) fun e=>some (e.apply st):=by
 rw[dR];simp only[cZ,gP,mQ,h,if_true];cases jV call g (args.toList.map st.ev) st d<;>rfl
theorem WQ (g:Nat) (args:Array Operand) (tJ:Array Nat) (h:Ext.mv g=false) (h2:Ext.eat g d=true):cE P call ops ⟨d,.call ⟨.value (.func g),args,tJ⟩,T,pos,eM,none⟩ st=cC (fC call g (args.toList.map st.ev) st d) fun e=>some (e.apply st):=by
 rw[dR];simp only[cZ,gP,mQ,h,h2,Bool.false_eq_true,if_false,if_true];cases fC call g (args.toList.map st.ev) st d<;>rfl
theorem aA5 (t:Nat) (args:Array Operand) (tJ:Array Nat) {g:Nat} {nJ:List AV} (h:st.env t=.Aj g nJ):cE P call ops ⟨d,.call ⟨.value (.tmp t),args,tJ⟩,T,pos,eM,none⟩ st=cC (aN call g (args.toList.map st.ev++nJ) st d) fun e=>some (e.apply st):=by
 rw[dR];simp only[cZ,gP,mQ,St.ev,h,BJ];show Option.map _ (aN call g (args.toList.map st.ev++nJ) st d)=cC (aN call g (args.toList.map st.ev++nJ) st d) _
 cases aN call g (args.toList.map st.ev++nJ) st d<;>rfl
theorem H8 (S:Nat) (x:Operand) (lo:Option Operand) (hi mx:Operand):cE P call ops ⟨d,.slice S x lo (some hi) (some mx),T,pos,eM,none⟩ st=cC (wI P st S (st.ev x) lo hi mx) fun v=>some (st.put d v):=by
 rw[dR];simp only[cZ,iQ];cases wI P st S (st.ev x) lo hi mx<;>rfl
theorem H9 (S:Nat) (x i:Operand) (ok:Bool):cE P call ops ⟨d,.lookup S x i ok,T,pos,eM,none⟩ st=cC (Sp P st S (st.ev x) (st.ev i) ok) fun v=>some (st.put d v):=by
 rw[dR];simp only[cZ,iQ];cases Sp P st S (st.ev x) (st.ev i) ok<;>rfl
theorem WR (S d:Nat):cE P call ops ⟨some d,.makeMap S none,T,pos,eM,none⟩ st=some ((st.new d (.map [])).put (some d) (.mp d (st.aO d))):=by
 rw[dR];simp only[cZ,cC,Option.map_some,lJ]
theorem JA (S:Nat) (m x y:Operand):cE P call ops ⟨d,.mapUpdate S m x y,T,pos,eM,none⟩ st=cC (uA P st S (st.ev m) (st.ev x) (st.ev y)) fun u=>some ((st.iH u.1 u.2.1 (some u.2.2)).put d (.v undef)):=by
 rw[dR];simp only[cZ];cases uA P st S (st.ev m) (st.ev x) (st.ev y)<;>rfl
theorem PO (g:Nat) (nJ:Array Operand):cE P call ops ⟨d,.makeFunc (.func g) #[] nJ,T,pos,eM,none⟩ st=some (st.put d (.Aj g (nJ.toList.map st.ev))):=by
 rw[dR];simp only[cZ,iQ,if_true,Option.map_some];rfl
theorem lB (S n d:Nat) (parts:Array (Nat × Operand)):cE P call ops ⟨some d,.buildSlice S n parts,T,pos,eM,none⟩ st=cC (dN P S) fun t=>cC (dX P t.1) fun z =>
 if (0<n∨parts=#[])∧n * t.2.1≤2 ^ 24∧(parts.toList.all fun p=>(st.ev p.2).jR)=true then
  cC (gN (fun i=>some (i * t.2.1,t.2.1)) ((List.range n).flatMap fun _=>z.map .v) (parts.toList.map fun p=>(p.1,st.ev p.2))) fun cs =>
   some ((st.new d (.row t.1 t.2.1 n cs)).put (some d) (.own d (st.aO d)))
 else none:=by
 rw[dR];simp only[cZ,cC];cases dN P S with
 | none=>rfl
 | some t =>
   simp only
   cases dX P t.1 with
   | none=>rfl
   | some z =>
     simp only
     split
     ·cases gN (fun i=>some (i * t.2.1,t.2.1)) ((List.range n).flatMap fun _=>z.map .v) (parts.toList.map fun p=>(p.1,st.ev p.2)) with
      | none=>rfl
      | some cs=>simp only[Option.map_some,lJ]
     ·rfl
theorem JB (S d:Nat) (l c:Operand) {n:Nat} (hl:st.ev l=.v (.int .i64 n)) (hc:st.ev c=.v (.int .i64 n)):cE P call ops ⟨some d,.makeSlice S l c,T,pos,eM,none⟩ st=cC (dN P S) fun t=>cC (dX P t.1) fun z =>
 if (n:Int) * t.2.2≤140737488355328∧(n:Int)≤maxLen then some ((st.new d (.row t.1 t.2.1 n ((List.range n).flatMap fun _=>z.map .v))).put (some d) (.own d (st.aO d))) else none:=by
 rw[dR];simp only[cZ,cC,hl,hc];cases dN P S with
 | none=>rfl
 | some t =>
   simp only
   cases dX P t.1 with
   | none=>rfl
   | some z =>
     simp only[Int.toNat_natCast,Int.natCast_nonneg,true_and];split
     ·simp only[Option.map_some,lJ]
     ·rfl
theorem aH9 (x:Operand) (S:Nat) (tJ:Array Nat) (h:tJ=#[S]):cE P call ops ⟨d,.call ⟨.builtin .len,#[x],tJ⟩,T,pos,eM,none⟩ st=cC (dN P S) fun _=>cC (aQ st (st.ev x)) fun nc=>some (st.put d (.v (.int .i64 nc.1))):=by
 subst h;rw[dR];simp only[cZ,gP];cases dN P S with
 | none=>rfl
 | some t=>cases aQ st (st.ev x) with
   | none=>rfl
   | some nc=>cases nc;rfl
theorem aD4 (x:Operand) (S:Nat):cE P call ops ⟨d,.call ⟨.builtin .len,#[x],#[S]⟩,T,pos,eM,none⟩ st=cC (dN P S) fun _=>cC (aQ st (st.ev x)) fun nc=>some (st.put d (.v (.int .i64 nc.1))):=aH9 x S #[S] rfl
theorem FV (s x:Operand) (S d:Nat) (tJ:Array Nat) (h:tJ=#[S,S]) (hv:Ext.va S d=false) (hp:¬(Ext.pa S d=true∧Br P st S (st.ev s) (st.ev x))):cE P call ops ⟨some d,.call ⟨.builtin .append,#[s,x],tJ⟩,T,pos,eM,none⟩ st=cC (dC P st S (st.ev s) (st.ev x)) fun ur =>
 some (((match ur.1 with|some p=>st.iH p.1 p.2 none|none=>st).new d ur.2).put (some d) (.own d (st.aO d))):=by
 subst h;rw[dR];simp only[cZ,gP,cC,if_true,hv,Bool.false_eq_true,if_false];rw[if_neg hp];cases dC P st S (st.ev s) (st.ev x) with
 | none=>rfl
 | some ur =>
   obtain⟨u,r⟩:=ur
   cases u with
   | none=>simp only[Option.map_some,Option.map_none,lJ]
   | some p=>simp only[Option.map_some,Rm]
theorem WS (s x:Operand) (S d:Nat) (hv:Ext.va S d=false) (hp:Ext.pa S d=false):cE P call ops ⟨some d,.call ⟨.builtin .append,#[s,x],#[S,S]⟩,T,pos,eM,none⟩ st=cC (dC P st S (st.ev s) (st.ev x)) fun ur =>
 some (((match ur.1 with|some p=>st.iH p.1 p.2 none|none=>st).new d ur.2).put (some d) (.own d (st.aO d))):=FV s x S d #[S,S] rfl hv (by rw[hp];exact fun h=>absurd h.1 (by simp))
theorem aA6 (s x:Operand) (S d:Nat) (hv:Ext.va S d=false) (hp:Ext.pa S d=true) (hn:¬(st.ev s=.v (.slice none 0 0)∧(aQ st (st.ev x)).map Prod.fst=some 0)):cE P call ops ⟨some d,.call ⟨.builtin .append,#[s,x],#[S,S]⟩,T,pos,eM,none⟩ st=cC (dC P st S (st.ev s) (st.ev x)) fun ur =>
 some (((match ur.1 with|some p=>st.iH p.1 p.2 none|none=>st).new d ur.2).put (some d) (.own d (st.aO d))):=FV s x S d #[S,S] rfl hv (fun h=>hn ⟨h.2.1,h.2.2.2⟩)
theorem aA7 (s x:Operand) (S d:Nat) (hv:Ext.va S d=false) (hp:Ext.pa S d=true) (hi:(dN P S).isSome=true) (h1:st.ev s=.v (.slice none 0 0)) (h2:(aQ st (st.ev x)).map Prod.fst=some 0):cE P call ops ⟨some d,.call ⟨.builtin .append,#[s,x],#[S,S]⟩,T,pos,eM,none⟩ st=some (st.put (some d) (.v (.slice none 0 0))):=by
 rw[dR];simp only[cZ,gP,cC,if_true,hv,Bool.false_eq_true,if_false];rw[if_pos ⟨hp,h1,hi,h2⟩];simp only[mT.apply];rfl
theorem VC (s x:Operand) (S d:Nat) (hv:Ext.va S d=true):cE P call ops ⟨some d,.call ⟨.builtin .append,#[s,x],#[S,S]⟩,T,pos,eM,none⟩ st=cC (kJ P st S (st.ev s) (st.ev x)) fun u =>
 some ((st.iH u.1 u.2.1 (some u.2.2.1)).put (some d) (.vw u.1 u.2.1 0 u.2.2.2)):=by
 rw[dR];simp only[cZ,gP,cC,if_true,hv];cases kJ P st S (st.ev s) (st.ev x) with
 | none=>rfl
 | some u=>rfl
theorem X0 (x:Operand) (S:Nat):cE P call ops ⟨d,.call ⟨.builtin .clear,#[x],#[S]⟩,T,pos,eM,none⟩ st=cC (uB P st S (st.ev x)) fun u =>
 some ((match u with|some p=>st.iH p.1 p.2.1 (some p.2.2)|none=>st).put d (.dZ [])):=by
 rw[dR];simp only[cZ,gP];cases uB P st S (st.ev x) with
 | none=>rfl
 | some u=>cases u<;>rfl
theorem aA8 (x:Value):st.ev (.const x)=.v x:=rfl
theorem aIa (t:Nat):st.ev (.tmp t)=st.env t:=rfl
theorem aD5 (t d:Nat) (x:AV):(st.put (some d) x).env t=if t=d then x else st.env t:=rfl
theorem JC (t:Nat) (x:AV):(st.put none x).env t=st.env t:=rfl
theorem aD6 (t d:Nat) (e:jI):(st.new d e).env t=st.env t:=rfl
theorem aA9 (t s g:Nat) (e:Option jI):(st.iH s g e).env t=st.env t:=rfl
theorem aD7 (t:Nat) (d:Option Nat) (x:AV):(st.put d x).aO t=st.aO t:=by cases d<;>rfl
theorem aD8 (t d:Nat) (e:jI):(st.new d e).aO t=if t=d then st.aO d+1 else st.aO t:=rfl
theorem aBa (t s g:Nat) (e:Option jI):(st.iH s g e).aO t=st.aO t:=rfl
theorem aBb (s g:Nat) (d:Option Nat) (x:AV):(st.put d x).heap s g=st.heap s g:=by cases d<;>rfl
theorem Yg (s g d:Nat) (e:jI):(st.new d e).heap s g=if s=d∧g=st.aO d then some e else st.heap s g:=rfl
theorem Rb (s g s0 g0:Nat) (e:Option jI):(st.iH s0 g0 e).heap s g=if s=s0∧g=g0 then e else st.heap s g:=rfl
theorem aBc (t:Nat) (xs:List AV):(St.init xs).env t=(xs[t]?).getD (.v undef):=rfl
theorem aBd (t:Nat) (xs:List AV):(St.init xs).aO t=0:=rfl
theorem I0 (s g:Nat) (xs:List AV):(St.init xs).heap s g=none:=rfl
theorem aBe (x:AV):st.put none x=st:=rfl
theorem PQ (d:Option Nat) (x:AV):({ dst:=d,val:=x }:mT).apply st=st.put d x:=rfl
theorem I1 (d:Option Nat) (x:AV) (n:Nat) (e:jI):({ dst:=d,val:=x,new:=some (n,[e])}:mT).apply st=(st.new n e).put d x:=lJ d x n e
theorem I2 (d:Option Nat) (x:AV) (s g:Nat) (e:Option jI):({ dst:=d,val:=x,dM:=some (s,g,e)}:mT).apply st=(st.iH s g e).put d x:=rfl
theorem JD (d:Option Nat) (x:AV) (s g n:Nat) (z:Option jI) (e:jI):({ dst:=d,val:=x,dM:=some (s,g,z),new:=some (n,[e])}:mT).apply st=((st.iH s g z).new n e).put d x:=Rm d x s g n z e
theorem bL {g:Nat} {args:List AV} {r:AV} (hf:∀x∈args,Flat x) (h:call g args=some r) (hr:Flat r):aN call g args st d=some { dst:=d,val:=r }:=by
 unfold aN;rw[if_pos hf,h];simp only[cC,iM,if_pos hr]
theorem jE {g:Nat} {args:List AV} {d e sz n:Nat} {cs:List AV} (hf:∀x∈args,Flat x) (h:call g args=some (.uniq e sz n cs)) :
 aN call g args st (some d)=some { dst:=some d,val:=.own d (st.aO d),new:=some (d,[.row e sz n cs])}:=by
 unfold aN;rw[if_pos hf,h];have:¬Flat (.uniq e sz n cs):=by intro h;cases h
 simp only[cC,iM,if_neg this];rfl
end
end Go.Ab
end
section
namespace Go.Ab
open Classical
abbrev cK:=Vector Int 32
abbrev rT:=Vector Int 4
def sQ (x:Int):List AV:=[.v (.int .u64 x)]
def qA (x:Int):List AV:=[.v (.int .i64 x)]
def vC (x:Bool):List AV:=[.v (.bool x)]
def aX (r:cK):List AV:=r.toList.map fun x=>.v (.int .u8 x)
def gE (r:rT):List AV:=r.toList.map fun x=>.v (.int .u64 x)
@[simp] theorem aV (x:Int):(sQ x).length=1:=rfl
@[simp] theorem bE (x:Int):(qA x).length=1:=rfl
@[simp] theorem gR (x:Bool):(vC x).length=1:=rfl
@[simp] theorem aL (r:cK):(aX r).length=32:=by simp[aX]
@[simp] theorem dS (r:rT):(gE r).length=4:=by simp[gE]
theorem eA (x:Int):∀y∈sQ x,Flat y:=by intro y hy;simp[sQ] at hy;subst hy;exact .v _
theorem mK (x:Int):∀y∈qA x,Flat y:=by intro y hy;simp[qA] at hy;subst hy;exact .v _
theorem mM (x:Bool):∀y∈vC x,Flat y:=by intro y hy;simp[vC] at hy;subst hy;exact .v _
theorem dL (x:cK):∀y∈aX x,Flat y:=by intro y hy;obtain⟨z,_,rfl⟩:=List.mem_map.1 hy;exact .v _
theorem iO (x:rT):∀y∈gE x,Flat y:=by intro y hy;obtain⟨z,_,rfl⟩:=List.mem_map.1 hy;exact .v _
theorem PR (x:Int):∀y∈sQ x,fJ y:=by intro y hy;simp[sQ] at hy;subst hy;exact .v _
theorem aBf (x:Int):∀y∈qA x,fJ y:=by intro y hy;simp[qA] at hy;subst hy;exact .v _
theorem I3 (x:cK):∀y∈aX x,fJ y:=by intro y hy;obtain⟨z,_,rfl⟩:=List.mem_map.1 hy;exact .v _
theorem Lv {α:Type} (c:α→List AV) (z:Nat) (hz:∀a,(c a).length=z):∀(l:List α) (i:Nat) (h:i<l.length),rd (l.flatMap c) (i * z) z=c l[i]
 | [],i,h=>by simp at h
 | a :: l,0,h=>by simp[rd,List.take_append,hz,List.take_of_length_le]
 | a :: l,i+1,h=>by
   have ih:=Lv c z hz l i (by simpa using h)
   simp only[List.flatMap_cons,List.getElem_cons_succ];rw[← ih];simp only[rd];rw[List.drop_append,List.drop_of_length_le (by rw[hz,Nat.succ_mul];omega),hz,Nat.succ_mul]
   simp
theorem oP (a b:cK):aX a=aX b↔a=b:=by
 constructor
 ·intro h;unfold aX at h;have h2:a.toList=b.toList:=by
   have:=congrArg (List.map (fun x:AV=>match x with|.v (.int _ n)=>n|_=>0)) h
   simpa [List.map_map,Function.comp_def] using this
  exact Vector.toList_inj.1 h2
 ·intro h;rw[h]
theorem Rr (a b:rT):gE a=gE b↔a=b:=by
 constructor
 ·intro h;unfold gE at h;have h2:a.toList=b.toList:=by
   have:=congrArg (List.map (fun x:AV=>match x with|.v (.int _ n)=>n|_=>0)) h
   simpa [List.map_map,Function.comp_def] using this
  exact Vector.toList_inj.1 h2
 ·intro h;rw[h]
def dM (cs:List AV) (o:Nat) (xs:List AV) (e:Nat):List AV:=cs.take o++xs++cs.drop e
section
variable {a b xs:List AV} {n o o' e e' k:Nat}
theorem bH (h:xs=b):a++xs=a++b:=by rw[h]
theorem Fe (h:xs=b):xs++a=b++a:=by rw[h]
theorem aY (h:o'=o+n) (ha:a.length=n):rd (a++b) o' k=rd b o k:=by
 subst h;subst ha;simp only[rd];rw[List.drop_append,List.drop_of_length_le (by omega),List.nil_append,show o+a.length-a.length=o by omega]
theorem gI (ha:a.length=n):rd (a++b) 0 n=a:=by
 subst ha;simp[rd]
theorem jB (ha:a.length=n):rd a 0 n=a:=by
 subst ha;simp[rd]
theorem sT (h:o+k≤a.length):rd (a++b) o k=rd a o k:=by
 simp only[rd];rw[List.drop_append,List.take_append,show o-a.length=0 by omega,show k-(a.drop o).length=0 by simp;omega]
 simp
theorem aG (h:o'=o+n) (ha:a.length=n):(a++b)[o']? = b[o]?:=by
 subst h;subst ha;rw[List.getElem?_append_right (by omega),show o+a.length-a.length=o by omega]
theorem eH (h:o<a.length):(a++b)[o]? = a[o]?:=List.getElem?_append_left h
theorem aC (h:o'=o+n) (h':e'=e+n) (ha:a.length=n):dM (a++b) o' xs e'=a++dM b o xs e:=by
 subst h;subst h';subst ha;simp only[dM];rw[List.take_append,List.take_of_length_le (by omega),List.drop_append,List.drop_of_length_le (by omega),show o+a.length-a.length=o by omega,show e+a.length-a.length=e by omega]
 simp
theorem cJ (ha:a.length=n):dM (a++b) 0 xs n=xs++b:=by
 subst ha;simp[dM]
theorem eE (ha:a.length=n):dM a 0 xs n=xs:=by
 subst ha;simp[dM]
theorem uN (h:o≤e∧e≤a.length):dM (a++b) o xs e=dM a o xs e++b:=by
 simp only[dM];rw[List.take_append,List.drop_append,show o-a.length=0 by omega,show e-a.length=0 by omega]
 simp
end
theorem Di (a b:Int):sQ a=sQ b↔a=b:=by simp[sQ]
theorem uO (a b:Int):qA a=qA b↔a=b:=by simp[qA]
theorem FW (a b:Bool):vC a=vC b↔a=b:=by simp[vC]
def dO:cK:=Vector.replicate 32 0
def FX:rT:=Vector.replicate 4 0
def tU:List Value:=List.replicate 32 (.int .u8 0)
def Zo:List Value:=List.replicate 4 (.int .u64 0)
theorem jN:tU.map AV.v=aX dO:=by simp[tU,aX,dO]
theorem jO:Zo.map AV.v=gE FX:=by simp[Zo,gE,FX]
def Fq:List Bool:=List.replicate 32 true
def p7:List Bool:=List.replicate 4 true
theorem eT {l m:List Bool}:∀ {xs ys xs' ys':List AV},gW l xs ys→gW m xs' ys'→gW (l++m) (xs++xs') (ys++ys'):=by
 induction l with
 | nil=>intro xs ys xs' ys' h h';cases xs<;>cases ys<;>first|exact h'|exact h.elim
 | cons b l ih =>
   intro xs ys xs' ys' h h'
   cases b
   ·cases xs with
    | nil=>exact h.elim
    | cons x xs=>cases ys with
      | nil=>unfold gW at h;split at h<;>first|exact h.elim|simp_all
      | cons y ys =>
        unfold gW at h;split at h<;>simp_all [gW]
   ·cases xs with
    | nil=>exact h.elim
    | cons x xs=>cases ys with
      | nil=>unfold gW at h;split at h<;>first|exact h.elim|simp_all
      | cons y ys =>
        unfold gW at h;split at h<;>simp_all [gW]
theorem Lw (k:IntKind):∀(a b:List Int),a.length=b.length→gW (List.replicate a.length true) (a.map fun x=>.v (.int k x)) (b.map fun x=>.v (.int k x))
 | [],[],_=>trivial
 | [],_ :: _,h=>by simp at h
 | _ :: _,[],h=>by simp at h
 | a :: l,b :: m,h=>⟨rfl,Lw k l m (by simpa using h)⟩
theorem mO (a b:cK):gW Fq (aX a) (aX b):=by
 have:=Lw .u8 a.toList b.toList (by simp)
 rw[Vector.length_toList] at this;exact this
theorem Lx (a b:rT):gW p7 (gE a) (gE b):=by
 have:=Lw .u64 a.toList b.toList (by simp)
 rw[Vector.length_toList] at this;exact this
def PS (P:Program) (T:Nat):Option (List (Nat × Nat)) :=
 match P.underlying T with
 | some (.struct fs)=>if fs.all (fun f=>(P.info? f.type).isSome) then some (fs.toList.map fun f=>(f.offset,P.cellsOf f.type)) else none
 | _=>none
def PT (P:Program) (T:Nat):Option Nat :=
 match P.underlying T with
 | some (.array _ e)=>if (P.info? e).isSome then some (P.cellsOf e) else none
 | _=>none
theorem eZ {P:Program} {T:Nat} {l:List (Nat × Nat)} (h:PS P T=some l):placeOf P T=some fun i=>l[i]?:=by
 unfold PS at h;unfold placeOf;split at h
 ·rename_i fs hu;split at h
  ·rename_i Kx;simp only[Option.some.injEq] at h;subst h;simp only[hu,Kx,if_true];congr 1
   funext i
   simp
  ·cases h
 ·cases h
theorem Tp {P:Program} {T k:Nat} (h:PT P T=some k):placeOf P T=some fun i=>some (i * k,k):=by
 unfold PT at h;unfold placeOf;split at h
 ·rename_i n e hu;split at h
  ·rename_i Kx;simp only[Option.some.injEq] at h;subst h;simp only[hu,Kx,if_true]
  ·cases h
 ·cases h
theorem iE {P:Program} {st:St} {T:Nat} {parts:List (Nat × Operand)} {z:List Value} {place:Nat→Option (Nat × Nat)} {c:List AV} (hz:dX P T=some z) (hc:z.map AV.v=c) (hp:placeOf P T=some place) :
 iV P st T parts=if (parts.all fun p=>(st.ev p.2).jR)=true then (gN place c (parts.map fun p=>(p.1,st.ev p.2))).map .agg else none:=by
 simp only[iV,hz,hp,hc]
theorem MP (place:Nat→Option (Nat × Nat)) (c:List AV):gN place c []=some c:=rfl
theorem EO (place:Nat→Option (Nat × Nat)) (c:List AV) (i:Nat) (x:AV) (r:List (Nat × AV)):gN place c ((i,x) :: r)=cC (place i) fun os =>
 if x.cells.length=os.2∧os.1+os.2≤c.length then gN place (dM c os.1 x.cells (os.1+os.2)) r else none:=by
 simp only[gN];cases place i<;>rfl
theorem rO {P:Program} {T:Nat} {l:List Bool} {xs ys:List AV} {p:Prop} [Decidable p] (hl:eI P 20 T=some l) (ha:cY P T=true) (hg:P.eqGuardType P.depth T=false) (hf:gW l xs ys) (hp:xs=ys↔p) :
 tN P T xs ys=some (decide p):=by
 unfold tN;rw[hl];simp only[ha,hg,hf,and_self,if_true];congr 1
 rw[Bool.eq_iff_iff];simp[hp]
def tR (P:Program) (T:Nat):Option Nat :=
 match fO P T with
 | some (_,k)=>some k
 | none=>none
theorem I4 {P:Program} {st:St} {T s g o:Nat} {x:AV}:Vt P st T (.ptr s g o) x=cC (tR P T) fun k=>if x.cells.length=k∧x.jR=true then
 (match st.heap s g with
  | some (.cells cs)=>if o+k≤cs.length then some (st.iH s g (some (.cells (dM cs o x.cells (o+k))))) else none
  | some (.row e sz n cs)=>if o+k≤cs.length then some (st.iH s g (some (.row e sz n (dM cs o x.cells (o+k))))) else none
  | _=>none) else none:=by
 simp only[Vt,pX,tR];cases fO P T with
 | none=>rfl
 | some bk =>
   obtain⟨b,k⟩:=bk
   simp only[cC];split
   ·split
    ·rename_i h;simp only[h];split<;>rfl
    ·rename_i h;simp only[h];split<;>rfl
    ·rename_i h1 h2;split<;>rename_i h<;>first|rfl|exact absurd h (h1 _)|exact absurd h (h2 _ _ _ _)
   ·rfl
theorem PU (s:cK):rd (aX s) 0 32=aX s:=jB (aL _)
theorem PV (s x:cK):dM (aX s) 0 (aX x) 32=aX x:=eE (aL _)
theorem PW (s:rT):rd (gE s) 0 4=gE s:=jB (dS _)
theorem PX (s x:rT):dM (gE s) 0 (gE x) 4=gE x:=eE (dS _)
theorem wrap_i64 (x:Int) (h1:-9223372036854775808≤x) (h2:x≤9223372036854775807):IntKind.i64.wrap x=x:=by
 rw[IntKind.wrap_i64];omega
theorem pA (s g:Nat):¬Flat (.own s g):=by intro h;cases h
theorem Nf (s g o:Nat):¬Flat (.ptr s g o):=by intro h;cases h
theorem dY {st:St} {x:AV} (h:Flat x):fU st x=some x:=by unfold fU;rw[if_pos h]
theorem kE {st:St} {s g e sz n:Nat} {cs:List AV} (h:st.heap s g=some (.row e sz n cs)) (hf:∀c∈cs,Flat c):cM st (.own s g)=some (.sl n cs):=by
 unfold cM;rw[if_neg (pA s g)];simp only[h];rw[if_pos hf]
theorem cH {st:St} {x:AV} (h:Flat x):cM st x=some x:=by unfold cM;rw[if_pos h]
theorem aBg {st:St} {x:AV} (h:Flat x):tO st x=some x:=by unfold tO;rw[if_pos h]
theorem Su {st:St}:∀ {cs:List AV},(∀c∈cs,Flat c)→bP (cs.map (tO st))=some cs
 | [],_=>rfl
 | c :: cs,h=>by
   rw[List.map_cons,aBg (h c (by simp))]
   have ih:=Su (st:=st) (cs:=cs) fun d hd=>h d (List.mem_cons_of_mem _ hd)
   simp only[bP,ih,Option.map_some]
section
variable [Ext]
theorem aBh {P:Program} {f:Nat} {fn:Func} {t:Nat} {st:St} {x:AV} {e:Ex} (hk:Ext.qP f=false) (he:e=.ret∨e=.normal) (hr:fn.results.toList=[.tmp t]) (hx:st.env t=x) (hf:Flat x):Al P f fn (e,st)=some x:=by
 have h1:jA P f fn st=some x:=by
  unfold jA;rw[hk,if_neg (by simp)]
  unfold sU;rw[hr];simp only[iI,cC,hx,Gm];cases hf<;>simp only[fU]<;>rw[if_pos]<;>constructor<;>assumption
 rcases he with rfl|rfl<;>exact h1
theorem I5 {P:Program} {f:Nat} {fn:Func} {t T:Nat} {st:St} {y x:AV} {e:Ex} (hk:Ext.qP f=false) (he:e=.ret∨e=.normal) (hr:fn.results.toList=[.cell t T]) (hy:st.env t=y) (hx:Fp P st T y=some x) (hf:Flat x):Al P f fn (e,st)=some x:=by
 have h1:jA P f fn st=some x:=by
  unfold jA;rw[hk,if_neg (by simp)]
  unfold sU;rw[hr];show cC (cC (qQ st (st.env t)) (xY P T)) (Gm st)=some x
  rw[hy,Ov,hx];simp only[cC,Gm];cases hf<;>simp only[fU]<;>rw[if_pos]<;>constructor<;>assumption
 rcases he with rfl|rfl<;>exact h1
theorem Xm {P:Program} {f:Nat} {fn:Func} {t:Nat} {st:St} {e:Ex} {s g e' sz n:Nat} {cs:List AV} (hk:Ext.qP f=false) (he:e=.ret∨e=.normal) (hr:fn.results.toList=[.tmp t]) (hx:st.env t=.own s g) (hh:st.heap s g=some (.row e' sz n cs)) (hf:∀c∈cs,Flat c):Al P f fn (e,st)=some (.uniq e' sz n cs):=by
 have h1:jA P f fn st=some (.uniq e' sz n cs):=by
  unfold jA;rw[hk,if_neg (by simp)]
  unfold sU;rw[hr];simp only[iI,cC,hx,Gm,hh];rw[if_pos hf]
 rcases he with rfl|rfl<;>exact h1
theorem WU {P:Program} {f:Nat} {fn:Func} {t T:Nat} {st:St} {e:Ex} {z:AV} {cs:List AV} {y:AV} (hk:Ext.qP f=false) (he:e=.ret∨e=.normal) (hr:fn.results.toList=[.cell t T]) (hz:st.env t=z) (hx:Fp P st T z=some (.agg cs)) (hy:fU st (.agg cs)=some y):Al P f fn (e,st)=some y:=by
 have h1:jA P f fn st=some y:=by
  unfold jA;rw[hk,if_neg (by simp)]
  unfold sU;rw[hr];show cC (cC (qQ st (st.env t)) (xY P T)) (Gm st)=some y
  rw[hz,Ov,hx];simp only[cC,Gm,hy]
 rcases he with rfl|rfl<;>exact h1
def bY (P:Program) (st:St) (r:ResultVar):Option AV :=
 match r with
 | .tmp t=>some (st.env t)
 | .cell t T=>Fp P st T (st.env t)
theorem Ax (P:Program) (st:St) (r:ResultVar):iI P st r=bY P st r:=by
 cases r with
 | tmp t=>rfl
 | cell t T=>exact Ov P st T _
theorem aBi {P:Program} {f:Nat} {fn:Func} {st:St} {e:Ex} {r1 r2:ResultVar} {x1 x2 y1 y2:AV} (hk:Ext.qP f=false) (he:e=.ret∨e=.normal) (hr:fn.results.toList=[r1,r2])
 (h1:bY P st r1=some x1) (h2:bY P st r2=some x2) (e1:fU st x1=some y1) (e2:fU st x2=some y2):Al P f fn (e,st)=some (.dZ [y1,y2]):=by
 have h:jA P f fn st=some (.dZ [y1,y2]):=by
  unfold jA;rw[hk,if_neg (by simp)]
  unfold sU;rw[hr];simp only[List.map_cons,List.map_nil,Ax,h1,h2,cC,Dg e1,Dg e2,bP,Option.map_some]
 rcases he with rfl|rfl<;>exact h
theorem I6 {P:Program} {f:Nat} {fn:Func} {st:St} {e:Ex} {r1 r2:ResultVar} {x1 x2 y1 y2:AV} (hk:Ext.qP f=false) (he:e=.ret∨e=.normal) (hr:fn.results.toList=[r1,r2])
 (h1:bY P st r1=some x1) (h2:bY P st r2=some x2) (e0:fU st x1=none) (e1:Ms st x1=some y1) (e2:fU st x2=some y2):Al P f fn (e,st)=some (.dZ [y1,y2]):=by
 have e1':yY st x1=some y1:=(VT e0).trans e1
 have h:jA P f fn st=some (.dZ [y1,y2]):=by
  unfold jA;rw[hk,if_neg (by simp)]
  unfold sU;rw[hr];simp only[List.map_cons,List.map_nil,Ax,h1,h2,cC,e1',Dg e2,bP,Option.map_some]
 rcases he with rfl|rfl<;>exact h
theorem WV {P:Program} {f:Nat} {fn:Func} {st:St} {e:Ex} {r1 r2 r3:ResultVar} {x1 x2 x3 y1 y2 y3:AV} (hk:Ext.qP f=false) (he:e=.ret∨e=.normal) (hr:fn.results.toList=[r1,r2,r3])
 (h1:bY P st r1=some x1) (h2:bY P st r2=some x2) (h3:bY P st r3=some x3) (e1:fU st x1=some y1) (e2:fU st x2=some y2) (e3:fU st x3=some y3):Al P f fn (e,st)=some (.dZ [y1,y2,y3]):=by
 have h:jA P f fn st=some (.dZ [y1,y2,y3]):=by
  unfold jA;rw[hk,if_neg (by simp)]
  unfold sU;rw[hr];simp only[List.map_cons,List.map_nil,Ax,h1,h2,h3,cC,Dg e1,Dg e2,Dg e3,bP,Option.map_some]
 rcases he with rfl|rfl<;>exact h
end
section
variable [Ext]
theorem I7 {P:Program} (c:Operand) (a b:Code) (st:St):zF P (.cond c a b) st=onB (st.ev c) fun t=>if t=true then zF P a st else zF P b st:=by
 cases h:st.ev c with
 | v x =>
   cases x with
   | bool t=>exact aAV P c a b st h
   | _ =>
     apply Option.ext
     intro r;rw[p6];constructor
     ·rintro⟨n,m,h'⟩
      cases m with
      | zero=>simp[uV] at h'
      | succ m=>simp[uV,h] at h'
     ·intro h';simp[onB] at h'
 | _ =>
   apply Option.ext
   intro r;rw[p6];constructor
   ·rintro⟨n,m,h'⟩
    cases m with
    | zero=>simp[uV] at h'
    | succ m=>simp[uV,h] at h'
   ·intro h';simp[onB] at h'
def p8 (ops:Array Oper) (j:Nat):Option Nat:=(ops[j]?).bind (·.dst)
def WW {α:Type} (x:AV) (want:Bool) (y n:Option α):Option α :=
 match x with
 | .v (.bool b)=>if b=want then y else n
 | .v _=>n
 | _=>none
def onS {α:Type} (d:Option Nat) (k:Nat→Option α) (n:Option α):Option α :=
 match d with
 | some d=>k d
 | none=>n
@[congr] theorem aIb {α:Type} {x x':AV} {want:Bool} {y n:Option α} (h:x=x'):WW x want y n=WW x' want y n:=by rw[h]
@[congr] theorem aKq {α:Type} {d d':Option Nat} {k:Nat→Option α} {n:Option α} (h:d=d'):onS d k n=onS d' k n:=by rw[h]
theorem I8 {α:Type} (b:Bool) (y n:Option α):WW (.v (.bool b)) true y n=if b=true then y else n:=rfl
theorem WX {α:Type} (b:Bool) (y n:Option α):WW (.v (.bool b)) false y n=if b=false then y else n:=rfl
theorem WY {α:Type} (w:Bool) (y n:Option α):WW (.v undef) w y n=n:=rfl
theorem aBj {α:Type} (d:Nat) (k:Nat→Option α) (n:Option α):onS (some d) k n=k d:=rfl
theorem I9 {P:Program} {call:Nat→List AV→Option AV} {ops:Array Oper} {st:St} {d:Option Nat} {T:Nat} {pos:String} {eM:Array Edge} (op:Op) (j:Nat) (want:Bool) :
 cE P call ops ⟨d,op,T,pos,eM,some (j,want)⟩ st=onS (p8 ops j) (fun s=>WW (st.env s) want (cE P call ops ⟨d,op,T,pos,eM,none⟩ st) (some (st.put d (.v undef)))) (some (st.put d (.v undef))):=by
 simp only[cE,gv,p8];cases (ops[j]?).bind (·.dst) with
 | none=>simp[onS]
 | some s =>
   simp only[onS];cases st.env s with
   | v x=>cases x<;>simp[WW,cZ]<;>rename_i b<;>cases b<;>cases want<;>simp[cZ]
   | _=>rfl
end
section
variable {P:Program} {T:Nat} {k k1:IntKind} {a b:Int}
theorem aD9:fS P .add T (.v (.int k a)) (.v (.int k b))=some (.v (.int k (k.wrap (a+b)))):=by simp[fS]
theorem aEa:fS P .sub T (.v (.int k a)) (.v (.int k b))=some (.v (.int k (k.wrap (a-b)))):=by simp[fS]
theorem aEb:fS P .mul T (.v (.int k a)) (.v (.int k b))=some (.v (.int k (k.wrap (a * b)))):=by simp[fS]
theorem aEc:fS P .and T (.v (.int k a)) (.v (.int k b))=some (.v (.int k (k.wrap (BitVec.ofInt k.bits a &&& BitVec.ofInt k.bits b).toNat))):=by simp[fS]
theorem aEd:fS P .eql T (.v (.int k a)) (.v (.int k b))=some (.v (.bool (a == b))):=by simp[fS]
theorem aEe:fS P .neq T (.v (.int k a)) (.v (.int k b))=some (.v (.bool (a != b))):=by simp[fS]
theorem aEf:fS P .lss T (.v (.int k a)) (.v (.int k b))=some (.v (.bool (decide (a<b)))):=by simp[fS]
theorem aEg:fS P .leq T (.v (.int k a)) (.v (.int k b))=some (.v (.bool (decide (a≤b)))):=by simp[fS]
theorem aEh:fS P .gtr T (.v (.int k a)) (.v (.int k b))=some (.v (.bool (decide (a > b)))):=by simp[fS]
theorem aEi:fS P .geq T (.v (.int k a)) (.v (.int k b))=some (.v (.bool (decide (a≥b)))):=by simp[fS]
theorem aEj (h:b≠0):fS P .quo T (.v (.int k a)) (.v (.int k b))=some (.v (.int k (k.wrap (a.tdiv b)))):=by simp[fS,h]
theorem aEk (h:b≠0):fS P .rem T (.v (.int k a)) (.v (.int k b))=some (.v (.int k (a.tmod b))):=by simp[fS,h]
theorem aEl (h:¬b<0):fS P .shr T (.v (.int k a)) (.v (.int k1 b))=some (.v (.int k (a.fdiv (2 ^ (min b.toNat k.bits))))):=by simp[fS,h]
theorem aEm (h:¬b<0):fS P .shl T (.v (.int k a)) (.v (.int k1 b))=some (.v (.int k (k.wrap (a * 2 ^ (min b.toNat k.bits))))):=by simp[fS,h]
end
theorem JE (s:St) (k:St→Option (Ex × St)):Nz (.normal,s) k=k s:=rfl
theorem J0 (s:St) (k:St→Option (Ex × St)):Nz (.ret,s) k=some (.ret,s):=rfl
theorem WZ (i:Nat) (s:St) (k:St→Option (Ex × St)):Nz (.exit i,s) k=some (.exit i,s):=rfl
theorem Wf (r:cK) (i e:Nat) (x:Int) (h:i<32) (he:e=i+1):dM (aX r) i [.v (.int .u8 x)] e=aX (r.set i x):=by
 subst he;simp only[dM,aX,Vector.toList_set,List.map_set];rw[List.set_eq_take_append_cons_drop,if_pos (by simp[h])]
 simp
theorem rG (r:rT) (i e:Nat) (x:Int) (h:i<4) (he:e=i+1):dM (gE r) i [.v (.int .u64 x)] e=gE (r.set i x):=by
 subst he;simp only[dM,gE,Vector.toList_set,List.map_set];rw[List.set_eq_take_append_cons_drop,if_pos (by simp[h])]
 simp
theorem Qh [Ext] {P:Program} {b:Code} (Inv:Nat→St→Prop) (Q:Ex→St→Prop)
 (step:∀n st,Inv n st→∃e st',zF P b st=some (e,st')∧((e=.normal∧∃m,m<n∧Inv m st')∨(e≠.normal∧Q e st'))):∀n st,Inv n st→∃e st',zF P (.loop b) st=some (e,st')∧e≠.normal∧Q e st':=by
 intro n;induction n using Nat.strongRecOn with
 | _ n ih =>
   intro st h;obtain⟨e,s1,h1,h2⟩:=step n st h
   rw[Gu,h1];rcases h2 with ⟨rfl,m,hm,hi⟩|⟨gT,hq⟩
   ·exact ih m hm s1 hi
   ·refine⟨e,s1, ?_,gT,hq⟩
    cases e with
    | normal=>exact absurd rfl gT
    | _=>rfl
theorem lV [Ext] {P:Program} {b:Code} {st:St} {β:Type} {k:Ex × St→Option β} {r:β} (Inv:Nat→St→Prop) (Q:Ex→St→Prop) (n:Nat)
 (step:∀n st,Inv n st→∃e st',zF P b st=some (e,st')∧((e=.normal∧∃m,m<n∧Inv m st')∨(e≠.normal∧Q e st')))
 (start:Inv n st) (rest:∀e st',Q e st'→k (e,st')=some r):cC (zF P (.loop b) st) k=some r:=by
 obtain⟨e,s1,h1,h2,h3⟩:=Qh Inv Q step n st start
 rw[h1];exact rest e s1 h3
theorem cB [Ext] {P:Program} {b:Code} {st:St} {β:Type} {k:Ex × St→Option β} {R:β→Prop} (Inv:Nat→St→Prop) (Q:Ex→St→Prop) (n:Nat)
 (step:∀n st,Inv n st→∃e st',zF P b st=some (e,st')∧((e=.normal∧∃m,m<n∧Inv m st')∨(e≠.normal∧Q e st')))
 (start:Inv n st) (rest:∀e st',Q e st'→∃r,k (e,st')=some r∧R r):∃r,cC (zF P (.loop b) st) k=some r∧R r:=by
 obtain⟨e,s1,h1,h2,h3⟩:=Qh Inv Q step n st start
 rw[h1];exact rest e s1 h3
theorem mZ {α β γ:Type} (x:Option α) (f:α→Option β) (g:β→Option γ):cC (cC x f) g=cC x fun a=>cC (f a) g:=by cases x<;>rfl
theorem oV [Ext] {P:Program} {b:Code} {st st':St} {n:Nat} {Inv:Nat→St→Prop} {Q:Ex→St→Prop} (h:zF P b st=some (.normal,st')) (m:Nat) (hm:m<n) (hi:Inv m st') :
 ∃e st',zF P b st=some (e,st')∧((e=.normal∧∃m,m<n∧Inv m st')∨(e≠.normal∧Q e st')):=⟨_,_,h,.inl ⟨rfl,m,hm,hi⟩⟩
theorem aIc [Ext] {P:Program} {b:Code} {st st':St} {e:Ex} {n:Nat} {Inv:Nat→St→Prop} {Q:Ex→St→Prop} (h:zF P b st=some (e,st')) (he:e≠.normal) (hq:Q e st') :
 ∃e st',zF P b st=some (e,st')∧((e=.normal∧∃m,m<n∧Inv m st')∨(e≠.normal∧Q e st')):=⟨_,_,h,.inr ⟨he,hq⟩⟩
def aJ (l:List Int):List AV:=l.flatMap qA
@[simp] theorem Jd (l:List (Int)):(aJ l).length=l.length * 1:=by
 induction l with
 | nil=>rfl
 | cons x l ih=>simp only[aJ,List.flatMap_cons,List.length_append,bE,List.length_cons] at *;omega
theorem gD (l:List (Int)):∀x∈aJ l,Flat x:=by
 intro x hx;obtain⟨y,_,hy⟩:=List.mem_flatMap.1 hx
 exact mK y x hy
theorem aBk (l:List (Int)) (i:Nat) (h:i<l.length):rd (aJ l) (i * 1) 1=qA l[i]:=Lv qA 1 (bE) l i h
def bF (l:List Int):List AV:=l.flatMap sQ
@[simp] theorem Qy (l:List (Int)):(bF l).length=l.length * 1:=by
 induction l with
 | nil=>rfl
 | cons x l ih=>simp only[bF,List.flatMap_cons,List.length_append,aV,List.length_cons] at *;omega
theorem iC (l:List (Int)):∀x∈bF l,Flat x:=by
 intro x hx;obtain⟨y,_,hy⟩:=List.mem_flatMap.1 hx
 exact eA y x hy
def gV (l:List cK):List AV:=l.flatMap aX
@[simp] theorem aId (l:List (cK)):(gV l).length=l.length * 32:=by
 induction l with
 | nil=>rfl
 | cons x l ih=>simp only[gV,List.flatMap_cons,List.length_append,aL,List.length_cons] at *;omega
theorem Tq (l:List (cK)):∀x∈gV l,Flat x:=by
 intro x hx;obtain⟨y,_,hy⟩:=List.mem_flatMap.1 hx
 exact dL y x hy
structure fV where
 aK:Int
 root:cK
def bZ (s:fV):List AV:=sQ s.aK++(aX s.root)
@[simp] theorem bS (s:fV):(bZ s).length=33:=by simp[bZ]
theorem dD (s:fV):∀x∈bZ s,Flat x:=by
 intro x hx;simp only[bZ,List.mem_append,List.mem_singleton] at hx;rcases hx with hx|hx
 ·(exact eA _ _ hx)
 ·(exact dL _ _ hx)
theorem kD (s:fV):(bZ s)[0]? = some (.v (.int .u64 s.aK)):=rfl
theorem Cf (s:fV) (x:Int):dM (bZ s) 0 ([.v (.int .u64 x)]) 1=bZ { s with aK:=x }:=cJ (aV _)
theorem uP (s:fV):rd (bZ s) 1 32=aX s.root:=(aY rfl (aV _)).trans (jB (aL _))
theorem Ff (s:fV) (x:cK):dM (bZ s) 1 (aX x) 33=bZ { s with root:=x }:=(aC rfl rfl (aV _)).trans (bH (eE (aL _)))
def gZ:fV:=⟨0,dO⟩
def Ct:List Value:=[.int .u64 0]++(tU)
theorem Bb:Ct.map AV.v=bZ gZ:=by simp only[Ct,List.map_append,List.map_cons,List.map_nil,jN,jO];rfl
def Tr:List Bool:=[true]++(Fq)
theorem tL (a b:fV):gW Tr (bZ a) (bZ b):=(eT (show gW [true] [_] [_] from ⟨rfl,trivial⟩) (mO _ _))
theorem mY (a b:fV):bZ a=bZ b↔a=b:=by
 refine⟨fun h=>?_,fun h=>by rw[h]⟩
 cases a;cases b
 simp only[bZ] at h;obtain⟨h0,h⟩:=List.append_inj h (by simp)
 have e0:=(Di _ _).1 h0
 have e1:=(oP _ _).1 h
 subst e0 e1;rfl
theorem PY (s:fV):rd (bZ s) 0 33=bZ s:=jB (bS _)
theorem PZ (s x:fV):dM (bZ s) 0 (bZ x) 33=bZ x:=eE (bS _)
structure pF where
 pj:fV
 pf:fV
def fK (s:pF):List AV:=bZ s.pj++(bZ s.pf)
@[simp] theorem cN (s:pF):(fK s).length=66:=by simp[fK]
theorem Ek (s:pF):∀x∈fK s,Flat x:=by
 intro x hx;simp only[fK,List.mem_append,List.mem_singleton] at hx;rcases hx with hx|hx
 ·(exact dD _ _ hx)
 ·(exact dD _ _ hx)
theorem Ow (s:pF):rd (fK s) 0 33=bZ s.pj:=gI (bS _)
theorem Ox (s:pF) (x:fV):dM (fK s) 0 (bZ x) 33=fK { s with pj:=x }:=cJ (bS _)
theorem xV (s:pF):(fK s)[0]? = some (.v (.int .u64 s.pj.aK)):=(eH (by rw[bS];decide)).trans (kD _)
theorem zY (s:pF) (x:Int):dM (fK s) 0 ([.v (.int .u64 x)]) 1=fK { s with pj:={ s.pj with aK:=x }}:=(uN (by rw[bS];decide)).trans (Fe (Cf _ x))
theorem Oy (s:pF):rd (fK s) 33 33=bZ s.pf:=(aY rfl (bS _)).trans (jB (bS _))
theorem Oz (s:pF) (x:fV):dM (fK s) 33 (bZ x) 66=fK { s with pf:=x }:=(aC rfl rfl (bS _)).trans (bH (eE (bS _)))
theorem xW (s:pF):(fK s)[33]? = some (.v (.int .u64 s.pf.aK)):=(aG rfl (bS _)).trans (kD _)
def Np:pF:=⟨gZ,gZ⟩
def Pa:List Value:=Ct++(Ct)
theorem Rs:Pa.map AV.v=fK Np:=by simp only[Pa,List.map_append,List.map_cons,List.map_nil,jN,jO,Bb];rfl
def p9:List Bool:=Tr++(Tr)
theorem JF (a b:pF):gW p9 (fK a) (fK b):=(eT (tL _ _) (tL _ _))
theorem QA (a b:pF):fK a=fK b↔a=b:=by
 refine⟨fun h=>?_,fun h=>by rw[h]⟩
 cases a;cases b
 simp only[fK] at h;obtain⟨h0,h⟩:=List.append_inj h (by simp)
 have e0:=(mY _ _).1 h0
 have e1:=(mY _ _).1 h
 subst e0 e1;rfl
theorem CO (s:pF):rd (fK s) 0 66=fK s:=jB (cN _)
theorem CP (s x:pF):dM (fK s) 0 (fK x) 66=fK x:=eE (cN _)
structure Block where
 dQ:pF
 slot:Int
 root:cK
 parent:cK
 jL:cK
 diff:rT
 EL:rT
 gY:fV
 fin:fV
 Eu:Bool
def aT (s:Block):List AV:=fK s.dQ++(sQ s.slot++(aX s.root++(aX s.parent++(aX s.jL++(gE s.diff++(gE s.EL++(bZ s.gY++(bZ s.fin++(vC s.Eu)))))))))
@[simp] theorem bO (s:Block):(aT s).length=238:=by simp[aT]
theorem Bm (s:Block):∀x∈aT s,Flat x:=by
 intro x hx;simp only[aT,List.mem_append,List.mem_singleton] at hx;rcases hx with hx|hx|hx|hx|hx|hx|hx|hx|hx|hx
 ·(exact Ek _ _ hx)
 ·(exact eA _ _ hx)
 ·(exact dL _ _ hx)
 ·(exact dL _ _ hx)
 ·(exact dL _ _ hx)
 ·(exact iO _ _ hx)
 ·(exact iO _ _ hx)
 ·(exact dD _ _ hx)
 ·(exact dD _ _ hx)
 ·(exact mM _ _ hx)
theorem Fs (s:Block):rd (aT s) 0 66=fK s.dQ:=gI (cN _)
theorem Uj (s:Block) (x:pF):dM (aT s) 0 (fK x) 66=aT { s with dQ:=x }:=cJ (cN _)
theorem zZ (s:Block):rd (aT s) 0 33=bZ s.dQ.pj:=(sT (by rw[cN];decide)).trans (Ow _)
theorem Ly (s:Block) (x:fV):dM (aT s) 0 (bZ x) 33=aT { s with dQ:={ s.dQ with pj:=x }}:=(uN (by rw[cN];decide)).trans (Fe (Ox _ x))
theorem sF (s:Block):(aT s)[0]? = some (.v (.int .u64 s.dQ.pj.aK)):=(eH (by rw[cN];decide)).trans (xV _)
theorem Cg (s:Block) (x:Int):dM (aT s) 0 ([.v (.int .u64 x)]) 1=aT { s with dQ:={ s.dQ with pj:={ s.dQ.pj with aK:=x }} }:=(uN (by rw[cN];decide)).trans (Fe (zY _ x))
theorem Aa (s:Block):rd (aT s) 33 33=bZ s.dQ.pf:=(sT (by rw[cN];decide)).trans (Oy _)
theorem Lz (s:Block) (x:fV):dM (aT s) 33 (bZ x) 66=aT { s with dQ:={ s.dQ with pf:=x }}:=(uN (by rw[cN];decide)).trans (Fe (Oz _ x))
theorem sG (s:Block):(aT s)[33]? = some (.v (.int .u64 s.dQ.pf.aK)):=(eH (by rw[cN];decide)).trans (xW _)
theorem Hy (s:Block):(aT s)[66]? = some (.v (.int .u64 s.slot)):=(aG rfl (cN _)).trans (rfl)
theorem CQ (s:Block) (x:Int):dM (aT s) 66 ([.v (.int .u64 x)]) 67=aT { s with slot:=x }:=(aC rfl rfl (cN _)).trans (bH (cJ (aV _)))
theorem Kh (s:Block):rd (aT s) 67 32=aX s.root:=(aY rfl (cN _)).trans ((aY rfl (aV _)).trans (gI (aL _)))
theorem CR (s:Block) (x:cK):dM (aT s) 67 (aX x) 99=aT { s with root:=x }:=(aC rfl rfl (cN _)).trans (bH ((aC rfl rfl (aV _)).trans (bH (cJ (aL _)))))
theorem Uk (s:Block):rd (aT s) 99 32=aX s.parent:=(aY rfl (cN _)).trans ((aY rfl (aV _)).trans ((aY rfl (aL _)).trans (gI (aL _))))
theorem Ul (s:Block) (x:cK):dM (aT s) 99 (aX x) 131=aT { s with parent:=x }:=(aC rfl rfl (cN _)).trans (bH ((aC rfl rfl (aV _)).trans (bH ((aC rfl rfl (aL _)).trans (bH (cJ (aL _)))))))
theorem Dj (s:Block):rd (aT s) 131 32=aX s.jL:=(aY rfl (cN _)).trans ((aY rfl (aV _)).trans ((aY rfl (aL _)).trans ((aY rfl (aL _)).trans (gI (aL _)))))
theorem Rt (s:Block) (x:cK):dM (aT s) 131 (aX x) 163=aT { s with jL:=x }:=(aC rfl rfl (cN _)).trans (bH ((aC rfl rfl (aV _)).trans (bH ((aC rfl rfl (aL _)).trans (bH ((aC rfl rfl (aL _)).trans (bH (cJ (aL _)))))))))
theorem CS (s:Block):rd (aT s) 163 4=gE s.diff:=(aY rfl (cN _)).trans ((aY rfl (aV _)).trans ((aY rfl (aL _)).trans ((aY rfl (aL _)).trans ((aY rfl (aL _)).trans (gI (dS _))))))
theorem CT (s:Block) (x:rT):dM (aT s) 163 (gE x) 167=aT { s with diff:=x }:=(aC rfl rfl (cN _)).trans (bH ((aC rfl rfl (aV _)).trans (bH ((aC rfl rfl (aL _)).trans (bH ((aC rfl rfl (aL _)).trans (bH ((aC rfl rfl (aL _)).trans (bH (cJ (dS _)))))))))))
theorem Zp (s:Block):rd (aT s) 167 4=gE s.EL:=(aY rfl (cN _)).trans ((aY rfl (aV _)).trans ((aY rfl (aL _)).trans ((aY rfl (aL _)).trans ((aY rfl (aL _)).trans ((aY rfl (dS _)).trans (gI (dS _)))))))
theorem Zq (s:Block) (x:rT):dM (aT s) 167 (gE x) 171=aT { s with EL:=x }:=(aC rfl rfl (cN _)).trans (bH ((aC rfl rfl (aV _)).trans (bH ((aC rfl rfl (aL _)).trans (bH ((aC rfl rfl (aL _)).trans (bH ((aC rfl rfl (aL _)).trans (bH ((aC rfl rfl (dS _)).trans (bH (cJ (dS _)))))))))))))
theorem Ki (s:Block):rd (aT s) 171 33=bZ s.gY:=(aY rfl (cN _)).trans ((aY rfl (aV _)).trans ((aY rfl (aL _)).trans ((aY rfl (aL _)).trans ((aY rfl (aL _)).trans ((aY rfl (dS _)).trans ((aY rfl (dS _)).trans (gI (bS _))))))))
theorem CU (s:Block) (x:fV):dM (aT s) 171 (bZ x) 204=aT { s with gY:=x }:=(aC rfl rfl (cN _)).trans (bH ((aC rfl rfl (aV _)).trans (bH ((aC rfl rfl (aL _)).trans (bH ((aC rfl rfl (aL _)).trans (bH ((aC rfl rfl (aL _)).trans (bH ((aC rfl rfl (dS _)).trans (bH ((aC rfl rfl (dS _)).trans (bH (cJ (bS _)))))))))))))))
theorem Hz (s:Block):(aT s)[171]? = some (.v (.int .u64 s.gY.aK)):=(aG rfl (cN _)).trans ((aG rfl (aV _)).trans ((aG rfl (aL _)).trans ((aG rfl (aL _)).trans ((aG rfl (aL _)).trans ((aG rfl (dS _)).trans ((aG rfl (dS _)).trans ((eH (by rw[bS];decide)).trans (kD _))))))))
theorem Pb (s:Block):rd (aT s) 204 33=bZ s.fin:=(aY rfl (cN _)).trans ((aY rfl (aV _)).trans ((aY rfl (aL _)).trans ((aY rfl (aL _)).trans ((aY rfl (aL _)).trans ((aY rfl (dS _)).trans ((aY rfl (dS _)).trans ((aY rfl (bS _)).trans (gI (bS _)))))))))
theorem JG (s:Block) (x:fV):dM (aT s) 204 (bZ x) 237=aT { s with fin:=x }:=(aC rfl rfl (cN _)).trans (bH ((aC rfl rfl (aV _)).trans (bH ((aC rfl rfl (aL _)).trans (bH ((aC rfl rfl (aL _)).trans (bH ((aC rfl rfl (aL _)).trans (bH ((aC rfl rfl (dS _)).trans (bH ((aC rfl rfl (dS _)).trans (bH ((aC rfl rfl (bS _)).trans (bH (cJ (bS _)))))))))))))))))
theorem Jo (s:Block):(aT s)[204]? = some (.v (.int .u64 s.fin.aK)):=(aG rfl (cN _)).trans ((aG rfl (aV _)).trans ((aG rfl (aL _)).trans ((aG rfl (aL _)).trans ((aG rfl (aL _)).trans ((aG rfl (dS _)).trans ((aG rfl (dS _)).trans ((aG rfl (bS _)).trans ((eH (by rw[bS];decide)).trans (kD _)))))))))
theorem Pc (s:Block) (x:cK):dM (aT s) 205 (aX x) 237=aT { s with fin:={ s.fin with root:=x }}:=(aC rfl rfl (cN _)).trans (bH ((aC rfl rfl (aV _)).trans (bH ((aC rfl rfl (aL _)).trans (bH ((aC rfl rfl (aL _)).trans (bH ((aC rfl rfl (aL _)).trans (bH ((aC rfl rfl (dS _)).trans (bH ((aC rfl rfl (dS _)).trans (bH ((aC rfl rfl (bS _)).trans (bH ((uN (by rw[bS];decide)).trans (Fe (Ff _ x))))))))))))))))))
theorem Ru (s:Block):(aT s)[237]? = some (.v (.bool s.Eu)):=(aG rfl (cN _)).trans ((aG rfl (aV _)).trans ((aG rfl (aL _)).trans ((aG rfl (aL _)).trans ((aG rfl (aL _)).trans ((aG rfl (dS _)).trans ((aG rfl (dS _)).trans ((aG rfl (bS _)).trans ((aG rfl (bS _)).trans (rfl)))))))))
theorem Um (s:Block) (x:Bool):dM (aT s) 237 ([.v (.bool x)]) 238=aT { s with Eu:=x }:=(aC rfl rfl (cN _)).trans (bH ((aC rfl rfl (aV _)).trans (bH ((aC rfl rfl (aL _)).trans (bH ((aC rfl rfl (aL _)).trans (bH ((aC rfl rfl (aL _)).trans (bH ((aC rfl rfl (dS _)).trans (bH ((aC rfl rfl (dS _)).trans (bH ((aC rfl rfl (bS _)).trans (bH ((aC rfl rfl (bS _)).trans (bH (eE (gR _)))))))))))))))))))
def fP:Block:=⟨Np,0,dO,dO,dO,FX,FX,gZ,gZ,false⟩
def Rv:List Value:=Pa++([.int .u64 0]++(tU++(tU++(tU++(Zo++(Zo++(Ct++(Ct++([.bool false])))))))))
theorem Pd:Rv.map AV.v=aT fP:=by simp only[Rv,List.map_append,List.map_cons,List.map_nil,jN,jO,Rs,Bb];rfl
def XA:List Bool:=p9++([true]++(Fq++(Fq++(Fq++(p7++(p7++(Tr++(Tr++([false])))))))))
theorem Ts (a b:Block):gW XA (aT a) (aT b):=(eT (JF _ _) (eT (show gW [true] [_] [_] from ⟨rfl,trivial⟩) (eT (mO _ _) (eT (mO _ _) (eT (mO _ _) (eT (Lx _ _) (eT (Lx _ _) (eT (tL _ _) (eT (tL _ _) (show gW [false] [_] [_] from trivial))))))))))
theorem Zr (a b:Block):aT a=aT b↔a=b:=by
 refine⟨fun h=>?_,fun h=>by rw[h]⟩
 cases a;cases b
 simp only[aT] at h;obtain⟨h0,h⟩:=List.append_inj h (by simp)
 obtain⟨h1,h⟩:=List.append_inj h (by simp)
 obtain⟨h2,h⟩:=List.append_inj h (by simp)
 obtain⟨h3,h⟩:=List.append_inj h (by simp)
 obtain⟨h4,h⟩:=List.append_inj h (by simp)
 obtain⟨h5,h⟩:=List.append_inj h (by simp)
 obtain⟨h6,h⟩:=List.append_inj h (by simp)
 obtain⟨h7,h⟩:=List.append_inj h (by simp)
 obtain⟨h8,h⟩:=List.append_inj h (by simp)
 have e0:=(QA _ _).1 h0
 have e1:=(Di _ _).1 h1
 have e2:=(oP _ _).1 h2
 have e3:=(oP _ _).1 h3
 have e4:=(oP _ _).1 h4
 have e5:=(Rr _ _).1 h5
 have e6:=(Rr _ _).1 h6
 have e7:=(mY _ _).1 h7
 have e8:=(mY _ _).1 h8
 have e9:=(FW _ _).1 h
 subst e0 e1 e2 e3 e4 e5 e6 e7 e8 e9;rfl
theorem JH (s:Block):rd (aT s) 0 238=aT s:=jB (bO _)
theorem JI (s x:Block):dM (aT s) 0 (aT x) 238=aT x:=eE (bO _)
structure Node where
 block:Block
 up:Int
 status:Int
def fD (s:Node):List AV:=aT s.block++(qA s.up++(qA s.status))
@[simp] theorem vK (s:Node):(fD s).length=240:=by simp[fD]
theorem Lc (s:Node):∀x∈fD s,Flat x:=by
 intro x hx;simp only[fD,List.mem_append,List.mem_singleton] at hx;rcases hx with hx|hx|hx
 ·(exact Bm _ _ hx)
 ·(exact mK _ _ hx)
 ·(exact mK _ _ hx)
theorem CV (s:Node):rd (fD s) 0 238=aT s.block:=gI (bO _)
theorem CW (s:Node) (x:Block):dM (fD s) 0 (aT x) 238=fD { s with block:=x }:=cJ (bO _)
theorem Ia (s:Node):rd (fD s) 0 66=fK s.block.dQ:=(sT (by rw[bO];decide)).trans (Fs _)
theorem Dk (s:Node):rd (fD s) 0 33=bZ s.block.dQ.pj:=(sT (by rw[bO];decide)).trans (zZ _)
theorem wD (s:Node):(fD s)[0]? = some (.v (.int .u64 s.block.dQ.pj.aK)):=(eH (by rw[bO];decide)).trans (sF _)
theorem Dl (s:Node):rd (fD s) 33 33=bZ s.block.dQ.pf:=(sT (by rw[bO];decide)).trans (Aa _)
theorem wE (s:Node):(fD s)[33]? = some (.v (.int .u64 s.block.dQ.pf.aK)):=(eH (by rw[bO];decide)).trans (sG _)
theorem Jp (s:Node):(fD s)[66]? = some (.v (.int .u64 s.block.slot)):=(eH (by rw[bO];decide)).trans (Hy _)
theorem Ma (s:Node):rd (fD s) 67 32=aX s.block.root:=(sT (by rw[bO];decide)).trans (Kh _)
theorem Gd (s:Node):rd (fD s) 131 32=aX s.block.jL:=(sT (by rw[bO];decide)).trans (Dj _)
theorem Mb (s:Node):rd (fD s) 171 33=bZ s.block.gY:=(sT (by rw[bO];decide)).trans (Ki _)
theorem Pe (s:Node):rd (fD s) 204 33=bZ s.block.fin:=(sT (by rw[bO];decide)).trans (Pb _)
theorem QB (s:Node):(fD s)[238]? = some (.v (.int .i64 s.up)):=(aG rfl (bO _)).trans (rfl)
theorem XB (s:Node) (x:Int):dM (fD s) 238 ([.v (.int .i64 x)]) 239=fD { s with up:=x }:=(aC rfl rfl (bO _)).trans (bH (cJ (bE _)))
theorem Fm (s:Node):(fD s)[239]? = some (.v (.int .i64 s.status)):=(aG rfl (bO _)).trans ((aG rfl (bE _)).trans (rfl))
theorem Gv (s:Node) (x:Int):dM (fD s) 239 ([.v (.int .i64 x)]) 240=fD { s with status:=x }:=(aC rfl rfl (bO _)).trans (bH ((aC rfl rfl (bE _)).trans (bH (eE (bE _)))))
def r7:Node:=⟨fP,0,0⟩
def Zs:List Value:=Rv++([.int .i64 0]++([.int .i64 0]))
theorem JJ:Zs.map AV.v=fD r7:=by simp only[Zs,List.map_append,List.map_cons,List.map_nil,jN,jO,Pd];rfl
def aGr:List Bool:=XA++([true]++([true]))
theorem Wo (a b:Node):gW aGr (fD a) (fD b):=(eT (Ts _ _) (eT (show gW [true] [_] [_] from ⟨rfl,trivial⟩) (show gW [true] [_] [_] from ⟨rfl,trivial⟩)))
theorem J1 (a b:Node):fD a=fD b↔a=b:=by
 refine⟨fun h=>?_,fun h=>by rw[h]⟩
 cases a;cases b
 simp only[fD] at h;obtain⟨h0,h⟩:=List.append_inj h (by simp)
 obtain⟨h1,h⟩:=List.append_inj h (by simp)
 have e0:=(Zr _ _).1 h0
 have e1:=(uO _ _).1 h1
 have e2:=(uO _ _).1 h
 subst e0 e1 e2;rfl
theorem QC (s:Node):rd (fD s) 0 240=fD s:=jB (vK _)
theorem QD (s x:Node):dM (fD s) 0 (fD x) 240=fD x:=eE (vK _)
def cF (l:List Node):List AV:=l.flatMap fD
@[simp] theorem Lf (l:List (Node)):(cF l).length=l.length * 240:=by
 induction l with
 | nil=>rfl
 | cons x l ih=>simp only[cF,List.flatMap_cons,List.length_append,vK,List.length_cons] at *;omega
theorem kH (l:List (Node)):∀x∈cF l,Flat x:=by
 intro x hx;obtain⟨y,_,hy⟩:=List.mem_flatMap.1 hx
 exact Lc y x hy
theorem J2 (l:List (Node)) (i:Nat) (h:i<l.length):rd (cF l) (i * 240) 240=fD l[i]:=Lv fD 240 (vK) l i h
structure Tree where
 nodes:List Node
def cU (s:Tree):List AV:=[.sl s.nodes.length (cF s.nodes)]
@[simp] theorem Rw (s:Tree):(cU s).length=1:=by simp[cU]
theorem XC (s:Tree):∀x∈cU s,Flat x:=by
 intro x hx;simp only[cU,List.mem_append,List.mem_singleton] at hx;(subst hx;exact .sl _ _ (kH _))
theorem Zt (s:Tree):(cU s)[0]? = some (.sl s.nodes.length (cF s.nodes)):=rfl
theorem QE (s:Tree):rd (cU s) 0 1=cU s:=jB (Rw _)
theorem QF (s x:Tree):dM (cU s) 0 (cU x) 1=cU x:=eE (Rw _)
end Go.Ab
end
section
namespace Go.Ab
open Classical
def yF (e sz by_:Nat) (v:Option (Nat × List AV)):Option (Option (Nat × Nat) × jI) :=
 match v with
 | some (m,news)=>if news.length=m * sz∧m * by_≤140737488355328∧m≤maxLen then some (none,.row e sz m news) else none
 | none=>none
def xT (e sz by_:Nat) (o:Option jI) (s g:Nat) (v:Option (Nat × List AV)):Option (Option (Nat × Nat) × jI) :=
 match o,v with
 | some (.row e' sL n cs),some (m,news)=>if news.length=m * sz∧e'=e∧sL=sz∧(n+m) * by_≤140737488355328∧n+m≤maxLen then some (some (s,g),.row e sz (n+m) (cs++news)) else none
 | _,_=>none
def acE (e sz by_ n:Nat) (cs:List AV) (v:Option (Nat × List AV)):Option (Option (Nat × Nat) × jI) :=
 match v with
 | some (m,news)=>if news.length=m * sz∧cs.length=n * sz∧(n=0∨0<m)∧(n+m) * by_≤140737488355328∧n+m≤maxLen then some (none,.row e sz (n+m) (cs++news)) else none
 | none=>none
section
variable {P:Program} {st:St} {T e sz by_:Nat}
theorem uQ (hs:dN P T=some (e,sz,by_)) (x:AV):dC P st T (.v (.slice none 0 0)) x=yF e sz by_ (aQ st x):=by
 simp only[dC,hs,yF];cases aQ st x with
 | none=>rfl
 | some v =>
   obtain⟨m,news⟩:=v
   by_cases h1:news.length=m * sz<;>simp[h1]
theorem tA (hs:dN P T=some (e,sz,by_)) (s g:Nat) (x:AV):dC P st T (.own s g) x=xT e sz by_ (st.heap s g) s g (aQ st x):=by
 simp only[dC,hs,xT];cases aQ st x with
 | none=>cases st.heap s g with
   | none=>rfl
   | some o=>cases o<;>rfl
 | some v =>
   obtain⟨m,news⟩:=v
   cases st.heap s g with
   | none=>by_cases h1:news.length=m * sz<;>simp[h1]
   | some o =>
     cases o with
     | row a b n cs=>by_cases h1:news.length=m * sz<;>simp[h1]
     | _=>by_cases h1:news.length=m * sz<;>simp[h1]
theorem aIf (hs:dN P T=some (e,sz,by_)) (n:Nat) (cs:List AV) (x:AV):dC P st T (.cl n cs) x=acE e sz by_ n cs (aQ st x):=by
 simp only[dC,hs,acE];cases aQ st x with
 | none=>rfl
 | some v =>
   obtain⟨m,news⟩:=v
   by_cases h1:news.length=m * sz<;>simp[h1]
end
def QG (e sz:Nat) (o:Option jI) (s g:Nat) (i:Int):Option AV :=
 match o with
 | some (.row e' sL n _)=>if 0≤i∧i<n∧e'=e∧sL=sz then some (.ptr s g (i.toNat * sz)) else none
 | _=>none
theorem Pf {P:Program} {st:St} {T e sz by_:Nat} (hn:jJ P T=none) (hs:dN P T=some (e,sz,by_)) (s g:Nat) (k:IntKind) (i:Int):bD P st T (.own s g) (.v (.int k i))=QG e sz (st.heap s g) s g i:=by
 simp only[bD,hn,hs,QG];cases st.heap s g with
 | none=>rfl
 | some e=>cases e<;>rfl
theorem aEn (e sz n:Nat) (cs:List AV) (s g:Nat) (i:Int) (h0:0≤i) (h1:i<n):QG e sz (some (.row e sz n cs)) s g i=some (.ptr s g (i.toNat * sz)):=by
 simp[QG,h0,h1]
theorem Rx [Ext] {P:Program} {S e sz by_:Nat} {z:List Value} (hs:dN P S=some (e,sz,by_)) (hz:dX P e=some z) {call:Nat→List AV→Option AV} {ops:Array Oper} {st:St} {T:Nat} {pos:String} {eM:Array Edge} (d:Nat) :
 cE P call ops ⟨some d,.buildSlice S 0 #[],T,pos,eM,none⟩ st=some ((st.new d (.row e sz 0 [])).put (some d) (.own d (st.aO d))):=by
 rw[lB,hs];simp[cC,hz,gN]
def elV {α:Type} (x:AV) (k:Value→Option α) (fb:Option α):Option α :=
 match x with
 | .v y=>if y.oneCell'=true then k y else fb
 | _=>fb
theorem aEp {α:Type} (kk:IntKind) (n:Int) (k:Value→Option α) (fb:Option α):elV (.v (.int kk n)) k fb=k (.int kk n):=rfl
theorem aBl {α:Type} (n:Bool) (k:Value→Option α) (fb:Option α):elV (.v (.bool n)) k fb=k (.bool n):=rfl
@[congr] theorem aKr {α:Type} {x y:AV} {k:Value→Option α} {fb:Option α} (h:x=y):elV x k fb=elV y k fb:=by rw[h]
theorem JK [Ext] {P:Program} {S e by_:Nat} {z:Value} (hs:dN P S=some (e,1,by_)) (hz:dX P e=some [z]) {call:Nat→List AV→Option AV} {ops:Array Oper} {st:St} {T:Nat} {pos:String} {eM:Array Edge} (d:Nat) (x:Operand) :
 cE P call ops ⟨some d,.buildSlice S 1 #[(0,x)],T,pos,eM,none⟩ st=elV (st.ev x) (fun y=>some ((st.new d (.row e 1 1 [.v y])).put (some d) (.own d (st.aO d)))) (cE P call ops ⟨some d,.buildSlice S 1 #[(0,x)],T,pos,eM,none⟩ st):=by
 unfold elV;split
 ·rename_i y h;split
  ·rename_i hy;rw[lB,hs];simp[hz,cC,h,AV.jR,hy,gN,AV.cells]
  ·rfl
 ·rfl
def O1 {α:Type} (z:Nat) (x:AV) (k:List AV→Option α) (fb:Option α):Option α :=
 match x with
 | .agg cs=>if cs.length=z then k cs else fb
 | _=>fb
theorem aEq {α:Type} (z:Nat) (cs:List AV) (k:List AV→Option α) (fb:Option α) (h:cs.length=z):O1 z (.agg cs) k fb=k cs:=if_pos h
@[congr] theorem aKs {α:Type} {z:Nat} {x y:AV} {k:List AV→Option α} {fb:Option α} (h:x=y):O1 z x k fb=O1 z y k fb:=by rw[h]
theorem Fg [Ext] {P:Program} {S e sz by_:Nat} {z:List Value} (hs:dN P S=some (e,sz,by_)) (hz:dX P e=some z) (hl:z.length=sz) (hm:sz≤2 ^ 24) {call:Nat→List AV→Option AV} {ops:Array Oper} {st:St} {T:Nat} {pos:String} {eM:Array Edge} (d:Nat) (x:Operand) :
 cE P call ops ⟨some d,.buildSlice S 1 #[(0,x)],T,pos,eM,none⟩ st=O1 sz (st.ev x) (fun cs=>some ((st.new d (.row e sz 1 cs)).put (some d) (.own d (st.aO d)))) (cE P call ops ⟨some d,.buildSlice S 1 #[(0,x)],T,pos,eM,none⟩ st):=by
 unfold O1;split
 ·rename_i cs h;split
  ·rename_i hc;have h2:((List.range 1).flatMap fun _=>z.map AV.v)=z.map AV.v:=by simp[List.range,List.range.loop]
   have hzl:(z.map AV.v).length=sz:=by simpa using hl
   rw[lB,hs];simp only[hz,cC,List.toList_toArray,List.all_cons,List.all_nil,h,AV.jR,Bool.and_self,List.map_cons,List.map_nil,gN,AV.cells,hc,Nat.zero_mul,Nat.zero_add,List.take_zero,List.nil_append];rw[h2,if_pos (by simpa using hm),if_pos (by simp[hzl])]
   rw[List.drop_of_length_le (by rw[hzl];exact Nat.le_refl _),List.append_nil]
  ·rfl
 ·rfl
theorem Iv {e sz by_ s g n:Nat} {cs:List AV} (hl:cs.length=n * sz) (hb:(n:Int) * by_≤140737488355328) (hm:(n:Int)≤maxLen):xT e sz by_ (some (.row e sz 0 [])) s g (some (n,cs))=some (some (s,g),.row e sz n cs):=by
 simp only[xT];simp only[Nat.zero_add,true_and,List.nil_append];have nX:n * by_≤140737488355328:=by
  have:((n * by_:Nat):Int)≤140737488355328:=by rw[Int.natCast_mul];exact hb
  omega
 rw[if_pos ⟨hl,nX,by omega⟩]
end Go.Ab
end
section
namespace Go.Ab
open Classical
variable [Ext]
@[congr] theorem aKt {P:Program} {bi:Bool} {c:Code} {s t:St} (h:s=t):wL P bi c s=wL P bi c t:=by rw[h]
theorem J3 {P:Program} {bi:Bool} (c:Operand) (a b:Code) (st:St):wL P bi (.cond c a b) st=onB (st.ev c) fun t=>if t=true then wL P bi a st else wL P bi b st:=by
 cases h:st.ev c with
 | v x =>
   cases x with
   | bool t=>exact Yj P c a b st h
   | _ =>
     apply Option.ext
     intro r;rw[gM];constructor
     ·rintro⟨n,m,h'⟩
      cases m with
      | zero=>simp[uV] at h'
      | succ m=>simp[uV,h] at h'
     ·intro h';simp[onB] at h'
 | _ =>
   apply Option.ext
   intro r;rw[gM];constructor
   ·rintro⟨n,m,h'⟩
    cases m with
    | zero=>simp[uV] at h'
    | succ m=>simp[uV,h] at h'
   ·intro h';simp[onB] at h'
section
variable {P:Program} {call:Nat→List AV→Option AV} {inl:Nat→List AV→St→Option (AV × St)} {ops:Array Oper} {st:St}
theorem XD:lO P true call inl ops [] st=some st:=rfl
theorem QH (o:Oper) (l:List Oper):lO P true call inl ops (o :: l) st=cC (gJ P true call inl ops o st) (lO P true call inl ops l):=rfl
@[congr] theorem aGs {o:Oper} {s t:St} (h:s=t):gJ P true call inl ops o s=gJ P true call inl ops o t:=by rw[h]
theorem aBm {o:Oper} (h:Cj o=none):gJ P true call inl ops o st=cE P call ops o st:=by
 unfold gJ;rw[if_pos rfl,h]
theorem J4 {d:Option Nat} {g:Nat} {args:Array Operand} {tJ:Array Nat} {T:Nat} {pos:String} {eM:Array Edge} (h:Ext.inl g d=true) :
 gJ P true call inl ops ⟨d,.call ⟨.value (.func g),args,tJ⟩,T,pos,eM,none⟩ st=cC (inl g (args.toList.map st.ev) st) fun r=>some ((st.back r.2).put d r.1):=by
 have e:Cj ⟨d,.call ⟨.value (.func g),args,tJ⟩,T,pos,eM,none⟩=some (g,args.toList):=by
  unfold Cj;simp only
  rw[if_pos h]
 unfold gJ;rw[if_pos rfl,e];simp only[gv,if_true];cases inl g (args.toList.map st.ev) st<;>rfl
end
theorem fI (st s:St):(st.back s).env=st.env:=rfl
theorem dK (st s:St):(st.back s).heap=s.heap:=rfl
theorem cD (st s:St):(st.back s).aO=s.aO:=rfl
theorem Xn {P:Program} {fn:Func} {st:St} {e:Ex} {r:ResultVar} {x:AV} (he:e=.ret∨e=.normal) (hr:fn.results.toList=[r]) (h1:iI P st r=some x):aH6 P fn (e,st)=some (x,st):=by
 have h:sW P fn st=some x:=by
  unfold sW;rw[hr];exact h1
 rcases he with rfl|rfl<;>simp only[aH6,h,Option.map_some]
theorem XE {P:Program} {bi:Bool} {b:Code} (Inv:Nat→St→Prop) (Q:Ex→St→Prop)
 (step:∀n st,Inv n st→∃e st',wL P bi b st=some (e,st')∧((e=.normal∧∃m,m<n∧Inv m st')∨(e≠.normal∧Q e st'))):∀n st,Inv n st→∃e st',wL P bi (.loop b) st=some (e,st')∧e≠.normal∧Q e st':=by
 intro n;induction n using Nat.strongRecOn with
 | _ n ih =>
   intro st h;obtain⟨e,s1,h1,h2⟩:=step n st h
   rw[Yk,h1];rcases h2 with ⟨rfl,m,hm,hi⟩|⟨gT,hq⟩
   ·exact ih m hm s1 hi
   ·refine⟨e,s1, ?_,gT,hq⟩
    cases e with
    | normal=>exact absurd rfl gT
    | _=>rfl
theorem mH {P:Program} {bi:Bool} {b:Code} {st:St} {β:Type} {k:Ex × St→Option β} {R:β→Prop} (Inv:Nat→St→Prop) (Q:Ex→St→Prop) (n:Nat)
 (step:∀n st,Inv n st→∃e st',wL P bi b st=some (e,st')∧((e=.normal∧∃m,m<n∧Inv m st')∨(e≠.normal∧Q e st')))
 (start:Inv n st) (rest:∀e st',Q e st'→∃r,k (e,st')=some r∧R r):∃r,cC (wL P bi (.loop b) st) k=some r∧R r:=by
 obtain⟨e,s1,h1,h2,h3⟩:=XE Inv Q step n st start
 rw[h1];exact rest e s1 h3
theorem aIg {P:Program} {bi:Bool} {b:Code} {st st':St} {n:Nat} {Inv:Nat→St→Prop} {Q:Ex→St→Prop} (h:wL P bi b st=some (.normal,st')) (m:Nat) (hm:m<n) (hi:Inv m st') :
 ∃e st',wL P bi b st=some (e,st')∧((e=.normal∧∃m,m<n∧Inv m st')∨(e≠.normal∧Q e st')):=⟨_,_,h,.inl ⟨rfl,m,hm,hi⟩⟩
theorem aEr {P:Program} {bi:Bool} {b:Code} {st st':St} {e:Ex} {n:Nat} {Inv:Nat→St→Prop} {Q:Ex→St→Prop} (h:wL P bi b st=some (e,st')) (he:e≠.normal) (hq:Q e st') :
 ∃e st',wL P bi b st=some (e,st')∧((e=.normal∧∃m,m<n∧Inv m st')∨(e≠.normal∧Q e st')):=⟨_,_,h,.inr ⟨he,hq⟩⟩
theorem QI {P:Program} {id:Nat} {ops:Array Oper} {d:Bool} {st:St} {l:List (Nat × Nat)} (h:Ext.dyn id ops.size (pN ops)=l) :
 wL P true (.region id ops d) st=cC (lO P true (aD P) (wY P) ops ops.toList st) fun s=>if oY ops s l then some (.normal,s) else none:=by
 rw[Lq];congr 1
 funext s
 rw[h];by_cases hf:oY ops s l
 ·rw[if_pos hf,if_neg];rintro⟨_,hn⟩
  exact hn hf
 ·rw[if_neg hf,if_pos ⟨rfl,hf⟩]
theorem J5 (ops:Array Oper) (s:St):oY ops s []=True:=rfl
theorem XF (ops:Array Oper) (s:St) (p:Nat × Nat) (l:List (Nat × Nat)):oY ops s (p :: l)=(Kv ops s p∧oY ops s l):=rfl
def QJ (s:St) (x y:Option (List Nat)):Prop:=match x,y with|some aS,some bs=>Ku s aS bs|_,_=>False
theorem J6 (ops:Array Oper) (s:St) (i j:Nat):Kv ops s (i,j)=QJ s ((ops[i]?).bind gK) ((ops[j]?).bind gK):=rfl
theorem aBn (s:St) (a b:Nat):QJ s (some [a]) (some [b])=fF (s.env a) (s.env b):=by simp[QJ,Ku]
theorem aBo (s:St) (a a' b:Nat):QJ s (some [a,a']) (some [b])=(fF (s.env a) (s.env b)∧fF (s.env a') (s.env b)):=by simp[QJ,Ku]
@[congr] theorem aBp {x y x' y':AV} (h:x=x') (h':y=y'):fF x y=fF x' y':=by rw[h,h']
theorem QK (s g o s' g' o':Nat):fF (.ptr s g o) (.ptr s' g' o')=((s,g)≠(s',g')):=rfl
theorem QL (s g o s' g':Nat):fF (.ptr s g o) (.own s' g')=((s,g)≠(s',g')):=rfl
theorem QM (s g s' g' o':Nat):fF (.own s g) (.ptr s' g' o')=((s,g)≠(s',g')):=rfl
theorem QN (x:Value) (s g o:Nat):fF (.v x) (.ptr s g o)=True:=rfl
theorem QO (x:Value) (s g o:Nat):fF (.ptr s g o) (.v x)=True:=rfl
theorem QP (s g n:Nat) (cs:List AV):fF (.own s g) (.sl n cs)=True:=rfl
theorem QQ (s g n:Nat) (cs:List AV):fF (.sl n cs) (.own s g)=True:=rfl
theorem QR (s g o n:Nat) (cs:List AV):fF (.sl n cs) (.ptr s g o)=True:=rfl
theorem QT (s g o n:Nat) (cs:List AV):fF (.ptr s g o) (.sl n cs)=True:=rfl
theorem QU (n m:Nat) (cs ds:List AV):fF (.sl n cs) (.sl m ds)=True:=rfl
theorem QV (s g:Nat) (x:Value):fF (.own s g) (.v x)=True:=rfl
theorem QW (s g:Nat) (x:Value):fF (.v x) (.own s g)=True:=rfl
theorem QX (x:Value) (n:Nat) (cs:List AV):fF (.v x) (.sl n cs)=True:=rfl
theorem QY (x:Value) (n:Nat) (cs:List AV):fF (.sl n cs) (.v x)=True:=rfl
def aBq (x y:AV):Option AV :=
 match x,y with
 | .v (.int k a),.v (.int _ b)=>some (.v (.int k (if b<a then b else a)))
 | _,_=>none
def aBr (x y:AV):Option AV :=
 match x,y with
 | .v (.int k a),.v (.int _ b)=>some (.v (.int k (if b > a then b else a)))
 | _,_=>none
theorem aBs (k k':IntKind) (a b:Int):aBq (.v (.int k a)) (.v (.int k' b))=some (.v (.int k (if b<a then b else a))):=rfl
theorem aBt (k k':IntKind) (a b:Int):aBr (.v (.int k a)) (.v (.int k' b))=some (.v (.int k (if a<b then b else a))):=rfl
@[congr] theorem aIh {x y x' y':AV} (h:x=x') (h':y=y'):aBq x y=aBq x' y':=by rw[h,h']
@[congr] theorem aIi {x y x' y':AV} (h:x=x') (h':y=y'):aBr x y=aBr x' y':=by rw[h,h']
theorem aIj {P:Program} {call:Nat→List AV→Option AV} {ops:Array Oper} {st:St} {d:Option Nat} {T:Nat} {pos:String} {eM:Array Edge} (x y:Operand) (tJ:Array Nat) :
 cE P call ops ⟨d,.call ⟨.builtin .min,#[x,y],tJ⟩,T,pos,eM,none⟩ st=cC (aBq (st.ev x) (st.ev y)) fun v=>some (st.put d v):=by
 rw[dR];simp only[cZ,gP,aBq];cases st.ev x with
 | v a=>cases a with
   | int k a=>cases st.ev y with
     | v b=>cases b<;>rfl
     | _=>rfl
   | _=>rfl
 | _=>rfl
theorem aIk {P:Program} {call:Nat→List AV→Option AV} {ops:Array Oper} {st:St} {d:Option Nat} {T:Nat} {pos:String} {eM:Array Edge} (x y:Operand) (tJ:Array Nat) :
 cE P call ops ⟨d,.call ⟨.builtin .max,#[x,y],tJ⟩,T,pos,eM,none⟩ st=cC (aBr (st.ev x) (st.ev y)) fun v=>some (st.put d v):=by
 rw[dR];simp only[cZ,gP,aBr];cases st.ev x with
 | v a=>cases a with
   | int k a=>cases st.ev y with
     | v b=>cases b<;>rfl
     | _=>rfl
   | _=>rfl
 | _=>rfl
noncomputable def mvE (call:Nat→List AV→Option AV) (g:Nat) (rest:List AV) (s k d c:Nat) (o:Option jI):Option mT :=
 match o with
 | some (.row e sz n cs) =>
   if (∀c∈cs,Flat c)∧∀x∈rest,Flat x then
    match call g (.uniq e sz n cs :: rest) with
    | some (.uniq e' sL n' Ar)=>some { dst:=some d,val:=.own d c,dM:=some (s,k,none),new:=some (d,[.row e' sL n' Ar])}
    | some (.dZ [.uniq e' sL n' Ar])=>some { dst:=some d,val:=.dZ [],dM:=some (s,k,some (.row e' sL n' Ar))}
    | _=>none
   else none
 | _=>none
theorem XG (call:Nat→List AV→Option AV) (g s k d:Nat) (rest:List AV) (st:St):jV call g (.own s k :: rest) st (some d)=mvE call g rest s k d (st.aO d) (st.heap s k):=by
 unfold jV mvE;simp only
 cases st.heap s k with
 | none=>rfl
 | some o =>
   cases o with
   | row e sz n cs =>
     simp only
     by_cases hc:(∀c∈cs,Flat c)∧∀x∈rest,Flat x
     ·simp only[if_pos hc];cases call g (.uniq e sz n cs :: rest) with
      | none=>rfl
      | some r =>
        cases r with
        | dZ vs =>
          cases vs with
          | nil=>rfl
          | cons x xs =>
            cases x with
            | uniq _ _ _ _=>cases xs<;>rfl
            | _=>rfl
        | _=>rfl
     ·simp only[if_neg hc]
   | _=>rfl
theorem NC {call:Nat→List AV→Option AV} {g:Nat} {rest:List AV} {s k d c e sz n e' sL n':Nat} {cs Ar:List AV} (hf:∀c∈cs,Flat c) (hr:∀x∈rest,Flat x) (hc:call g (.uniq e sz n cs :: rest)=some (.uniq e' sL n' Ar)) :
 mvE call g rest s k d c (some (.row e sz n cs))=some { dst:=some d,val:=.own d c,dM:=some (s,k,none),new:=some (d,[.row e' sL n' Ar])}:=by
 unfold mvE;simp only
 rw[if_pos ⟨hf,hr⟩,hc]
@[congr] theorem aKu {call:Nat→List AV→Option AV} {g:Nat} {rest:List AV} {s k d c c':Nat} {o o':Option jI} (h:c=c') (h':o=o'):mvE call g rest s k d c o=mvE call g rest s k d c' o':=by rw[h,h']
theorem UP {call:Nat→List AV→Option AV} {g d:Nat} {rest:List AV} {st:St} {e sz n:Nat} {cs:List AV} (hr:∀x∈rest,Flat x) (hc:call g (.v (.slice none 0 0) :: rest)=some (.uniq e sz n cs)) :
 jV call g (.v (.slice none 0 0) :: rest) st (some d)=some { dst:=some d,val:=.own d (st.aO d),new:=some (d,[.row e sz n cs])}:=by
 have hf:∀x∈AV.v (.slice none 0 0) :: rest,Flat x:=by
  intro x hx;rcases List.mem_cons.1 hx with rfl|hx
  ·exact .v _
  ·exact hr x hx
 have hnf:¬Flat (.uniq e sz n cs):=by intro h;cases h
 unfold jV;simp only[if_pos hf];unfold aN;rw[if_pos hf,hc];simp only[cC];unfold iM;rw[if_neg hnf];rfl
theorem NB {P:Program} {fn:Func} {st:St} {e:Ex} {r:ResultVar} {s g ee sz n:Nat} {cs:List AV} (he:e=.ret∨e=.normal) (hr:fn.results.toList=[r]) (h1:iI P st r=some (.own s g)) (h2:st.heap s g=some (.row ee sz n cs)) (hm:∀c∈cs,fJ c) :
 E0 P fn (e,st)=some (.uniq ee sz n cs):=by
 have h:wJ P fn st=some (.uniq ee sz n cs):=by
  unfold wJ;rw[hr];simp only[h1,h2];rw[if_pos hm]
 rcases he with rfl|rfl<;>exact h
theorem aDq {P:Program} {fn:Func} {st:St} {e:Ex} {r:ResultVar} {s g ee sz n k:Nat} {cs:List AV} (he:e=.ret∨e=.normal) (hr:fn.results.toList=[r]) (h1:iI P st r=some (.vw s g 0 k)) (h2:st.heap s g=some (.row ee sz n cs)) (hk:k≤n) (hl:cs.length=n * sz) (hm:∀c∈cs,fJ c) :
 E0 P fn (e,st)=some (.uniq ee sz k (cs.take (k * sz))):=by
 have h:wJ P fn st=some (.uniq ee sz k (cs.take (k * sz))):=by
  unfold wJ;rw[hr];simp only[h1,h2];rw[if_pos ⟨hk,hl,hm⟩]
 rcases he with rfl|rfl<;>exact h
theorem jC (e sz n:Nat) (cs rest:List AV):(St.oB e sz n cs rest).env 0=.own 0 0:=rfl
theorem mI (e sz n:Nat) (cs rest:List AV) (t:Nat):(St.oB e sz n cs rest).env (t+1)=(rest[t]?).getD (.v undef):=rfl
theorem jD (e sz n:Nat) (cs rest:List AV):(St.oB e sz n cs rest).heap 0 0=some (.row e sz n cs):=rfl
theorem kX (e sz n:Nat) (cs rest:List AV):(St.oB e sz n cs rest).aO 0=1:=rfl
theorem mJ (e sz n:Nat) (cs rest:List AV) (s:Nat) (h:s≠0):(St.oB e sz n cs rest).aO s=0:=if_neg h
end Go.Ab
end
section
namespace Go.Ab
open Classical
variable [Ext]
theorem Nx {P:Program} {a:Code} {st:St} {β:Type} {k:Ex × St→Option β} {R:β→Prop} (Q:Ex→St→Prop) (h:∃e st',zF P a st=some (e,st')∧Q e st')
 (rest:∀e st',Q e st'→∃r,k (e,st')=some r∧R r):∃r,cC (zF P a st) k=some r∧R r:=by
 obtain⟨e,s1,h1,h2⟩:=h
 rw[h1];exact rest e s1 h2
theorem Jc {P:Program} {bi:Bool} {a:Code} {st:St} {β:Type} {k:Ex × St→Option β} {R:β→Prop} (Q:Ex→St→Prop) (h:∃e st',wL P bi a st=some (e,st')∧Q e st')
 (rest:∀e st',Q e st'→∃r,k (e,st')=some r∧R r):∃r,cC (wL P bi a st) k=some r∧R r:=by
 obtain⟨e,s1,h1,h2⟩:=h
 rw[h1];exact rest e s1 h2
theorem kN {β:Type} {x:Option β} {v:β} (h:∃r,x=some r∧r=v):x=some v:=by
 obtain⟨r,h,rfl⟩:=h;exact h
theorem QZ {P:Program} {id:Nat} {ops:Array Oper} {d:Bool} {st:St} :
 wL P true (.region id ops d) st=cC (lO P true (aD P) (wY P) ops ops.toList st) fun s=>if oY ops s (Ext.dyn id ops.size (pN ops)) then some (.normal,s) else none:=QI rfl
theorem XH (o:Oper) (l:List Oper):pN (o :: l).toArray=o.dst:=by simp[pN]
section
variable {P:Program} {call:Nat→List AV→Option AV} {inl:Nat→List AV→St→Option (AV × St)} {ops:Array Oper} {st:St} {d:Option Nat} {T:Nat} {pos:String} {eM:Array Edge} {g:Option (Nat × Bool)}
theorem aEs (x:Operand):gJ P true call inl ops ⟨d,.move x,T,pos,eM,g⟩ st=cE P call ops ⟨d,.move x,T,pos,eM,g⟩ st:=rfl
theorem J7 (x:Operand):gJ P true call inl ops ⟨d,.assign x,T,pos,eM,g⟩ st=cE P call ops ⟨d,.assign x,T,pos,eM,g⟩ st:=rfl
theorem aEt (x y z:Operand):gJ P true call inl ops ⟨d,.pick x y z,T,pos,eM,g⟩ st=cE P call ops ⟨d,.pick x y z,T,pos,eM,g⟩ st:=rfl
theorem aBu (S:Nat):gJ P true call inl ops ⟨d,.alloc S,T,pos,eM,g⟩ st=cE P call ops ⟨d,.alloc S,T,pos,eM,g⟩ st:=rfl
theorem aIl (S:Nat) (x:Operand):gJ P true call inl ops ⟨d,.box S x,T,pos,eM,g⟩ st=cE P call ops ⟨d,.box S x,T,pos,eM,g⟩ st:=rfl
theorem aBv (S:Nat) (x:Array (Nat × Operand)):gJ P true call inl ops ⟨d,.build S x,T,pos,eM,g⟩ st=cE P call ops ⟨d,.build S x,T,pos,eM,g⟩ st:=rfl
theorem CX (S n:Nat) (x:Array (Nat × Operand)):gJ P true call inl ops ⟨d,.buildSlice S n x,T,pos,eM,g⟩ st=cE P call ops ⟨d,.buildSlice S n x,T,pos,eM,g⟩ st:=rfl
theorem JL (S:Nat) (x y:Operand):gJ P true call inl ops ⟨d,.makeSlice S x y,T,pos,eM,g⟩ st=cE P call ops ⟨d,.makeSlice S x y,T,pos,eM,g⟩ st:=rfl
theorem RA (f:Fn) (x y:Array Operand):gJ P true call inl ops ⟨d,.makeFunc f x y,T,pos,eM,g⟩ st=cE P call ops ⟨d,.makeFunc f x y,T,pos,eM,g⟩ st:=rfl
theorem aEu (S:Nat) (x:Operand):gJ P true call inl ops ⟨d,.load S x,T,pos,eM,g⟩ st=cE P call ops ⟨d,.load S x,T,pos,eM,g⟩ st:=rfl
theorem aBw (S:Nat) (x y:Operand):gJ P true call inl ops ⟨d,.store S x y,T,pos,eM,g⟩ st=cE P call ops ⟨d,.store S x y,T,pos,eM,g⟩ st:=rfl
theorem aBx (o:BinOp) (S S':Nat) (x y:Operand):gJ P true call inl ops ⟨d,.binOp o S x y S',T,pos,eM,g⟩ st=cE P call ops ⟨d,.binOp o S x y S',T,pos,eM,g⟩ st:=rfl
theorem aEv (o:UnOp) (S:Nat) (x:Operand):gJ P true call inl ops ⟨d,.unOp o S x,T,pos,eM,g⟩ st=cE P call ops ⟨d,.unOp o S x,T,pos,eM,g⟩ st:=rfl
theorem JM (S f:Nat) (x:Operand):gJ P true call inl ops ⟨d,.fieldAddr S x f,T,pos,eM,g⟩ st=cE P call ops ⟨d,.fieldAddr S x f,T,pos,eM,g⟩ st:=rfl
theorem aBy (S f:Nat) (x:Operand):gJ P true call inl ops ⟨d,.field S x f,T,pos,eM,g⟩ st=cE P call ops ⟨d,.field S x f,T,pos,eM,g⟩ st:=rfl
theorem JN (S:Nat) (x y:Operand):gJ P true call inl ops ⟨d,.indexAddr S x y,T,pos,eM,g⟩ st=cE P call ops ⟨d,.indexAddr S x y,T,pos,eM,g⟩ st:=rfl
theorem XI (S S':Nat) (x:Operand):gJ P true call inl ops ⟨d,.convert S S' x,T,pos,eM,g⟩ st=cE P call ops ⟨d,.convert S S' x,T,pos,eM,g⟩ st:=rfl
theorem XJ (x:Operand) (i:Nat):gJ P true call inl ops ⟨d,.extract x i,T,pos,eM,g⟩ st=cE P call ops ⟨d,.extract x i,T,pos,eM,g⟩ st:=rfl
theorem aBz (S:Nat) (x:Operand) (a b c:Option Operand):gJ P true call inl ops ⟨d,.slice S x a b c,T,pos,eM,g⟩ st=cE P call ops ⟨d,.slice S x a b c,T,pos,eM,g⟩ st:=rfl
theorem XK (b:Builtin) (x:Array Operand) (y:Array Nat):gJ P true call inl ops ⟨d,.call ⟨.builtin b,x,y⟩,T,pos,eM,g⟩ st=cE P call ops ⟨d,.call ⟨.builtin b,x,y⟩,T,pos,eM,g⟩ st:=rfl
theorem aIm (t:Nat) (x:Array Operand) (y:Array Nat):gJ P true call inl ops ⟨d,.call ⟨.value (.tmp t),x,y⟩,T,pos,eM,g⟩ st=cE P call ops ⟨d,.call ⟨.value (.tmp t),x,y⟩,T,pos,eM,g⟩ st:=rfl
theorem aEw (f:Nat) (x:Array Operand) (y:Array Nat) (h:Ext.inl f d=false):gJ P true call inl ops ⟨d,.call ⟨.value (.func f),x,y⟩,T,pos,eM,g⟩ st=cE P call ops ⟨d,.call ⟨.value (.func f),x,y⟩,T,pos,eM,g⟩ st:=aBm (by unfold Cj;simp[h])
theorem UZ (f:Nat) (x:Array Operand) (y:Array Nat) (h:Ext.inl f d=true):gJ P true call inl ops ⟨d,.call ⟨.value (.func f),x,y⟩,T,pos,eM,none⟩ st=cC (inl f (x.toList.map st.ev) st) fun r=>some ((st.back r.2).put d r.1):=J4 h
theorem aEx (S a:Nat):gK ⟨d,.load S (.tmp a),T,pos,eM,none⟩=some [a]:=rfl
theorem aBA (S a:Nat) (x:Operand):gK ⟨d,.store S (.tmp a) x,T,pos,eM,none⟩=some [a]:=rfl
theorem aBB (S a:Nat) (x:Operand):gK ⟨d,.indexAddr S (.tmp a) x,T,pos,eM,none⟩=some [a]:=rfl
theorem aBC (S a:Nat) (x y z:Option Operand):gK ⟨d,.slice S (.tmp a) x y z,T,pos,eM,none⟩=some [a]:=rfl
theorem aIn (a:Nat) (y:Array Nat):gK ⟨d,.call ⟨.builtin .len,#[.tmp a],y⟩,T,pos,eM,none⟩=some [a]:=rfl
theorem J8 (a b:Nat) (y:Array Nat):gK ⟨d,.call ⟨.builtin .append,#[.tmp a,.tmp b],y⟩,T,pos,eM,none⟩=some [a,b]:=rfl
theorem aBD (f a:Nat) (b:Operand) (y:Array Nat) (h:Ext.mv f=true):gK ⟨d,.call ⟨.value (.func f),#[.tmp a,b],y⟩,T,pos,eM,none⟩=some [a]:=by simp[gK,h]
end
end Go.Ab
end
