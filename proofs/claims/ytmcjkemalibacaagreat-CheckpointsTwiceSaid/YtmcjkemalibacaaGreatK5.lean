/-
  Part 5 of the proof: an evaluator of programs, its soundness, and what functions of this program compute.
-/
import Derived.Test.YtmcjkemalibacaaGreatK4
set_option linter.all false
set_option maxRecDepth 20000
set_option maxHeartbeats 40000000
section
namespace Go.Ab
open Classical
variable [Ext]
def rd (cs:List AV) (o k:Nat):List AV:=(cs.drop o).take k
def onB {α:Type} (x:AV) (k:Bool→Option α):Option α :=
 match x with
 | .v (.bool b)=>k b
 | _=>none
section
variable (P:Program)
def fD (T:Nat) (cs:List AV) (o:Nat):Option AV :=
 match fS P T with
 | some (true,k)=>if 0<k∧k≤cs.length-o then some (.agg (rd cs o k)) else none
 | some (false,_)=>cs[o]?
 | none=>none
def Gz (st:St) (T:Nat) (x:AV):Option AV :=
 match x with
 | .ip cs o=>fD P T cs o
 | .ptr s g o =>
   match st.heap s g with
   | some (.cells cs)=>fD P T cs o
   | some (.row _ _ _ cs)=>fD P T cs o
   | _=>none
 | _=>none
theorem LB (T:Nat) (cs:List AV) (o:Nat):yQ P T (cs.drop o)=fD P T cs o:=by
 unfold yQ fD;cases fS P T with
 | none=>rfl
 | some bk =>
   obtain⟨b,k⟩:=bk
   cases b
   ·simp
   ·simp[rd]
theorem Rn (st:St) (T:Nat) (x:AV):cT (qO st x) (yQ P T)=Gz P st T x:=by
 cases x<;>simp only[qO,cT,Gz,LB]
 split<;>rename_i h
 ·split at h
  ·rename_i h';cases h;rw[h'];exact LB P T _ _
  ·rename_i h';cases h;rw[h'];exact LB P T _ _
  ·cases h
 ·split at h
  ·cases h
  ·cases h
  ·rename_i h1 h2;split<;>first|rfl|(rename_i h';first|exact absurd h' (h1 _)|exact absurd h' (h2 _ _ _ _))
def Yg (st:St) (T:Nat) (a x:AV):Option St:=(qA P st T a x).map fun u=>st.jC u.1 u.2.1 (some u.2.2)
variable {P}
variable {call:Nat→List AV→Option AV} {ops:Array Oper} {st:St} {d:Option Nat} {T:Nat} {pos:String} {eW:Array Edge}
@[congr] theorem aJD {α β:Type} {x y:Option α} {f:α→Option β} (h:x=y):cT x f=cT y f:=by rw[h]
@[congr] theorem aJE {α:Type} {x y:AV} {k:Bool→Option α} (h:x=y):onB x k=onB y k:=by rw[h]
@[congr] theorem aFV {l:List Oper} {s t:St} (h:s=t):Pg P call ops l s=Pg P call ops l t:=by rw[h]
@[congr] theorem aHt {o:Oper} {s t:St} (h:s=t):cH P call ops o s=cH P call ops o t:=by rw[h]
@[congr] theorem aJF {c:Code} {s t:St} (h:s=t):Aa P c s=Aa P c t:=by rw[h]
theorem cF {α β:Type} (a:α) (f:α→Option β):cT (some a) f=f a:=rfl
theorem Ak {α β:Type} (f:α→Option β):cT none f=none:=rfl
theorem Ep {α:Type} (b:Bool) (k:Bool→Option α):onB (.v (.bool b)) k=k b:=rfl
theorem zN:Pg P call ops [] st=some st:=rfl
theorem wC (o:Oper) (l:List Oper):Pg P call ops (o :: l) st=cT (cH P call ops o st) (Pg P call ops l):=rfl
theorem eD (op:Op):cH P call ops ⟨d,op,T,pos,eW,none⟩ st=(dP P call ⟨d,op,T,pos,eW,none⟩ st).map fun e=>e.apply st:=rfl
theorem Kx (x:Operand):cH P call ops ⟨d,.move x,T,pos,eW,none⟩ st=some (st.put d (st.ev x)):=rfl
theorem zO (x:Operand):cH P call ops ⟨d,.assign x,T,pos,eW,none⟩ st=some (st.put d (st.ev x)):=rfl
theorem Ky (c a b:Operand):cH P call ops ⟨d,.pick c a b,T,pos,eW,none⟩ st=onB (st.ev c) fun t=>some (st.put d (if t=true then st.ev a else st.ev b)):=by
 rw[eD];simp only[dP,iX];cases st.ev c<;>try rfl
 rename_i x;cases x<;>rfl
theorem Er (op:BinOp) (S:Nat) (x y:Operand) (yT:Nat):cH P call ops ⟨d,.binOp op S x y yT,T,pos,eW,none⟩ st=cT (gM P op S (st.ev x) (st.ev y)) fun v=>some (st.put d v):=by
 rw[eD];simp only[dP,iX];cases gM P op S (st.ev x) (st.ev y)<;>rfl
theorem aDG (op:UnOp) (S:Nat) (x:Operand):cH P call ops ⟨d,.unOp op S x,T,pos,eW,none⟩ st=cT (unA op (st.ev x)) fun v=>some (st.put d v):=by
 rw[eD];simp only[dP,iX];cases unA op (st.ev x)<;>rfl
def Mq (P:Program) (src dst:Nat) (x:AV):Option AV :=
 match x,intKind P dst,intKind P src with
 | .v (.int _ n),some k,some _=>some (.v (.int k (k.wrap n)))
 | _,_,_=>none
theorem wD (src dst:Nat) (x:Operand):cH P call ops ⟨d,.convert src dst x,T,pos,eW,none⟩ st=cT (Mq P src dst (st.ev x)) fun v=>some (st.put d v):=by
 rw[eD];simp only[dP,iX];show Option.map _ (Option.map _ (Mq P src dst (st.ev x)))=_
 cases Mq P src dst (st.ev x)<;>rfl
theorem Es (S:Nat) (x:Operand) (f:Nat):cH P call ops ⟨d,.field S x f,T,pos,eW,none⟩ st=cT (Cq P S f (st.ev x)) fun v=>some (st.put d v):=by
 rw[eD];simp only[dP,iX];cases Cq P S f (st.ev x)<;>rfl
theorem YI {S f off k:Nat} {cs:List AV} (h:fieldInfo P S f=some (off,true,k)) (hl:off+k≤cs.length):Cq P S f (.agg cs)=some (.agg (rd cs off k)):=by
 simp only[Cq,h,if_pos hl];rfl
theorem YJ {S f off k:Nat} {cs:List AV} (h:fieldInfo P S f=some (off,false,k)):Cq P S f (.agg cs)=cs[off]?:=by
 simp only[Cq,h]
theorem LC (S:Nat) (x:Operand) (f:Nat):cH P call ops ⟨d,.fieldAddr S x f,T,pos,eW,none⟩ st=cT (aY P S f) fun k=>cT (vJ (st.ev x) k) fun v=>some (st.put d v):=by
 rw[eD];simp only[dP,iX];cases aY P S f with
 | none=>rfl
 | some k =>
   simp only[cT];cases vJ (st.ev x) k<;>rfl
theorem LD (S:Nat) (x i:Operand):cH P call ops ⟨d,.indexAddr S x i,T,pos,eW,none⟩ st=cT (bH P st S (st.ev x) (st.ev i)) fun v=>some (st.put d v):=by
 rw[eD];simp only[dP,iX];cases bH P st S (st.ev x) (st.ev i)<;>rfl
theorem aDH (S:Nat) (x:Operand):cH P call ops ⟨d,.load S x,T,pos,eW,none⟩ st=cT (Gz P st S (st.ev x)) fun v=>some (st.put d v):=by
 rw[eD];simp only[dP,iX,Rn];cases Gz P st S (st.ev x)<;>rfl
def dN (x:AV) (i:Nat):Option AV :=
 match x with
 | .eG vs=>vs[i]?
 | _=>none
theorem YK (t:Operand) (i:Nat):cH P call ops ⟨d,.extract t i,T,pos,eW,none⟩ st=cT (dN (st.ev t) i) fun v=>some (st.put d v):=by
 rw[eD];simp only[dP,iX];show Option.map _ (Option.map _ (dN (st.ev t) i))=_
 cases dN (st.ev t) i<;>rfl
theorem aAZ (S:Nat) (parts:Array (Nat × Operand)):cH P call ops ⟨d,.build S parts,T,pos,eW,none⟩ st=cT (iW P st S parts.toList) fun v=>some (st.put d v):=by
 rw[eD];simp only[dP,iX];cases iW P st S parts.toList<;>rfl
theorem aA0 (S:Nat) (x:Operand) (lo hi:Option Operand):cH P call ops ⟨d,.slice S x lo hi none,T,pos,eW,none⟩ st=cT (dB P st S (st.ev x) lo hi) fun v=>some (st.put d v):=by
 rw[eD];simp only[dP,iX];cases dB P st S (st.ev x) lo hi<;>rfl
theorem aA1 (S d:Nat):cH P call ops ⟨some d,.alloc S,T,pos,eW,none⟩ st=cT (eH P S) fun z=>some ((st.new d (.cells (z.map .v))).put (some d) (.ptr d (st.aU d) 0)):=by
 rw[eD];simp only[dP,cT];cases eH P S with
 | none=>rfl
 | some z=>simp only[Option.map_some,lL]
theorem aHu (S d:Nat) (x:Operand):cH P call ops ⟨some d,.box S x,T,pos,eW,none⟩ st=if (st.ev x).jE=true then some ((st.new d (.cells (st.ev x).cells)).put (some d) (.ptr d (st.aU d) 0)) else none:=by
 rw[eD];simp only[dP,cT];split
 ·simp only[Option.map_some,lL]
 ·rfl
theorem aA2 (S:Nat) (x y:Operand):cH P call ops ⟨d,.store S x y,T,pos,eW,none⟩ st=cT (Yg P st S (st.ev x) (st.ev y)) fun s=>some (s.put d (.v undef)):=by
 rw[eD];simp only[dP,Yg];cases qA P st S (st.ev x) (st.ev y)<;>rfl
theorem aDI (g:Nat) (args:Array Operand) (tR:Array Nat) (h:Ext.mv g=false) (h2:Ext.eat g d=false):cH P call ops ⟨d,.call ⟨.value (.func g),args,tR⟩,T,pos,eW,none⟩ st=cT (aO call g (args.toList.map st.ev) st d) fun e=>some (e.apply st):=by
 rw[eD];simp only[dP,iS,nY,h,h2,Bool.false_eq_true,if_false];cases aO call g (args.toList.map st.ev) st d<;>rfl
theorem aA3 (g:Nat) (args:Array Operand) (tR:Array Nat) (h:Ext.mv g=true):cH P call ops ⟨d,.call ⟨.value (.func g),args,tR⟩,T,pos,eW,none⟩ st=cT (lN call g (args.toList.map st.ev) st d) fun e=>some (e.apply st):=by
 rw[eD];simp only[dP,iS,nY,h,if_true];cases lN call g (args.toList.map st.ev) st d<;>rfl
theorem YL (g:Nat) (args:Array Operand) (tR:Array Nat) (h:Ext.mv g=false) (h2:Ext.eat g d=true):cH P call ops ⟨d,.call ⟨.value (.func g),args,tR⟩,T,pos,eW,none⟩ st=cT (fG call g (args.toList.map st.ev) st d) fun e=>some (e.apply st):=by
 rw[eD];simp only[dP,iS,nY,h,h2,Bool.false_eq_true,if_false,if_true];cases fG call g (args.toList.map st.ev) st d<;>rfl
theorem aA4 (t:Nat) (args:Array Operand) (tR:Array Nat) {g:Nat} {mJ:List AV} (h:st.env t=.rW g mJ):cH P call ops ⟨d,.call ⟨.value (.tmp t),args,tR⟩,T,pos,eW,none⟩ st=cT (aO call g (args.toList.map st.ev++mJ) st d) fun e=>some (e.apply st):=by
 rw[eD];simp only[dP,iS,nY,St.ev,h,IN];show Option.map _ (aO call g (args.toList.map st.ev++mJ) st d)=cT (aO call g (args.toList.map st.ev++mJ) st d) _
 cases aO call g (args.toList.map st.ev++mJ) st d<;>rfl
theorem L2 (S:Nat) (x:Operand) (lo:Option Operand) (hi mx:Operand):cH P call ops ⟨d,.slice S x lo (some hi) (some mx),T,pos,eW,none⟩ st=cT (Bo P st S (st.ev x) lo hi mx) fun v=>some (st.put d v):=by
 rw[eD];simp only[dP,iX];cases Bo P st S (st.ev x) lo hi mx<;>rfl
theorem L3 (S:Nat) (x i:Operand) (ok:Bool):cH P call ops ⟨d,.lookup S x i ok,T,pos,eW,none⟩ st=cT (Vj P st S (st.ev x) (st.ev i) ok) fun v=>some (st.put d v):=by
 rw[eD];simp only[dP,iX];cases Vj P st S (st.ev x) (st.ev i) ok<;>rfl
theorem YM (S d:Nat):cH P call ops ⟨some d,.makeMap S none,T,pos,eW,none⟩ st=some ((st.new d (.map [])).put (some d) (.mp d (st.aU d))):=by
 rw[eD];simp only[dP,cT,Option.map_some,lL]
theorem LF (S:Nat) (m x y:Operand):cH P call ops ⟨d,.mapUpdate S m x y,T,pos,eW,none⟩ st=cT (uA P st S (st.ev m) (st.ev x) (st.ev y)) fun u=>some ((st.jC u.1 u.2.1 (some u.2.2)).put d (.v undef)):=by
 rw[eD];simp only[dP];cases uA P st S (st.ev m) (st.ev x) (st.ev y)<;>rfl
theorem RR (g:Nat) (mJ:Array Operand):cH P call ops ⟨d,.makeFunc (.func g) #[] mJ,T,pos,eW,none⟩ st=some (st.put d (.rW g (mJ.toList.map st.ev))):=by
 rw[eD];simp only[dP,iX,if_true,Option.map_some];rfl
theorem lA (S n d:Nat) (parts:Array (Nat × Operand)):cH P call ops ⟨some d,.buildSlice S n parts,T,pos,eW,none⟩ st=cT (dT P S) fun t=>cT (eH P t.1) fun z =>
 if (0<n∨parts=#[])∧n * t.2.1≤2 ^ 24∧(parts.toList.all fun p=>(st.ev p.2).jE)=true then
  cT (gT (fun i=>some (i * t.2.1,t.2.1)) ((List.range n).flatMap fun _=>z.map .v) (parts.toList.map fun p=>(p.1,st.ev p.2))) fun cs =>
   some ((st.new d (.row t.1 t.2.1 n cs)).put (some d) (.own d (st.aU d)))
 else none:=by
 rw[eD];simp only[dP,cT];cases dT P S with
 | none=>rfl
 | some t =>
   simp only
   cases eH P t.1 with
   | none=>rfl
   | some z =>
     simp only
     split
     ·cases gT (fun i=>some (i * t.2.1,t.2.1)) ((List.range n).flatMap fun _=>z.map .v) (parts.toList.map fun p=>(p.1,st.ev p.2)) with
      | none=>rfl
      | some cs=>simp only[Option.map_some,lL]
     ·rfl
theorem LG (S d:Nat) (l c:Operand) {n:Nat} (hl:st.ev l=.v (.int .i64 n)) (hc:st.ev c=.v (.int .i64 n)):cH P call ops ⟨some d,.makeSlice S l c,T,pos,eW,none⟩ st=cT (dT P S) fun t=>cT (eH P t.1) fun z =>
 if (n:Int) * t.2.2≤140737488355328∧(n:Int)≤maxLen then some ((st.new d (.row t.1 t.2.1 n ((List.range n).flatMap fun _=>z.map .v))).put (some d) (.own d (st.aU d))) else none:=by
 rw[eD];simp only[dP,cT,hl,hc];cases dT P S with
 | none=>rfl
 | some t =>
   simp only
   cases eH P t.1 with
   | none=>rfl
   | some z =>
     simp only[Int.toNat_natCast,Int.natCast_nonneg,true_and];split
     ·simp only[Option.map_some,lL]
     ·rfl
theorem aHv (x:Operand) (S:Nat) (tR:Array Nat) (h:tR=#[S]):cH P call ops ⟨d,.call ⟨.builtin .len,#[x],tR⟩,T,pos,eW,none⟩ st=cT (dT P S) fun _=>cT (aX st (st.ev x)) fun nc=>some (st.put d (.v (.int .i64 nc.1))):=by
 subst h;rw[eD];simp only[dP,iS];cases dT P S with
 | none=>rfl
 | some t=>cases aX st (st.ev x) with
   | none=>rfl
   | some nc=>cases nc;rfl
theorem aDJ (x:Operand) (S:Nat):cH P call ops ⟨d,.call ⟨.builtin .len,#[x],#[S]⟩,T,pos,eW,none⟩ st=cT (dT P S) fun _=>cT (aX st (st.ev x)) fun nc=>some (st.put d (.v (.int .i64 nc.1))):=aHv x S #[S] rfl
theorem IG (s x:Operand) (S d:Nat) (tR:Array Nat) (h:tR=#[S,S]) (hv:Ext.va S d=false) (hp:¬(Ext.pa S d=true∧Hy P st S (st.ev s) (st.ev x))):cH P call ops ⟨some d,.call ⟨.builtin .append,#[s,x],tR⟩,T,pos,eW,none⟩ st=cT (dH P st S (st.ev s) (st.ev x)) fun ur =>
 some (((match ur.1 with|some p=>st.jC p.1 p.2 none|none=>st).new d ur.2).put (some d) (.own d (st.aU d))):=by
 subst h;rw[eD];simp only[dP,iS,cT,if_true,hv,Bool.false_eq_true,if_false];rw[if_neg hp];cases dH P st S (st.ev s) (st.ev x) with
 | none=>rfl
 | some ur =>
   obtain⟨u,r⟩:=ur
   cases u with
   | none=>simp only[Option.map_some,Option.map_none,lL]
   | some p=>simp only[Option.map_some,Ud]
theorem BY (s x:Operand) (S d:Nat) (hv:Ext.va S d=false) (hp:Ext.pa S d=false):cH P call ops ⟨some d,.call ⟨.builtin .append,#[s,x],#[S,S]⟩,T,pos,eW,none⟩ st=cT (dH P st S (st.ev s) (st.ev x)) fun ur =>
 some (((match ur.1 with|some p=>st.jC p.1 p.2 none|none=>st).new d ur.2).put (some d) (.own d (st.aU d))):=IG s x S d #[S,S] rfl hv (by rw[hp];exact fun h=>absurd h.1 (by simp))
theorem aA5 (s x:Operand) (S d:Nat) (hv:Ext.va S d=false) (hp:Ext.pa S d=true) (hn:¬(st.ev s=.v (.slice none 0 0)∧(aX st (st.ev x)).map Prod.fst=some 0)):cH P call ops ⟨some d,.call ⟨.builtin .append,#[s,x],#[S,S]⟩,T,pos,eW,none⟩ st=cT (dH P st S (st.ev s) (st.ev x)) fun ur =>
 some (((match ur.1 with|some p=>st.jC p.1 p.2 none|none=>st).new d ur.2).put (some d) (.own d (st.aU d))):=IG s x S d #[S,S] rfl hv (fun h=>hn ⟨h.2.1,h.2.2.2⟩)
theorem aA6 (s x:Operand) (S d:Nat) (hv:Ext.va S d=false) (hp:Ext.pa S d=true) (hi:(dT P S).isSome=true) (h1:st.ev s=.v (.slice none 0 0)) (h2:(aX st (st.ev x)).map Prod.fst=some 0):cH P call ops ⟨some d,.call ⟨.builtin .append,#[s,x],#[S,S]⟩,T,pos,eW,none⟩ st=some (st.put (some d) (.v (.slice none 0 0))):=by
 rw[eD];simp only[dP,iS,cT,if_true,hv,Bool.false_eq_true,if_false];rw[if_pos ⟨hp,h1,hi,h2⟩];simp only[rX.apply];rfl
theorem QE (x:Operand) (S:Nat):cH P call ops ⟨d,.call ⟨.builtin .clear,#[x],#[S]⟩,T,pos,eW,none⟩ st=cT (sE P st S (st.ev x)) fun u =>
 some ((match u with|some p=>st.jC p.1 p.2.1 (some p.2.2)|none=>st).put d (.eG [])):=by
 rw[eD];simp only[dP,iS];cases sE P st S (st.ev x) with
 | none=>rfl
 | some u=>cases u<;>rfl
theorem Et (x:Value):st.ev (.const x)=.v x:=rfl
theorem Ui (t:Nat):st.ev (.tmp t)=st.env t:=rfl
theorem Kz (t d:Nat) (x:AV):(st.put (some d) x).env t=if t=d then x else st.env t:=rfl
theorem rS (t:Nat) (x:AV):(st.put none x).env t=st.env t:=rfl
theorem La (t d:Nat) (e:nP):(st.new d e).env t=st.env t:=rfl
theorem Eu (t s g:Nat) (e:Option nP):(st.jC s g e).env t=st.env t:=rfl
theorem Lb (t:Nat) (d:Option Nat) (x:AV):(st.put d x).aU t=st.aU t:=by cases d<;>rfl
theorem Lc (t d:Nat) (e:nP):(st.new d e).aU t=if t=d then st.aU d+1 else st.aU t:=rfl
theorem Ev (t s g:Nat) (e:Option nP):(st.jC s g e).aU t=st.aU t:=rfl
theorem xL (s g:Nat) (d:Option Nat) (x:AV):(st.put d x).heap s g=st.heap s g:=by cases d<;>rfl
theorem xM (s g d:Nat) (e:nP):(st.new d e).heap s g=if s=d∧g=st.aU d then some e else st.heap s g:=rfl
theorem pX (s g s0 g0:Nat) (e:Option nP):(st.jC s0 g0 e).heap s g=if s=s0∧g=g0 then e else st.heap s g:=rfl
theorem Ew (t:Nat) (xs:List AV):(St.init xs).env t=(xs[t]?).getD (.v undef):=rfl
theorem Ey (t:Nat) (xs:List AV):(St.init xs).aU t=0:=rfl
theorem zP (s g:Nat) (xs:List AV):(St.init xs).heap s g=none:=rfl
theorem Ez (x:AV):st.put none x=st:=rfl
theorem tS (d:Option Nat) (x:AV):({ dst:=d,val:=x }:rX).apply st=st.put d x:=rfl
theorem L4 (d:Option Nat) (x:AV) (n:Nat) (e:nP):({ dst:=d,val:=x,new:=some (n,[e])}:rX).apply st=(st.new n e).put d x:=lL d x n e
theorem L5 (d:Option Nat) (x:AV) (s g:Nat) (e:Option nP):({ dst:=d,val:=x,dS:=some (s,g,e)}:rX).apply st=(st.jC s g e).put d x:=rfl
theorem LH (d:Option Nat) (x:AV) (s g n:Nat) (z:Option nP) (e:nP):({ dst:=d,val:=x,dS:=some (s,g,z),new:=some (n,[e])}:rX).apply st=((st.jC s g z).new n e).put d x:=Ud d x s g n z e
theorem bG {g:Nat} {args:List AV} {r:AV} (hf:∀x∈args,Flat x) (h:call g args=some r) (hr:Flat r):aO call g args st d=some { dst:=d,val:=r }:=by
 unfold aO;rw[if_pos hf,h];simp only[cT,jD,if_pos hr]
theorem jG {g:Nat} {args:List AV} {d e sz n:Nat} {cs:List AV} (hf:∀x∈args,Flat x) (h:call g args=some (.uniq e sz n cs)) :
 aO call g args st (some d)=some { dst:=some d,val:=.own d (st.aU d),new:=some (d,[.row e sz n cs])}:=by
 unfold aO;rw[if_pos hf,h];have:¬Flat (.uniq e sz n cs):=by intro h;cases h
 simp only[cT,jD,if_neg this];rfl
end
end Go.Ab
end
section
namespace Go.Ab
open Classical
abbrev cN:=Vector Int 32
abbrev qM:=Vector Int 4
def lV (x:Int):List AV:=[.v (.int .u64 x)]
def qR (x:Int):List AV:=[.v (.int .i64 x)]
def vD (x:Bool):List AV:=[.v (.bool x)]
def bD (r:cN):List AV:=r.toList.map fun x=>.v (.int .u8 x)
def gJ (r:qM):List AV:=r.toList.map fun x=>.v (.int .u64 x)
@[simp] theorem aZ (x:Int):(lV x).length=1:=rfl
@[simp] theorem bJ (x:Int):(qR x).length=1:=rfl
@[simp] theorem iB (x:Bool):(vD x).length=1:=rfl
@[simp] theorem aP (r:cN):(bD r).length=32:=by simp[bD]
@[simp] theorem dZ (r:qM):(gJ r).length=4:=by simp[gJ]
theorem dY (x:Int):∀y∈lV x,Flat y:=by intro y hy;simp[lV] at hy;subst hy;exact .v _
theorem mI (x:Int):∀y∈qR x,Flat y:=by intro y hy;simp[qR] at hy;subst hy;exact .v _
theorem tE (x:Bool):∀y∈vD x,Flat y:=by intro y hy;simp[vD] at hy;subst hy;exact .v _
theorem dO (x:cN):∀y∈bD x,Flat y:=by intro y hy;obtain⟨z,_,rfl⟩:=List.mem_map.1 hy;exact .v _
theorem iF (x:qM):∀y∈gJ x,Flat y:=by intro y hy;obtain⟨z,_,rfl⟩:=List.mem_map.1 hy;exact .v _
theorem Og {α:Type} (c:α→List AV) (z:Nat) (hz:∀a,(c a).length=z):∀(l:List α) (i:Nat) (h:i<l.length),rd (l.flatMap c) (i * z) z=c l[i]
 | [],i,h=>by simp at h
 | a :: l,0,h=>by simp[rd,List.take_append,hz,List.take_of_length_le]
 | a :: l,i+1,h=>by
   have ih:=Og c z hz l i (by simpa using h)
   simp only[List.flatMap_cons,List.getElem_cons_succ];rw[← ih];simp only[rd];rw[List.drop_append,List.drop_of_length_le (by rw[hz,Nat.succ_mul];omega),hz,Nat.succ_mul]
   simp
theorem pZ (a b:cN):bD a=bD b↔a=b:=by
 constructor
 ·intro h;unfold bD at h;have h2:a.toList=b.toList:=by
   have:=congrArg (List.map (fun x:AV=>match x with|.v (.int _ n)=>n|_=>0)) h
   simpa [List.map_map,Function.comp_def] using this
  exact Vector.toList_inj.1 h2
 ·intro h;rw[h]
theorem Uj (a b:qM):gJ a=gJ b↔a=b:=by
 constructor
 ·intro h;unfold gJ at h;have h2:a.toList=b.toList:=by
   have:=congrArg (List.map (fun x:AV=>match x with|.v (.int _ n)=>n|_=>0)) h
   simpa [List.map_map,Function.comp_def] using this
  exact Vector.toList_inj.1 h2
 ·intro h;rw[h]
def dS (cs:List AV) (o:Nat) (xs:List AV) (e:Nat):List AV:=cs.take o++xs++cs.drop e
section
variable {a b xs:List AV} {n o o' e e' k:Nat}
theorem bN (h:xs=b):a++xs=a++b:=by rw[h]
theorem Hn (h:xs=b):xs++a=b++a:=by rw[h]
theorem bE (h:o'=o+n) (ha:a.length=n):rd (a++b) o' k=rd b o k:=by
 subst h;subst ha;simp only[rd];rw[List.drop_append,List.drop_of_length_le (by omega),List.nil_append,show o+a.length-a.length=o by omega]
theorem gL (ha:a.length=n):rd (a++b) 0 n=a:=by
 subst ha;simp[rd]
theorem jB (ha:a.length=n):rd a 0 n=a:=by
 subst ha;simp[rd]
theorem sO (h:o+k≤a.length):rd (a++b) o k=rd a o k:=by
 simp only[rd];rw[List.drop_append,List.take_append,show o-a.length=0 by omega,show k-(a.drop o).length=0 by simp;omega]
 simp
theorem aJ (h:o'=o+n) (ha:a.length=n):(a++b)[o']? = b[o]?:=by
 subst h;subst ha;rw[List.getElem?_append_right (by omega),show o+a.length-a.length=o by omega]
theorem eP (h:o<a.length):(a++b)[o]? = a[o]?:=List.getElem?_append_left h
theorem aD (h:o'=o+n) (h':e'=e+n) (ha:a.length=n):dS (a++b) o' xs e'=a++dS b o xs e:=by
 subst h;subst h';subst ha;simp only[dS];rw[List.take_append,List.take_of_length_le (by omega),List.drop_append,List.drop_of_length_le (by omega),show o+a.length-a.length=o by omega,show e+a.length-a.length=e by omega]
 simp
theorem cK (ha:a.length=n):dS (a++b) 0 xs n=xs++b:=by
 subst ha;simp[dS]
theorem eM (ha:a.length=n):dS a 0 xs n=xs:=by
 subst ha;simp[dS]
theorem vE (h:o≤e∧e≤a.length):dS (a++b) o xs e=dS a o xs e++b:=by
 simp only[dS];rw[List.take_append,List.drop_append,show o-a.length=0 by omega,show e-a.length=0 by omega]
 simp
end
theorem Jm (a b:Int):lV a=lV b↔a=b:=by simp[lV]
theorem xS (a b:Int):qR a=qR b↔a=b:=by simp[qR]
theorem II (a b:Bool):vD a=vD b↔a=b:=by simp[vD]
def dR:cN:=Vector.replicate 32 0
def IJ:qM:=Vector.replicate 4 0
def tO:List Value:=List.replicate 32 (.int .u8 0)
def BZ:List Value:=List.replicate 4 (.int .u64 0)
theorem jN:tO.map AV.v=bD dR:=by simp[tO,bD,dR]
theorem jO:BZ.map AV.v=gJ IJ:=by simp[BZ,gJ,IJ]
def Jn:List Bool:=List.replicate 32 true
def C1:List Bool:=List.replicate 4 true
theorem gA {l m:List Bool}:∀ {xs ys xs' ys':List AV},iR l xs ys→iR m xs' ys'→iR (l++m) (xs++xs') (ys++ys'):=by
 induction l with
 | nil=>intro xs ys xs' ys' h h';cases xs<;>cases ys<;>first|exact h'|exact h.elim
 | cons b l ih =>
   intro xs ys xs' ys' h h'
   cases b
   ·cases xs with
    | nil=>exact h.elim
    | cons x xs=>cases ys with
      | nil=>unfold iR at h;split at h<;>first|exact h.elim|simp_all
      | cons y ys =>
        unfold iR at h;split at h<;>simp_all [iR]
   ·cases xs with
    | nil=>exact h.elim
    | cons x xs=>cases ys with
      | nil=>unfold iR at h;split at h<;>first|exact h.elim|simp_all
      | cons y ys =>
        unfold iR at h;split at h<;>simp_all [iR]
theorem Oh (k:IntKind):∀(a b:List Int),a.length=b.length→iR (List.replicate a.length true) (a.map fun x=>.v (.int k x)) (b.map fun x=>.v (.int k x))
 | [],[],_=>trivial
 | [],_ :: _,h=>by simp at h
 | _ :: _,[],h=>by simp at h
 | a :: l,b :: m,h=>⟨rfl,Oh k l m (by simpa using h)⟩
theorem nN (a b:cN):iR Jn (bD a) (bD b):=by
 have:=Oh .u8 a.toList b.toList (by simp)
 rw[Vector.length_toList] at this;exact this
theorem Oi (a b:qM):iR C1 (gJ a) (gJ b):=by
 have:=Oh .u64 a.toList b.toList (by simp)
 rw[Vector.length_toList] at this;exact this
def RS (P:Program) (T:Nat):Option (List (Nat × Nat)) :=
 match P.underlying T with
 | some (.struct fs)=>if fs.all (fun f=>(P.info? f.type).isSome) then some (fs.toList.map fun f=>(f.offset,P.cellsOf f.type)) else none
 | _=>none
def RT (P:Program) (T:Nat):Option Nat :=
 match P.underlying T with
 | some (.array _ e)=>if (P.info? e).isSome then some (P.cellsOf e) else none
 | _=>none
theorem fF {P:Program} {T:Nat} {l:List (Nat × Nat)} (h:RS P T=some l):placeOf P T=some fun i=>l[i]?:=by
 unfold RS at h;unfold placeOf;split at h
 ·rename_i fs hu;split at h
  ·rename_i Nb;simp only[Option.some.injEq] at h;subst h;simp only[hu,Nb,if_true];congr 1
   funext i
   simp
  ·cases h
 ·cases h
theorem Wg {P:Program} {T k:Nat} (h:RT P T=some k):placeOf P T=some fun i=>some (i * k,k):=by
 unfold RT at h;unfold placeOf;split at h
 ·rename_i n e hu;split at h
  ·rename_i Nb;simp only[Option.some.injEq] at h;subst h;simp only[hu,Nb,if_true]
  ·cases h
 ·cases h
theorem iG {P:Program} {st:St} {T:Nat} {parts:List (Nat × Operand)} {z:List Value} {place:Nat→Option (Nat × Nat)} {c:List AV} (hz:eH P T=some z) (hc:z.map AV.v=c) (hp:placeOf P T=some place) :
 iW P st T parts=if (parts.all fun p=>(st.ev p.2).jE)=true then (gT place c (parts.map fun p=>(p.1,st.ev p.2))).map .agg else none:=by
 simp only[iW,hz,hp,hc]
theorem OL (place:Nat→Option (Nat × Nat)) (c:List AV):gT place c []=some c:=rfl
theorem HE (place:Nat→Option (Nat × Nat)) (c:List AV) (i:Nat) (x:AV) (r:List (Nat × AV)):gT place c ((i,x) :: r)=cT (place i) fun os =>
 if x.cells.length=os.2∧os.1+os.2≤c.length then gT place (dS c os.1 x.cells (os.1+os.2)) r else none:=by
 simp only[gT];cases place i<;>rfl
theorem sP {P:Program} {T:Nat} {l:List Bool} {xs ys:List AV} {p:Prop} [Decidable p] (hl:fC P 20 T=some l) (ha:dF P T=true) (hg:P.eqGuardType P.depth T=false) (hf:iR l xs ys) (hp:xs=ys↔p) :
 wV P T xs ys=some (decide p):=by
 unfold wV;rw[hl];simp only[ha,hg,hf,and_self,if_true];congr 1
 rw[Bool.eq_iff_iff];simp[hp]
def sT (P:Program) (T:Nat):Option Nat :=
 match fS P T with
 | some (_,k)=>some k
 | none=>none
theorem L6 {P:Program} {st:St} {T s g o:Nat} {x:AV}:Yg P st T (.ptr s g o) x=cT (sT P T) fun k=>if x.cells.length=k∧x.jE=true then
 (match st.heap s g with
  | some (.cells cs)=>if o+k≤cs.length then some (st.jC s g (some (.cells (dS cs o x.cells (o+k))))) else none
  | some (.row e sz n cs)=>if o+k≤cs.length then some (st.jC s g (some (.row e sz n (dS cs o x.cells (o+k))))) else none
  | _=>none) else none:=by
 simp only[Yg,qA,sT];cases fS P T with
 | none=>rfl
 | some bk =>
   obtain⟨b,k⟩:=bk
   simp only[cT];split
   ·split
    ·rename_i h;simp only[h];split<;>rfl
    ·rename_i h;simp only[h];split<;>rfl
    ·rename_i h1 h2;split<;>rename_i h<;>first|rfl|exact absurd h (h1 _)|exact absurd h (h2 _ _ _ _)
   ·rfl
theorem RU (s:cN):rd (bD s) 0 32=bD s:=jB (aP _)
theorem RV (s x:cN):dS (bD s) 0 (bD x) 32=bD x:=eM (aP _)
theorem RW (s:qM):rd (gJ s) 0 4=gJ s:=jB (dZ _)
theorem RX (s x:qM):dS (gJ s) 0 (gJ x) 4=gJ x:=eM (dZ _)
theorem wrap_i64 (x:Int) (h1:-9223372036854775808≤x) (h2:x≤9223372036854775807):IntKind.i64.wrap x=x:=by
 rw[IntKind.wrap_i64];omega
theorem nA (s g:Nat):¬Flat (.own s g):=by intro h;cases h
theorem yU (s g o:Nat):¬Flat (.ptr s g o):=by intro h;cases h
theorem eB {st:St} {x:AV} (h:Flat x):fP st x=some x:=by unfold fP;rw[if_pos h]
theorem kD {st:St} {s g e sz n:Nat} {cs:List AV} (h:st.heap s g=some (.row e sz n cs)) (hf:∀c∈cs,Flat c):cJ st (.own s g)=some (.sl n cs):=by
 unfold cJ;rw[if_neg (nA s g)];simp only[h];rw[if_pos hf]
theorem cS {st:St} {x:AV} (h:Flat x):cJ st x=some x:=by unfold cJ;rw[if_pos h]
theorem aA7 {st:St} {x:AV} (h:Flat x):wW st x=some x:=by unfold wW;rw[if_pos h]
theorem Ii {st:St}:∀ {cs:List AV},(∀c∈cs,Flat c)→cM (cs.map (wW st))=some cs
 | [],_=>rfl
 | c :: cs,h=>by
   rw[List.map_cons,aA7 (h c (by simp))]
   have ih:=Ii (st:=st) (cs:=cs) fun d hd=>h d (List.mem_cons_of_mem _ hd)
   simp only[cM,ih,Option.map_some]
theorem YN {st:St} {s g o:Nat} {cs:List AV} (h:st.heap s g=some (.cells cs)):cJ st (.ptr s g o)=(cM (cs.map (wW st))).map fun ds=>.ip ds o:=by
 unfold cJ;rw[if_neg (yU s g o)];simp only[h]
theorem L7 {st:St} {s g o:Nat} {cs:List AV} (h:st.heap s g=some (.cells cs)) (hf:∀c∈cs,Flat c):cJ st (.ptr s g o)=some (.ip cs o):=by
 rw[YN h,Ii hf];rfl
theorem AP {st:St} {s g e sz n:Nat} {cs:List AV} (h:st.heap s g=some (.row e sz n cs)) (hf:∀c∈cs,Flat c):fP st (.own s g)=some (.sl n cs):=by
 unfold fP;rw[if_neg (nA s g)];exact kD h hf
theorem QG {st:St} {s g o:Nat} {cs:List AV} (h:st.heap s g=some (.cells cs)) (hf:∀c∈cs,Flat c):fP st (.ptr s g o)=some (.ip cs o):=by
 unfold fP;rw[if_neg (yU s g o)];exact L7 h hf
section
variable [Ext]
theorem RY {P:Program} {f:Nat} {fn:Func} {t:Nat} {st:St} {x:AV} {e:Ex} (hk:Ext.qL f=false) (he:e=.ret∨e=.normal) (hr:fn.results.toList=[.tmp t]) (hx:st.env t=x) (hf:Flat x):Bi P f fn (e,st)=some x:=by
 have h1:jT P f fn st=some x:=by
  unfold jT;rw[hk,if_neg (by simp)]
  unfold wM;rw[hr];simp only[lP,cT,hx,Vk];cases hf<;>simp only[fP]<;>rw[if_pos]<;>constructor<;>assumption
 rcases he with rfl|rfl<;>exact h1
theorem L9 {P:Program} {f:Nat} {fn:Func} {t T:Nat} {st:St} {y x:AV} {e:Ex} (hk:Ext.qL f=false) (he:e=.ret∨e=.normal) (hr:fn.results.toList=[.cell t T]) (hy:st.env t=y) (hx:Gz P st T y=some x) (hf:Flat x):Bi P f fn (e,st)=some x:=by
 have h1:jT P f fn st=some x:=by
  unfold jT;rw[hk,if_neg (by simp)]
  unfold wM;rw[hr];show cT (cT (qO st (st.env t)) (yQ P T)) (Vk st)=some x
  rw[hy,Rn,hx];simp only[cT,Vk];cases hf<;>simp only[fP]<;>rw[if_pos]<;>constructor<;>assumption
 rcases he with rfl|rfl<;>exact h1
theorem Ql {P:Program} {f:Nat} {fn:Func} {t:Nat} {st:St} {e:Ex} {s g e' sz n:Nat} {cs:List AV} (hk:Ext.qL f=false) (he:e=.ret∨e=.normal) (hr:fn.results.toList=[.tmp t]) (hx:st.env t=.own s g) (hh:st.heap s g=some (.row e' sz n cs)) (hf:∀c∈cs,Flat c):Bi P f fn (e,st)=some (.uniq e' sz n cs):=by
 have h1:jT P f fn st=some (.uniq e' sz n cs):=by
  unfold jT;rw[hk,if_neg (by simp)]
  unfold wM;rw[hr];simp only[lP,cT,hx,Vk,hh];rw[if_pos hf]
 rcases he with rfl|rfl<;>exact h1
theorem YO {P:Program} {f:Nat} {fn:Func} {t T:Nat} {st:St} {e:Ex} {z:AV} {cs:List AV} {y:AV} (hk:Ext.qL f=false) (he:e=.ret∨e=.normal) (hr:fn.results.toList=[.cell t T]) (hz:st.env t=z) (hx:Gz P st T z=some (.agg cs)) (hy:fP st (.agg cs)=some y):Bi P f fn (e,st)=some y:=by
 have h1:jT P f fn st=some y:=by
  unfold jT;rw[hk,if_neg (by simp)]
  unfold wM;rw[hr];show cT (cT (qO st (st.env t)) (yQ P T)) (Vk st)=some y
  rw[hz,Rn,hx];simp only[cT,Vk,hy]
 rcases he with rfl|rfl<;>exact h1
def bY (P:Program) (st:St) (r:ResultVar):Option AV :=
 match r with
 | .tmp t=>some (st.env t)
 | .cell t T=>Gz P st T (st.env t)
theorem rI (P:Program) (st:St) (r:ResultVar):lP P st r=bY P st r:=by
 cases r with
 | tmp t=>rfl
 | cell t T=>exact Rn P st T _
theorem aA8 {P:Program} {f:Nat} {fn:Func} {st:St} {e:Ex} {r1 r2:ResultVar} {x1 x2 y1 y2:AV} (hk:Ext.qL f=false) (he:e=.ret∨e=.normal) (hr:fn.results.toList=[r1,r2])
 (h1:bY P st r1=some x1) (h2:bY P st r2=some x2) (e1:fP st x1=some y1) (e2:fP st x2=some y2):Bi P f fn (e,st)=some (.eG [y1,y2]):=by
 have h:jT P f fn st=some (.eG [y1,y2]):=by
  unfold jT;rw[hk,if_neg (by simp)]
  unfold wM;rw[hr];simp only[List.map_cons,List.map_nil,rI,h1,h2,cT,El e1,El e2,cM,Option.map_some]
 rcases he with rfl|rfl<;>exact h
theorem M0 {P:Program} {f:Nat} {fn:Func} {st:St} {e:Ex} {r1 r2:ResultVar} {x1 x2 y1 y2:AV} (hk:Ext.qL f=false) (he:e=.ret∨e=.normal) (hr:fn.results.toList=[r1,r2])
 (h1:bY P st r1=some x1) (h2:bY P st r2=some x2) (e0:fP st x1=none) (e1:Ph st x1=some y1) (e2:fP st x2=some y2):Bi P f fn (e,st)=some (.eG [y1,y2]):=by
 have e1':Dm st x1=some y1:=(XS e0).trans e1
 have h:jT P f fn st=some (.eG [y1,y2]):=by
  unfold jT;rw[hk,if_neg (by simp)]
  unfold wM;rw[hr];simp only[List.map_cons,List.map_nil,rI,h1,h2,cT,e1',El e2,cM,Option.map_some]
 rcases he with rfl|rfl<;>exact h
theorem YP {P:Program} {f:Nat} {fn:Func} {st:St} {e:Ex} {r1 r2 r3:ResultVar} {x1 x2 x3 y1 y2 y3:AV} (hk:Ext.qL f=false) (he:e=.ret∨e=.normal) (hr:fn.results.toList=[r1,r2,r3])
 (h1:bY P st r1=some x1) (h2:bY P st r2=some x2) (h3:bY P st r3=some x3) (e1:fP st x1=some y1) (e2:fP st x2=some y2) (e3:fP st x3=some y3):Bi P f fn (e,st)=some (.eG [y1,y2,y3]):=by
 have h:jT P f fn st=some (.eG [y1,y2,y3]):=by
  unfold jT;rw[hk,if_neg (by simp)]
  unfold wM;rw[hr];simp only[List.map_cons,List.map_nil,rI,h1,h2,h3,cT,El e1,El e2,El e3,cM,Option.map_some]
 rcases he with rfl|rfl<;>exact h
end
section
variable [Ext]
theorem zQ {P:Program} (c:Operand) (a b:Code) (st:St):Aa P (.cond c a b) st=onB (st.ev c) fun t=>if t=true then Aa P a st else Aa P b st:=by
 cases h:st.ev c with
 | v x =>
   cases x with
   | bool t=>exact aAY P c a b st h
   | _ =>
     apply Option.ext
     intro r;rw[C0];constructor
     ·rintro⟨n,m,h'⟩
      cases m with
      | zero=>simp[uY] at h'
      | succ m=>simp[uY,h] at h'
     ·intro h';simp[onB] at h'
 | _ =>
   apply Option.ext
   intro r;rw[C0];constructor
   ·rintro⟨n,m,h'⟩
    cases m with
    | zero=>simp[uY] at h'
    | succ m=>simp[uY,h] at h'
   ·intro h';simp[onB] at h'
def Ro (ops:Array Oper) (j:Nat):Option Nat:=(ops[j]?).bind (·.dst)
def YQ {α:Type} (x:AV) (want:Bool) (y n:Option α):Option α :=
 match x with
 | .v (.bool b)=>if b=want then y else n
 | .v _=>n
 | _=>none
def onS {α:Type} (d:Option Nat) (k:Nat→Option α) (n:Option α):Option α :=
 match d with
 | some d=>k d
 | none=>n
@[congr] theorem aHw {α:Type} {x x':AV} {want:Bool} {y n:Option α} (h:x=x'):YQ x want y n=YQ x' want y n:=by rw[h]
@[congr] theorem aJH {α:Type} {d d':Option Nat} {k:Nat→Option α} {n:Option α} (h:d=d'):onS d k n=onS d' k n:=by rw[h]
theorem zS {α:Type} (b:Bool) (y n:Option α):YQ (.v (.bool b)) true y n=if b=true then y else n:=rfl
theorem wE {α:Type} (b:Bool) (y n:Option α):YQ (.v (.bool b)) false y n=if b=false then y else n:=rfl
theorem wF {α:Type} (w:Bool) (y n:Option α):YQ (.v undef) w y n=n:=rfl
theorem Fa {α:Type} (d:Nat) (k:Nat→Option α) (n:Option α):onS (some d) k n=k d:=rfl
theorem zT {P:Program} {call:Nat→List AV→Option AV} {ops:Array Oper} {st:St} {d:Option Nat} {T:Nat} {pos:String} {eW:Array Edge} (op:Op) (j:Nat) (want:Bool) :
 cH P call ops ⟨d,op,T,pos,eW,some (j,want)⟩ st=onS (Ro ops j) (fun s=>YQ (st.env s) want (cH P call ops ⟨d,op,T,pos,eW,none⟩ st) (some (st.put d (.v undef)))) (some (st.put d (.v undef))):=by
 simp only[cH,gv,Ro];cases (ops[j]?).bind (·.dst) with
 | none=>simp[onS]
 | some s =>
   simp only[onS];cases st.env s with
   | v x=>cases x<;>simp[YQ,dP]<;>rename_i b<;>cases b<;>cases want<;>simp[dP]
   | _=>rfl
end
section
variable {P:Program} {T:Nat} {k k1:IntKind} {a b:Int}
theorem Ld:gM P .add T (.v (.int k a)) (.v (.int k b))=some (.v (.int k (k.wrap (a+b)))):=by simp[gM]
theorem Lf:gM P .sub T (.v (.int k a)) (.v (.int k b))=some (.v (.int k (k.wrap (a-b)))):=by simp[gM]
theorem Lg:gM P .mul T (.v (.int k a)) (.v (.int k b))=some (.v (.int k (k.wrap (a * b)))):=by simp[gM]
theorem Lh:gM P .and T (.v (.int k a)) (.v (.int k b))=some (.v (.int k (k.wrap (BitVec.ofInt k.bits a &&& BitVec.ofInt k.bits b).toNat))):=by simp[gM]
theorem Li:gM P .eql T (.v (.int k a)) (.v (.int k b))=some (.v (.bool (a == b))):=by simp[gM]
theorem Lj:gM P .neq T (.v (.int k a)) (.v (.int k b))=some (.v (.bool (a != b))):=by simp[gM]
theorem Lk:gM P .lss T (.v (.int k a)) (.v (.int k b))=some (.v (.bool (decide (a<b)))):=by simp[gM]
theorem Ll:gM P .leq T (.v (.int k a)) (.v (.int k b))=some (.v (.bool (decide (a≤b)))):=by simp[gM]
theorem Lm:gM P .gtr T (.v (.int k a)) (.v (.int k b))=some (.v (.bool (decide (a > b)))):=by simp[gM]
theorem Ln:gM P .geq T (.v (.int k a)) (.v (.int k b))=some (.v (.bool (decide (a≥b)))):=by simp[gM]
theorem aDK (h:b≠0):gM P .quo T (.v (.int k a)) (.v (.int k b))=some (.v (.int k (k.wrap (a.tdiv b)))):=by simp[gM,h]
theorem aDL (h:b≠0):gM P .rem T (.v (.int k a)) (.v (.int k b))=some (.v (.int k (a.tmod b))):=by simp[gM,h]
theorem aDM (h:¬b<0):gM P .shr T (.v (.int k a)) (.v (.int k1 b))=some (.v (.int k (a.fdiv (2 ^ (min b.toNat k.bits))))):=by simp[gM,h]
theorem aDN (h:¬b<0):gM P .shl T (.v (.int k a)) (.v (.int k1 b))=some (.v (.int k (k.wrap (a * 2 ^ (min b.toNat k.bits))))):=by simp[gM,h]
end
theorem rT (s:St) (k:St→Option (Ex × St)):BX (.normal,s) k=k s:=rfl
theorem zU (s:St) (k:St→Option (Ex × St)):BX (.ret,s) k=some (.ret,s):=rfl
theorem wG (i:Nat) (s:St) (k:St→Option (Ex × St)):BX (.exit i,s) k=some (.exit i,s):=rfl
theorem Yw (r:cN) (i e:Nat) (x:Int) (h:i<32) (he:e=i+1):dS (bD r) i [.v (.int .u8 x)] e=bD (r.set i x):=by
 subst he;simp only[dS,bD,Vector.toList_set,List.map_set];rw[List.set_eq_take_append_cons_drop,if_pos (by simp[h])]
 simp
theorem pI (r:qM) (i e:Nat) (x:Int) (h:i<4) (he:e=i+1):dS (gJ r) i [.v (.int .u64 x)] e=gJ (r.set i x):=by
 subst he;simp only[dS,gJ,Vector.toList_set,List.map_set];rw[List.set_eq_take_append_cons_drop,if_pos (by simp[h])]
 simp
theorem Sx [Ext] {P:Program} {b:Code} (Inv:Nat→St→Prop) (Q:Ex→St→Prop)
 (step:∀n st,Inv n st→∃e st',Aa P b st=some (e,st')∧((e=.normal∧∃m,m<n∧Inv m st')∨(e≠.normal∧Q e st'))):∀n st,Inv n st→∃e st',Aa P (.loop b) st=some (e,st')∧e≠.normal∧Q e st':=by
 intro n;induction n using Nat.strongRecOn with
 | _ n ih =>
   intro st h;obtain⟨e,s1,h1,h2⟩:=step n st h
   rw[Ic,h1];rcases h2 with ⟨rfl,m,hm,hi⟩|⟨fQ,hq⟩
   ·exact ih m hm s1 hi
   ·refine⟨e,s1, ?_,fQ,hq⟩
    cases e with
    | normal=>exact absurd rfl fQ
    | _=>rfl
theorem kJ [Ext] {P:Program} {b:Code} {st:St} {β:Type} {k:Ex × St→Option β} {r:β} (Inv:Nat→St→Prop) (Q:Ex→St→Prop) (n:Nat)
 (step:∀n st,Inv n st→∃e st',Aa P b st=some (e,st')∧((e=.normal∧∃m,m<n∧Inv m st')∨(e≠.normal∧Q e st')))
 (start:Inv n st) (rest:∀e st',Q e st'→k (e,st')=some r):cT (Aa P (.loop b) st) k=some r:=by
 obtain⟨e,s1,h1,h2,h3⟩:=Sx Inv Q step n st start
 rw[h1];exact rest e s1 h3
theorem cI [Ext] {P:Program} {b:Code} {st:St} {β:Type} {k:Ex × St→Option β} {R:β→Prop} (Inv:Nat→St→Prop) (Q:Ex→St→Prop) (n:Nat)
 (step:∀n st,Inv n st→∃e st',Aa P b st=some (e,st')∧((e=.normal∧∃m,m<n∧Inv m st')∨(e≠.normal∧Q e st')))
 (start:Inv n st) (rest:∀e st',Q e st'→∃r,k (e,st')=some r∧R r):∃r,cT (Aa P (.loop b) st) k=some r∧R r:=by
 obtain⟨e,s1,h1,h2,h3⟩:=Sx Inv Q step n st start
 rw[h1];exact rest e s1 h3
theorem kE {α β γ:Type} (x:Option α) (f:α→Option β) (g:β→Option γ):cT (cT x f) g=cT x fun a=>cT (f a) g:=by cases x<;>rfl
theorem oY [Ext] {P:Program} {b:Code} {st st':St} {n:Nat} {Inv:Nat→St→Prop} {Q:Ex→St→Prop} (h:Aa P b st=some (.normal,st')) (m:Nat) (hm:m<n) (hi:Inv m st') :
 ∃e st',Aa P b st=some (e,st')∧((e=.normal∧∃m,m<n∧Inv m st')∨(e≠.normal∧Q e st')):=⟨_,_,h,.inl ⟨rfl,m,hm,hi⟩⟩
theorem aHx [Ext] {P:Program} {b:Code} {st st':St} {e:Ex} {n:Nat} {Inv:Nat→St→Prop} {Q:Ex→St→Prop} (h:Aa P b st=some (e,st')) (he:e≠.normal) (hq:Q e st') :
 ∃e st',Aa P b st=some (e,st')∧((e=.normal∧∃m,m<n∧Inv m st')∨(e≠.normal∧Q e st')):=⟨_,_,h,.inr ⟨he,hq⟩⟩
def aK (l:List Int):List AV:=l.flatMap qR
@[simp] theorem Kr (l:List (Int)):(aK l).length=l.length * 1:=by
 induction l with
 | nil=>rfl
 | cons x l ih=>simp only[aK,List.flatMap_cons,List.length_append,bJ,List.length_cons] at *;omega
theorem fV (l:List (Int)):∀x∈aK l,Flat x:=by
 intro x hx;obtain⟨y,_,hy⟩:=List.mem_flatMap.1 hx
 exact mI y x hy
theorem aA9 (l:List (Int)) (i:Nat) (h:i<l.length):rd (aK l) (i * 1) 1=qR l[i]:=Og qR 1 (bJ) l i h
def bI (l:List Int):List AV:=l.flatMap lV
@[simp] theorem Tq (l:List (Int)):(bI l).length=l.length * 1:=by
 induction l with
 | nil=>rfl
 | cons x l ih=>simp only[bI,List.flatMap_cons,List.length_append,aZ,List.length_cons] at *;omega
theorem gZ (l:List (Int)):∀x∈bI l,Flat x:=by
 intro x hx;obtain⟨y,_,hy⟩:=List.mem_flatMap.1 hx
 exact dY y x hy
def hU (l:List cN):List AV:=l.flatMap bD
@[simp] theorem aHy (l:List (cN)):(hU l).length=l.length * 32:=by
 induction l with
 | nil=>rfl
 | cons x l ih=>simp only[hU,List.flatMap_cons,List.length_append,aP,List.length_cons] at *;omega
theorem Wh (l:List (cN)):∀x∈hU l,Flat x:=by
 intro x hx;obtain⟨y,_,hy⟩:=List.mem_flatMap.1 hx
 exact dO y x hy
structure dQ where
 aG:Int
 root:cN
def bB (s:dQ):List AV:=lV s.aG++(bD s.root)
@[simp] theorem bV (s:dQ):(bB s).length=33:=by simp[bB]
theorem bR (s:dQ):∀x∈bB s,Flat x:=by
 intro x hx;simp only[bB,List.mem_append,List.mem_singleton] at hx;rcases hx with hx|hx
 ·(exact dY _ _ hx)
 ·(exact dO _ _ hx)
theorem kA (s:dQ):(bB s)[0]? = some (.v (.int .u64 s.aG)):=rfl
theorem Dg (s:dQ) (x:Int):dS (bB s) 0 ([.v (.int .u64 x)]) 1=bB { s with aG:=x }:=cK (aZ _)
theorem uT (s:dQ):rd (bB s) 1 32=bD s.root:=(bE rfl (aZ _)).trans (jB (aP _))
theorem Gq (s:dQ) (x:cN):dS (bB s) 1 (bD x) 33=bB { s with root:=x }:=(aD rfl rfl (aZ _)).trans (bN (eM (aP _)))
def gP:dQ:=⟨0,dR⟩
def Dx:List Value:=[.int .u64 0]++(tO)
theorem Bz:Dx.map AV.v=bB gP:=by simp only[Dx,List.map_append,List.map_cons,List.map_nil,jN,jO];rfl
def Wi:List Bool:=[true]++(Jn)
theorem tF (a b:dQ):iR Wi (bB a) (bB b):=(gA (show iR [true] [_] [_] from ⟨rfl,trivial⟩) (nN _ _))
theorem mY (a b:dQ):bB a=bB b↔a=b:=by
 refine⟨fun h=>?_,fun h=>by rw[h]⟩
 cases a;cases b
 simp only[bB] at h;obtain⟨h0,h⟩:=List.append_inj h (by simp)
 have e0:=(Jm _ _).1 h0
 have e1:=(pZ _ _).1 h
 subst e0 e1;rfl
theorem RZ (s:dQ):rd (bB s) 0 33=bB s:=jB (bV _)
theorem SA (s x:dQ):dS (bB s) 0 (bB x) 33=bB x:=eM (bV _)
structure pE where
 pj:dQ
 pf:dQ
def fM (s:pE):List AV:=bB s.pj++(bB s.pf)
@[simp] theorem cU (s:pE):(fM s).length=66:=by simp[fM]
theorem Ga (s:pE):∀x∈fM s,Flat x:=by
 intro x hx;simp only[fM,List.mem_append,List.mem_singleton] at hx;rcases hx with hx|hx
 ·(exact bR _ _ hx)
 ·(exact bR _ _ hx)
theorem Rp (s:pE):rd (fM s) 0 33=bB s.pj:=gL (bV _)
theorem Rq (s:pE) (x:dQ):dS (fM s) 0 (bB x) 33=fM { s with pj:=x }:=cK (bV _)
theorem yN (s:pE):(fM s)[0]? = some (.v (.int .u64 s.pj.aG)):=(eP (by rw[bV];decide)).trans (kA _)
theorem Av (s:pE) (x:Int):dS (fM s) 0 ([.v (.int .u64 x)]) 1=fM { s with pj:={ s.pj with aG:=x }}:=(vE (by rw[bV];decide)).trans (Hn (Dg _ x))
theorem Rr (s:pE):rd (fM s) 33 33=bB s.pf:=(bE rfl (bV _)).trans (jB (bV _))
theorem Rs (s:pE) (x:dQ):dS (fM s) 33 (bB x) 66=fM { s with pf:=x }:=(aD rfl rfl (bV _)).trans (bN (eM (bV _)))
theorem yO (s:pE):(fM s)[33]? = some (.v (.int .u64 s.pf.aG)):=(aJ rfl (bV _)).trans (kA _)
def Qd:pE:=⟨gP,gP⟩
def Rt:List Value:=Dx++(Dx)
theorem Uk:Rt.map AV.v=fM Qd:=by simp only[Rt,List.map_append,List.map_cons,List.map_nil,jN,jO,Bz];rfl
def C2:List Bool:=Wi++(Wi)
theorem LI (a b:pE):iR C2 (fM a) (fM b):=(gA (tF _ _) (tF _ _))
theorem SC (a b:pE):fM a=fM b↔a=b:=by
 refine⟨fun h=>?_,fun h=>by rw[h]⟩
 cases a;cases b
 simp only[fM] at h;obtain⟨h0,h⟩:=List.append_inj h (by simp)
 have e0:=(mY _ _).1 h0
 have e1:=(mY _ _).1 h
 subst e0 e1;rfl
theorem EW (s:pE):rd (fM s) 0 66=fM s:=jB (cU _)
theorem EX (s x:pE):dS (fM s) 0 (fM x) 66=fM x:=eM (cU _)
structure Block where
 dW:pE
 slot:Int
 root:cN
 parent:cN
 jL:cN
 diff:qM
 HC:qM
 gI:dQ
 fin:dQ
 Gg:Bool
def aV (s:Block):List AV:=fM s.dW++(lV s.slot++(bD s.root++(bD s.parent++(bD s.jL++(gJ s.diff++(gJ s.HC++(bB s.gI++(bB s.fin++(vD s.Gg)))))))))
@[simp] theorem bS (s:Block):(aV s).length=238:=by simp[aV]
theorem Ck (s:Block):∀x∈aV s,Flat x:=by
 intro x hx;simp only[aV,List.mem_append,List.mem_singleton] at hx;rcases hx with hx|hx|hx|hx|hx|hx|hx|hx|hx|hx
 ·(exact Ga _ _ hx)
 ·(exact dY _ _ hx)
 ·(exact dO _ _ hx)
 ·(exact dO _ _ hx)
 ·(exact dO _ _ hx)
 ·(exact iF _ _ hx)
 ·(exact iF _ _ hx)
 ·(exact bR _ _ hx)
 ·(exact bR _ _ hx)
 ·(exact tE _ _ hx)
theorem Ha (s:Block):rd (aV s) 0 66=fM s.dW:=gL (cU _)
theorem Wy (s:Block) (x:pE):dS (aV s) 0 (fM x) 66=aV { s with dW:=x }:=cK (cU _)
theorem Aw (s:Block):rd (aV s) 0 33=bB s.dW.pj:=(sO (by rw[cU];decide)).trans (Rp _)
theorem Oj (s:Block) (x:dQ):dS (aV s) 0 (bB x) 33=aV { s with dW:={ s.dW with pj:=x }}:=(vE (by rw[cU];decide)).trans (Hn (Rq _ x))
theorem sC (s:Block):(aV s)[0]? = some (.v (.int .u64 s.dW.pj.aG)):=(eP (by rw[cU];decide)).trans (yN _)
theorem Dh (s:Block) (x:Int):dS (aV s) 0 ([.v (.int .u64 x)]) 1=aV { s with dW:={ s.dW with pj:={ s.dW.pj with aG:=x }} }:=(vE (by rw[cU];decide)).trans (Hn (Av _ x))
theorem Ax (s:Block):rd (aV s) 33 33=bB s.dW.pf:=(sO (by rw[cU];decide)).trans (Rr _)
theorem Ok (s:Block) (x:dQ):dS (aV s) 33 (bB x) 66=aV { s with dW:={ s.dW with pf:=x }}:=(vE (by rw[cU];decide)).trans (Hn (Rs _ x))
theorem sD (s:Block):(aV s)[33]? = some (.v (.int .u64 s.dW.pf.aG)):=(eP (by rw[cU];decide)).trans (yO _)
theorem Jo (s:Block):(aV s)[66]? = some (.v (.int .u64 s.slot)):=(aJ rfl (cU _)).trans (rfl)
theorem EY (s:Block) (x:Int):dS (aV s) 66 ([.v (.int .u64 x)]) 67=aV { s with slot:=x }:=(aD rfl rfl (cU _)).trans (bN (cK (aZ _)))
theorem Mr (s:Block):rd (aV s) 67 32=bD s.root:=(bE rfl (cU _)).trans ((bE rfl (aZ _)).trans (gL (aP _)))
theorem EZ (s:Block) (x:cN):dS (aV s) 67 (bD x) 99=aV { s with root:=x }:=(aD rfl rfl (cU _)).trans (bN ((aD rfl rfl (aZ _)).trans (bN (cK (aP _)))))
theorem Wz (s:Block):rd (aV s) 99 32=bD s.parent:=(bE rfl (cU _)).trans ((bE rfl (aZ _)).trans ((bE rfl (aP _)).trans (gL (aP _))))
theorem Xa (s:Block) (x:cN):dS (aV s) 99 (bD x) 131=aV { s with parent:=x }:=(aD rfl rfl (cU _)).trans (bN ((aD rfl rfl (aZ _)).trans (bN ((aD rfl rfl (aP _)).trans (bN (cK (aP _)))))))
theorem Fb (s:Block):rd (aV s) 131 32=bD s.jL:=(bE rfl (cU _)).trans ((bE rfl (aZ _)).trans ((bE rfl (aP _)).trans ((bE rfl (aP _)).trans (gL (aP _)))))
theorem Ul (s:Block) (x:cN):dS (aV s) 131 (bD x) 163=aV { s with jL:=x }:=(aD rfl rfl (cU _)).trans (bN ((aD rfl rfl (aZ _)).trans (bN ((aD rfl rfl (aP _)).trans (bN ((aD rfl rfl (aP _)).trans (bN (cK (aP _)))))))))
theorem FB (s:Block):rd (aV s) 163 4=gJ s.diff:=(bE rfl (cU _)).trans ((bE rfl (aZ _)).trans ((bE rfl (aP _)).trans ((bE rfl (aP _)).trans ((bE rfl (aP _)).trans (gL (dZ _))))))
theorem FC (s:Block) (x:qM):dS (aV s) 163 (gJ x) 167=aV { s with diff:=x }:=(aD rfl rfl (cU _)).trans (bN ((aD rfl rfl (aZ _)).trans (bN ((aD rfl rfl (aP _)).trans (bN ((aD rfl rfl (aP _)).trans (bN ((aD rfl rfl (aP _)).trans (bN (cK (dZ _)))))))))))
theorem CA (s:Block):rd (aV s) 167 4=gJ s.HC:=(bE rfl (cU _)).trans ((bE rfl (aZ _)).trans ((bE rfl (aP _)).trans ((bE rfl (aP _)).trans ((bE rfl (aP _)).trans ((bE rfl (dZ _)).trans (gL (dZ _)))))))
theorem CB (s:Block) (x:qM):dS (aV s) 167 (gJ x) 171=aV { s with HC:=x }:=(aD rfl rfl (cU _)).trans (bN ((aD rfl rfl (aZ _)).trans (bN ((aD rfl rfl (aP _)).trans (bN ((aD rfl rfl (aP _)).trans (bN ((aD rfl rfl (aP _)).trans (bN ((aD rfl rfl (dZ _)).trans (bN (cK (dZ _)))))))))))))
theorem Ms (s:Block):rd (aV s) 171 33=bB s.gI:=(bE rfl (cU _)).trans ((bE rfl (aZ _)).trans ((bE rfl (aP _)).trans ((bE rfl (aP _)).trans ((bE rfl (aP _)).trans ((bE rfl (dZ _)).trans ((bE rfl (dZ _)).trans (gL (bV _))))))))
theorem FD (s:Block) (x:dQ):dS (aV s) 171 (bB x) 204=aV { s with gI:=x }:=(aD rfl rfl (cU _)).trans (bN ((aD rfl rfl (aZ _)).trans (bN ((aD rfl rfl (aP _)).trans (bN ((aD rfl rfl (aP _)).trans (bN ((aD rfl rfl (aP _)).trans (bN ((aD rfl rfl (dZ _)).trans (bN ((aD rfl rfl (dZ _)).trans (bN (cK (bV _)))))))))))))))
theorem Jp (s:Block):(aV s)[171]? = some (.v (.int .u64 s.gI.aG)):=(aJ rfl (cU _)).trans ((aJ rfl (aZ _)).trans ((aJ rfl (aP _)).trans ((aJ rfl (aP _)).trans ((aJ rfl (aP _)).trans ((aJ rfl (dZ _)).trans ((aJ rfl (dZ _)).trans ((eP (by rw[bV];decide)).trans (kA _))))))))
theorem Ru (s:Block):rd (aV s) 204 33=bB s.fin:=(bE rfl (cU _)).trans ((bE rfl (aZ _)).trans ((bE rfl (aP _)).trans ((bE rfl (aP _)).trans ((bE rfl (aP _)).trans ((bE rfl (dZ _)).trans ((bE rfl (dZ _)).trans ((bE rfl (bV _)).trans (gL (bV _)))))))))
theorem LJ (s:Block) (x:dQ):dS (aV s) 204 (bB x) 237=aV { s with fin:=x }:=(aD rfl rfl (cU _)).trans (bN ((aD rfl rfl (aZ _)).trans (bN ((aD rfl rfl (aP _)).trans (bN ((aD rfl rfl (aP _)).trans (bN ((aD rfl rfl (aP _)).trans (bN ((aD rfl rfl (dZ _)).trans (bN ((aD rfl rfl (dZ _)).trans (bN ((aD rfl rfl (bV _)).trans (bN (cK (bV _)))))))))))))))))
theorem Lw (s:Block):(aV s)[204]? = some (.v (.int .u64 s.fin.aG)):=(aJ rfl (cU _)).trans ((aJ rfl (aZ _)).trans ((aJ rfl (aP _)).trans ((aJ rfl (aP _)).trans ((aJ rfl (aP _)).trans ((aJ rfl (dZ _)).trans ((aJ rfl (dZ _)).trans ((aJ rfl (bV _)).trans ((eP (by rw[bV];decide)).trans (kA _)))))))))
theorem Rv (s:Block) (x:cN):dS (aV s) 205 (bD x) 237=aV { s with fin:={ s.fin with root:=x }}:=(aD rfl rfl (cU _)).trans (bN ((aD rfl rfl (aZ _)).trans (bN ((aD rfl rfl (aP _)).trans (bN ((aD rfl rfl (aP _)).trans (bN ((aD rfl rfl (aP _)).trans (bN ((aD rfl rfl (dZ _)).trans (bN ((aD rfl rfl (dZ _)).trans (bN ((aD rfl rfl (bV _)).trans (bN ((vE (by rw[bV];decide)).trans (Hn (Gq _ x))))))))))))))))))
theorem Um (s:Block):(aV s)[237]? = some (.v (.bool s.Gg)):=(aJ rfl (cU _)).trans ((aJ rfl (aZ _)).trans ((aJ rfl (aP _)).trans ((aJ rfl (aP _)).trans ((aJ rfl (aP _)).trans ((aJ rfl (dZ _)).trans ((aJ rfl (dZ _)).trans ((aJ rfl (bV _)).trans ((aJ rfl (bV _)).trans (rfl)))))))))
theorem Xb (s:Block) (x:Bool):dS (aV s) 237 ([.v (.bool x)]) 238=aV { s with Gg:=x }:=(aD rfl rfl (cU _)).trans (bN ((aD rfl rfl (aZ _)).trans (bN ((aD rfl rfl (aP _)).trans (bN ((aD rfl rfl (aP _)).trans (bN ((aD rfl rfl (aP _)).trans (bN ((aD rfl rfl (dZ _)).trans (bN ((aD rfl rfl (dZ _)).trans (bN ((aD rfl rfl (bV _)).trans (bN ((aD rfl rfl (bV _)).trans (bN (eM (iB _)))))))))))))))))))
def dX:Block:=⟨Qd,0,dR,dR,dR,IJ,IJ,gP,gP,false⟩
def Jb:List Value:=Rt++([.int .u64 0]++(tO++(tO++(tO++(BZ++(BZ++(Dx++(Dx++([.bool false])))))))))
theorem Rw:Jb.map AV.v=aV dX:=by simp only[Jb,List.map_append,List.map_cons,List.map_nil,jN,jO,Uk,Bz];rfl
def YR:List Bool:=C2++([true]++(Jn++(Jn++(Jn++(C1++(C1++(Wi++(Wi++([false])))))))))
theorem Wj (a b:Block):iR YR (aV a) (aV b):=(gA (LI _ _) (gA (show iR [true] [_] [_] from ⟨rfl,trivial⟩) (gA (nN _ _) (gA (nN _ _) (gA (nN _ _) (gA (Oi _ _) (gA (Oi _ _) (gA (tF _ _) (gA (tF _ _) (show iR [false] [_] [_] from trivial))))))))))
theorem CC (a b:Block):aV a=aV b↔a=b:=by
 refine⟨fun h=>?_,fun h=>by rw[h]⟩
 cases a;cases b
 simp only[aV] at h;obtain⟨h0,h⟩:=List.append_inj h (by simp)
 obtain⟨h1,h⟩:=List.append_inj h (by simp)
 obtain⟨h2,h⟩:=List.append_inj h (by simp)
 obtain⟨h3,h⟩:=List.append_inj h (by simp)
 obtain⟨h4,h⟩:=List.append_inj h (by simp)
 obtain⟨h5,h⟩:=List.append_inj h (by simp)
 obtain⟨h6,h⟩:=List.append_inj h (by simp)
 obtain⟨h7,h⟩:=List.append_inj h (by simp)
 obtain⟨h8,h⟩:=List.append_inj h (by simp)
 have e0:=(SC _ _).1 h0
 have e1:=(Jm _ _).1 h1
 have e2:=(pZ _ _).1 h2
 have e3:=(pZ _ _).1 h3
 have e4:=(pZ _ _).1 h4
 have e5:=(Uj _ _).1 h5
 have e6:=(Uj _ _).1 h6
 have e7:=(mY _ _).1 h7
 have e8:=(mY _ _).1 h8
 have e9:=(II _ _).1 h
 subst e0 e1 e2 e3 e4 e5 e6 e7 e8 e9;rfl
theorem LK (s:Block):rd (aV s) 0 238=aV s:=jB (bS _)
theorem LM (s x:Block):dS (aV s) 0 (aV x) 238=aV x:=eM (bS _)
structure Node where
 block:Block
 up:Int
 status:Int
def fJ (s:Node):List AV:=aV s.block++(qR s.up++(qR s.status))
@[simp] theorem vN (s:Node):(fJ s).length=240:=by simp[fJ]
theorem Nh (s:Node):∀x∈fJ s,Flat x:=by
 intro x hx;simp only[fJ,List.mem_append,List.mem_singleton] at hx;rcases hx with hx|hx|hx
 ·(exact Ck _ _ hx)
 ·(exact mI _ _ hx)
 ·(exact mI _ _ hx)
theorem FE (s:Node):rd (fJ s) 0 238=aV s.block:=gL (bS _)
theorem FF (s:Node) (x:Block):dS (fJ s) 0 (aV x) 238=fJ { s with block:=x }:=cK (bS _)
theorem Jq (s:Node):rd (fJ s) 0 66=fM s.block.dW:=(sO (by rw[bS];decide)).trans (Ha _)
theorem Fc (s:Node):rd (fJ s) 0 33=bB s.block.dW.pj:=(sO (by rw[bS];decide)).trans (Aw _)
theorem wH (s:Node):(fJ s)[0]? = some (.v (.int .u64 s.block.dW.pj.aG)):=(eP (by rw[bS];decide)).trans (sC _)
theorem Fe (s:Node):rd (fJ s) 33 33=bB s.block.dW.pf:=(sO (by rw[bS];decide)).trans (Ax _)
theorem wI (s:Node):(fJ s)[33]? = some (.v (.int .u64 s.block.dW.pf.aG)):=(eP (by rw[bS];decide)).trans (sD _)
theorem Lx (s:Node):(fJ s)[66]? = some (.v (.int .u64 s.block.slot)):=(eP (by rw[bS];decide)).trans (Jo _)
theorem Ol (s:Node):rd (fJ s) 67 32=bD s.block.root:=(sO (by rw[bS];decide)).trans (Mr _)
theorem Ho (s:Node):rd (fJ s) 131 32=bD s.block.jL:=(sO (by rw[bS];decide)).trans (Fb _)
theorem Om (s:Node):rd (fJ s) 171 33=bB s.block.gI:=(sO (by rw[bS];decide)).trans (Ms _)
theorem Rx (s:Node):rd (fJ s) 204 33=bB s.block.fin:=(sO (by rw[bS];decide)).trans (Ru _)
theorem SE (s:Node):(fJ s)[238]? = some (.v (.int .i64 s.up)):=(aJ rfl (bS _)).trans (rfl)
theorem YS (s:Node) (x:Int):dS (fJ s) 238 ([.v (.int .i64 x)]) 239=fJ { s with up:=x }:=(aD rfl rfl (bS _)).trans (bN (cK (bJ _)))
theorem Gy (s:Node):(fJ s)[239]? = some (.v (.int .i64 s.status)):=(aJ rfl (bS _)).trans ((aJ rfl (bJ _)).trans (rfl))
theorem Ij (s:Node) (x:Int):dS (fJ s) 239 ([.v (.int .i64 x)]) 240=fJ { s with status:=x }:=(aD rfl rfl (bS _)).trans (bN ((aD rfl rfl (bJ _)).trans (bN (eM (bJ _)))))
def C3:Node:=⟨dX,0,0⟩
def CD:List Value:=Jb++([.int .i64 0]++([.int .i64 0]))
theorem LN:CD.map AV.v=fJ C3:=by simp only[CD,List.map_append,List.map_cons,List.map_nil,jN,jO,Rw];rfl
def aFW:List Bool:=YR++([true]++([true]))
theorem Ze (a b:Node):iR aFW (fJ a) (fJ b):=(gA (Wj _ _) (gA (show iR [true] [_] [_] from ⟨rfl,trivial⟩) (show iR [true] [_] [_] from ⟨rfl,trivial⟩)))
theorem M1 (a b:Node):fJ a=fJ b↔a=b:=by
 refine⟨fun h=>?_,fun h=>by rw[h]⟩
 cases a;cases b
 simp only[fJ] at h;obtain⟨h0,h⟩:=List.append_inj h (by simp)
 obtain⟨h1,h⟩:=List.append_inj h (by simp)
 have e0:=(CC _ _).1 h0
 have e1:=(xS _ _).1 h1
 have e2:=(xS _ _).1 h
 subst e0 e1 e2;rfl
theorem SF (s:Node):rd (fJ s) 0 240=fJ s:=jB (vN _)
theorem SG (s x:Node):dS (fJ s) 0 (fJ x) 240=fJ x:=eM (vN _)
def bU (l:List Node):List AV:=l.flatMap fJ
@[simp] theorem Ni (l:List (Node)):(bU l).length=l.length * 240:=by
 induction l with
 | nil=>rfl
 | cons x l ih=>simp only[bU,List.flatMap_cons,List.length_append,vN,List.length_cons] at *;omega
theorem gX (l:List (Node)):∀x∈bU l,Flat x:=by
 intro x hx;obtain⟨y,_,hy⟩:=List.mem_flatMap.1 hx
 exact Nh y x hy
theorem M3 (l:List (Node)) (i:Nat) (h:i<l.length):rd (bU l) (i * 240) 240=fJ l[i]:=Og fJ 240 (vN) l i h
structure Tree where
 nodes:List Node
def cO (s:Tree):List AV:=[.sl s.nodes.length (bU s.nodes)]
@[simp] theorem Un (s:Tree):(cO s).length=1:=by simp[cO]
theorem YT (s:Tree):∀x∈cO s,Flat x:=by
 intro x hx;simp only[cO,List.mem_append,List.mem_singleton] at hx;(subst hx;exact .sl _ _ (gX _))
theorem CE (s:Tree):(cO s)[0]? = some (.sl s.nodes.length (bU s.nodes)):=rfl
theorem SH (s:Tree):rd (cO s) 0 1=cO s:=jB (Un _)
theorem SI (s x:Tree):dS (cO s) 0 (cO x) 1=cO x:=eM (Un _)
end Go.Ab
end
section
namespace Go.Ab
open Classical
def yW (e sz by_:Nat) (v:Option (Nat × List AV)):Option (Option (Nat × Nat) × nP) :=
 match v with
 | some (m,news)=>if news.length=m * sz∧m * by_≤140737488355328∧m≤maxLen then some (none,.row e sz m news) else none
 | none=>none
def yL (e sz by_:Nat) (o:Option nP) (s g:Nat) (v:Option (Nat × List AV)):Option (Option (Nat × Nat) × nP) :=
 match o,v with
 | some (.row e' tU n cs),some (m,news)=>if news.length=m * sz∧e'=e∧tU=sz∧(n+m) * by_≤140737488355328∧n+m≤maxLen then some (some (s,g),.row e sz (n+m) (cs++news)) else none
 | _,_=>none
def acE (e sz by_ n:Nat) (cs:List AV) (v:Option (Nat × List AV)):Option (Option (Nat × Nat) × nP) :=
 match v with
 | some (m,news)=>if news.length=m * sz∧cs.length=n * sz∧(n=0∨0<m)∧(n+m) * by_≤140737488355328∧n+m≤maxLen then some (none,.row e sz (n+m) (cs++news)) else none
 | none=>none
section
variable {P:Program} {st:St} {T e sz by_:Nat}
theorem uU (hs:dT P T=some (e,sz,by_)) (x:AV):dH P st T (.v (.slice none 0 0)) x=yW e sz by_ (aX st x):=by
 simp only[dH,hs,yW];cases aX st x with
 | none=>rfl
 | some v =>
   obtain⟨m,news⟩:=v
   by_cases h1:news.length=m * sz<;>simp[h1]
theorem rU (hs:dT P T=some (e,sz,by_)) (s g:Nat) (x:AV):dH P st T (.own s g) x=yL e sz by_ (st.heap s g) s g (aX st x):=by
 simp only[dH,hs,yL];cases aX st x with
 | none=>cases st.heap s g with
   | none=>rfl
   | some o=>cases o<;>rfl
 | some v =>
   obtain⟨m,news⟩:=v
   cases st.heap s g with
   | none=>by_cases h1:news.length=m * sz<;>simp[h1]
   | some o =>
     cases o with
     | row a b n cs=>by_cases h1:news.length=m * sz<;>simp[h1]
     | _=>by_cases h1:news.length=m * sz<;>simp[h1]
theorem aHA (hs:dT P T=some (e,sz,by_)) (n:Nat) (cs:List AV) (x:AV):dH P st T (.cl n cs) x=acE e sz by_ n cs (aX st x):=by
 simp only[dH,hs,acE];cases aX st x with
 | none=>rfl
 | some v =>
   obtain⟨m,news⟩:=v
   by_cases h1:news.length=m * sz<;>simp[h1]
end
def NI (e sz:Nat) (o:Option nP) (s g:Nat) (i:Int):Option AV :=
 match o with
 | some (.row e' tU n _)=>if 0≤i∧i<n∧e'=e∧tU=sz then some (.ptr s g (i.toNat * sz)) else none
 | _=>none
theorem Lo {P:Program} {st:St} {T e sz by_:Nat} (hn:jK P T=none) (hs:dT P T=some (e,sz,by_)) (s g:Nat) (k:IntKind) (i:Int):bH P st T (.own s g) (.v (.int k i))=NI e sz (st.heap s g) s g i:=by
 simp only[bH,hn,hs,NI];cases st.heap s g with
 | none=>rfl
 | some e=>cases e<;>rfl
theorem aDO (e sz n:Nat) (cs:List AV) (s g:Nat) (i:Int) (h0:0≤i) (h1:i<n):NI e sz (some (.row e sz n cs)) s g i=some (.ptr s g (i.toNat * sz)):=by
 simp[NI,h0,h1]
theorem Uo [Ext] {P:Program} {S e sz by_:Nat} {z:List Value} (hs:dT P S=some (e,sz,by_)) (hz:eH P e=some z) {call:Nat→List AV→Option AV} {ops:Array Oper} {st:St} {T:Nat} {pos:String} {eW:Array Edge} (d:Nat) :
 cH P call ops ⟨some d,.buildSlice S 0 #[],T,pos,eW,none⟩ st=some ((st.new d (.row e sz 0 [])).put (some d) (.own d (st.aU d))):=by
 rw[lA,hs];simp[cT,hz,gT]
def elV {α:Type} (x:AV) (k:Value→Option α) (fb:Option α):Option α :=
 match x with
 | .v y=>if y.oneCell'=true then k y else fb
 | _=>fb
theorem aDQ {α:Type} (kk:IntKind) (n:Int) (k:Value→Option α) (fb:Option α):elV (.v (.int kk n)) k fb=k (.int kk n):=rfl
theorem aBa {α:Type} (n:Bool) (k:Value→Option α) (fb:Option α):elV (.v (.bool n)) k fb=k (.bool n):=rfl
@[congr] theorem aJI {α:Type} {x y:AV} {k:Value→Option α} {fb:Option α} (h:x=y):elV x k fb=elV y k fb:=by rw[h]
theorem LP [Ext] {P:Program} {S e by_:Nat} {z:Value} (hs:dT P S=some (e,1,by_)) (hz:eH P e=some [z]) {call:Nat→List AV→Option AV} {ops:Array Oper} {st:St} {T:Nat} {pos:String} {eW:Array Edge} (d:Nat) (x:Operand) :
 cH P call ops ⟨some d,.buildSlice S 1 #[(0,x)],T,pos,eW,none⟩ st=elV (st.ev x) (fun y=>some ((st.new d (.row e 1 1 [.v y])).put (some d) (.own d (st.aU d)))) (cH P call ops ⟨some d,.buildSlice S 1 #[(0,x)],T,pos,eW,none⟩ st):=by
 unfold elV;split
 ·rename_i y h;split
  ·rename_i hy;rw[lA,hs];simp[hz,cT,h,AV.jE,hy,gT,AV.cells]
  ·rfl
 ·rfl
def M4 {α:Type} (z:Nat) (x:AV) (k:List AV→Option α) (fb:Option α):Option α :=
 match x with
 | .agg cs=>if cs.length=z then k cs else fb
 | _=>fb
theorem aDR {α:Type} (z:Nat) (cs:List AV) (k:List AV→Option α) (fb:Option α) (h:cs.length=z):M4 z (.agg cs) k fb=k cs:=if_pos h
@[congr] theorem aJJ {α:Type} {z:Nat} {x y:AV} {k:List AV→Option α} {fb:Option α} (h:x=y):M4 z x k fb=M4 z y k fb:=by rw[h]
theorem Cl [Ext] {P:Program} {S e sz by_:Nat} {z:List Value} (hs:dT P S=some (e,sz,by_)) (hz:eH P e=some z) (hl:z.length=sz) (hm:sz≤2 ^ 24) {call:Nat→List AV→Option AV} {ops:Array Oper} {st:St} {T:Nat} {pos:String} {eW:Array Edge} (d:Nat) (x:Operand) :
 cH P call ops ⟨some d,.buildSlice S 1 #[(0,x)],T,pos,eW,none⟩ st=M4 sz (st.ev x) (fun cs=>some ((st.new d (.row e sz 1 cs)).put (some d) (.own d (st.aU d)))) (cH P call ops ⟨some d,.buildSlice S 1 #[(0,x)],T,pos,eW,none⟩ st):=by
 unfold M4;split
 ·rename_i cs h;split
  ·rename_i hc;have h2:((List.range 1).flatMap fun _=>z.map AV.v)=z.map AV.v:=by simp[List.range,List.range.loop]
   have hzl:(z.map AV.v).length=sz:=by simpa using hl
   rw[lA,hs];simp only[hz,cT,List.toList_toArray,List.all_cons,List.all_nil,h,AV.jE,Bool.and_self,List.map_cons,List.map_nil,gT,AV.cells,hc,Nat.zero_mul,Nat.zero_add,List.take_zero,List.nil_append];rw[h2,if_pos (by simpa using hm),if_pos (by simp[hzl])]
   rw[List.drop_of_length_le (by rw[hzl];exact Nat.le_refl _),List.append_nil]
  ·rfl
 ·rfl
theorem Kk {e sz by_ s g n:Nat} {cs:List AV} (hl:cs.length=n * sz) (hb:(n:Int) * by_≤140737488355328) (hm:(n:Int)≤maxLen):yL e sz by_ (some (.row e sz 0 [])) s g (some (n,cs))=some (some (s,g),.row e sz n cs):=by
 simp only[yL];simp only[Nat.zero_add,true_and,List.nil_append];have oB:n * by_≤140737488355328:=by
  have:((n * by_:Nat):Int)≤140737488355328:=by rw[Int.natCast_mul];exact hb
  omega
 rw[if_pos ⟨hl,oB,by omega⟩]
end Go.Ab
end
section
namespace Go.Ab
open Classical
variable [Ext]
@[congr] theorem aJK {P:Program} {bi:Bool} {c:Code} {s t:St} (h:s=t):xE P bi c s=xE P bi c t:=by rw[h]
theorem M5 {P:Program} {bi:Bool} (c:Operand) (a b:Code) (st:St):xE P bi (.cond c a b) st=onB (st.ev c) fun t=>if t=true then xE P bi a st else xE P bi b st:=by
 cases h:st.ev c with
 | v x =>
   cases x with
   | bool t=>exact RP P c a b st h
   | _ =>
     apply Option.ext
     intro r;rw[gR];constructor
     ·rintro⟨n,m,h'⟩
      cases m with
      | zero=>simp[uY] at h'
      | succ m=>simp[uY,h] at h'
     ·intro h';simp[onB] at h'
 | _ =>
   apply Option.ext
   intro r;rw[gR];constructor
   ·rintro⟨n,m,h'⟩
    cases m with
    | zero=>simp[uY] at h'
    | succ m=>simp[uY,h] at h'
   ·intro h';simp[onB] at h'
section
variable {P:Program} {call:Nat→List AV→Option AV} {inl:Nat→List AV→St→Option (AV × St)} {ops:Array Oper} {st:St}
theorem YU:mK P true call inl ops [] st=some st:=rfl
theorem SJ (o:Oper) (l:List Oper):mK P true call inl ops (o :: l) st=cT (gU P true call inl ops o st) (mK P true call inl ops l):=rfl
@[congr] theorem aFX {o:Oper} {s t:St} (h:s=t):gU P true call inl ops o s=gU P true call inl ops o t:=by rw[h]
theorem aBb {o:Oper} (h:Gv o=none):gU P true call inl ops o st=cH P call ops o st:=by
 unfold gU;rw[if_pos rfl,h]
theorem M6 {d:Option Nat} {g:Nat} {args:Array Operand} {tR:Array Nat} {T:Nat} {pos:String} {eW:Array Edge} (h:Ext.inl g d=true) :
 gU P true call inl ops ⟨d,.call ⟨.value (.func g),args,tR⟩,T,pos,eW,none⟩ st=cT (inl g (args.toList.map st.ev) st) fun r=>some ((st.back r.2).put d r.1):=by
 have e:Gv ⟨d,.call ⟨.value (.func g),args,tR⟩,T,pos,eW,none⟩=some (g,args.toList):=by
  unfold Gv;simp only
  rw[if_pos h]
 unfold gU;rw[if_pos rfl,e];simp only[gv,if_true];cases inl g (args.toList.map st.ev) st<;>rfl
end
theorem bQ (st s:St):(st.back s).env=st.env:=rfl
theorem aQ (st s:St):(st.back s).heap=s.heap:=rfl
theorem aW (st s:St):(st.back s).aU=s.aU:=rfl
theorem xG {P:Program} {fn:Func} {st:St} {e:Ex} {r:ResultVar} {x:AV} (he:e=.ret∨e=.normal) (hr:fn.results.toList=[r]) (h1:lP P st r=some x):aHs P fn (e,st)=some (x,st):=by
 have h:Bp P fn st=some x:=by
  unfold Bp;rw[hr];exact h1
 rcases he with rfl|rfl<;>simp only[aHs,h,Option.map_some]
theorem YV {P:Program} {bi:Bool} {b:Code} (Inv:Nat→St→Prop) (Q:Ex→St→Prop)
 (step:∀n st,Inv n st→∃e st',xE P bi b st=some (e,st')∧((e=.normal∧∃m,m<n∧Inv m st')∨(e≠.normal∧Q e st'))):∀n st,Inv n st→∃e st',xE P bi (.loop b) st=some (e,st')∧e≠.normal∧Q e st':=by
 intro n;induction n using Nat.strongRecOn with
 | _ n ih =>
   intro st h;obtain⟨e,s1,h1,h2⟩:=step n st h
   rw[RO,h1];rcases h2 with ⟨rfl,m,hm,hi⟩|⟨fQ,hq⟩
   ·exact ih m hm s1 hi
   ·refine⟨e,s1, ?_,fQ,hq⟩
    cases e with
    | normal=>exact absurd rfl fQ
    | _=>rfl
theorem kS {P:Program} {bi:Bool} {b:Code} {st:St} {β:Type} {k:Ex × St→Option β} {R:β→Prop} (Inv:Nat→St→Prop) (Q:Ex→St→Prop) (n:Nat)
 (step:∀n st,Inv n st→∃e st',xE P bi b st=some (e,st')∧((e=.normal∧∃m,m<n∧Inv m st')∨(e≠.normal∧Q e st')))
 (start:Inv n st) (rest:∀e st',Q e st'→∃r,k (e,st')=some r∧R r):∃r,cT (xE P bi (.loop b) st) k=some r∧R r:=by
 obtain⟨e,s1,h1,h2,h3⟩:=YV Inv Q step n st start
 rw[h1];exact rest e s1 h3
theorem aHB {P:Program} {bi:Bool} {b:Code} {st st':St} {n:Nat} {Inv:Nat→St→Prop} {Q:Ex→St→Prop} (h:xE P bi b st=some (.normal,st')) (m:Nat) (hm:m<n) (hi:Inv m st') :
 ∃e st',xE P bi b st=some (e,st')∧((e=.normal∧∃m,m<n∧Inv m st')∨(e≠.normal∧Q e st')):=⟨_,_,h,.inl ⟨rfl,m,hm,hi⟩⟩
theorem aDS {P:Program} {bi:Bool} {b:Code} {st st':St} {e:Ex} {n:Nat} {Inv:Nat→St→Prop} {Q:Ex→St→Prop} (h:xE P bi b st=some (e,st')) (he:e≠.normal) (hq:Q e st') :
 ∃e st',xE P bi b st=some (e,st')∧((e=.normal∧∃m,m<n∧Inv m st')∨(e≠.normal∧Q e st')):=⟨_,_,h,.inr ⟨he,hq⟩⟩
theorem SK {P:Program} {id:Nat} {ops:Array Oper} {d:Bool} {st:St} {l:List (Nat × Nat)} (h:Ext.dyn id ops.size (sI ops)=l) :
 xE P true (.region id ops d) st=cT (mK P true (aB P) (pR P) ops ops.toList st) fun s=>if qG ops s l then some (.normal,s) else none:=by
 rw[BW];congr 1
 funext s
 rw[h];by_cases hf:qG ops s l
 ·rw[if_pos hf,if_neg];rintro⟨_,hn⟩
  exact hn hf
 ·rw[if_neg hf,if_pos ⟨rfl,hf⟩]
theorem M7 (ops:Array Oper) (s:St):qG ops s []=True:=rfl
theorem YW (ops:Array Oper) (s:St) (p:Nat × Nat) (l:List (Nat × Nat)):qG ops s (p :: l)=(Yk ops s p∧qG ops s l):=rfl
def SL (s:St) (x y:Option (List Nat)):Prop:=match x,y with|some aS,some bs=>Mz s aS bs|_,_=>False
theorem M8 (ops:Array Oper) (s:St) (i j:Nat):Yk ops s (i,j)=SL s ((ops[i]?).bind iA) ((ops[j]?).bind iA):=rfl
theorem aBc (s:St) (a b:Nat):SL s (some [a]) (some [b])=fK (s.env a) (s.env b):=by simp[SL,Mz]
theorem aBd (s:St) (a a' b:Nat):SL s (some [a,a']) (some [b])=(fK (s.env a) (s.env b)∧fK (s.env a') (s.env b)):=by simp[SL,Mz]
@[congr] theorem aBe {x y x' y':AV} (h:x=x') (h':y=y'):fK x y=fK x' y':=by rw[h,h']
theorem SM (s g o s' g' o':Nat):fK (.ptr s g o) (.ptr s' g' o')=((s,g)≠(s',g')):=rfl
theorem SN (s g o s' g':Nat):fK (.ptr s g o) (.own s' g')=((s,g)≠(s',g')):=rfl
theorem SO (s g s' g' o':Nat):fK (.own s g) (.ptr s' g' o')=((s,g)≠(s',g')):=rfl
theorem SP (x:Value) (s g o:Nat):fK (.v x) (.ptr s g o)=True:=rfl
theorem SQ (x:Value) (s g o:Nat):fK (.ptr s g o) (.v x)=True:=rfl
theorem SR (s g n:Nat) (cs:List AV):fK (.own s g) (.sl n cs)=True:=rfl
theorem SS (s g n:Nat) (cs:List AV):fK (.sl n cs) (.own s g)=True:=rfl
theorem SU (s g o n:Nat) (cs:List AV):fK (.sl n cs) (.ptr s g o)=True:=rfl
theorem SW (s g o n:Nat) (cs:List AV):fK (.ptr s g o) (.sl n cs)=True:=rfl
theorem SX (n m:Nat) (cs ds:List AV):fK (.sl n cs) (.sl m ds)=True:=rfl
theorem SY (s g:Nat) (x:Value):fK (.own s g) (.v x)=True:=rfl
theorem SZ (s g:Nat) (x:Value):fK (.v x) (.own s g)=True:=rfl
theorem TA (x:Value) (n:Nat) (cs:List AV):fK (.v x) (.sl n cs)=True:=rfl
theorem TB (x:Value) (n:Nat) (cs:List AV):fK (.sl n cs) (.v x)=True:=rfl
def aBf (x y:AV):Option AV :=
 match x,y with
 | .v (.int k a),.v (.int _ b)=>some (.v (.int k (if b<a then b else a)))
 | _,_=>none
def aBg (x y:AV):Option AV :=
 match x,y with
 | .v (.int k a),.v (.int _ b)=>some (.v (.int k (if b > a then b else a)))
 | _,_=>none
theorem Ff (k k':IntKind) (a b:Int):aBf (.v (.int k a)) (.v (.int k' b))=some (.v (.int k (if b<a then b else a))):=rfl
theorem Fg (k k':IntKind) (a b:Int):aBg (.v (.int k a)) (.v (.int k' b))=some (.v (.int k (if a<b then b else a))):=rfl
@[congr] theorem aHC {x y x' y':AV} (h:x=x') (h':y=y'):aBf x y=aBf x' y':=by rw[h,h']
@[congr] theorem aHD {x y x' y':AV} (h:x=x') (h':y=y'):aBg x y=aBg x' y':=by rw[h,h']
theorem Up {P:Program} {call:Nat→List AV→Option AV} {ops:Array Oper} {st:St} {d:Option Nat} {T:Nat} {pos:String} {eW:Array Edge} (x y:Operand) (tR:Array Nat) :
 cH P call ops ⟨d,.call ⟨.builtin .min,#[x,y],tR⟩,T,pos,eW,none⟩ st=cT (aBf (st.ev x) (st.ev y)) fun v=>some (st.put d v):=by
 rw[eD];simp only[dP,iS,aBf];cases st.ev x with
 | v a=>cases a with
   | int k a=>cases st.ev y with
     | v b=>cases b<;>rfl
     | _=>rfl
   | _=>rfl
 | _=>rfl
theorem Uq {P:Program} {call:Nat→List AV→Option AV} {ops:Array Oper} {st:St} {d:Option Nat} {T:Nat} {pos:String} {eW:Array Edge} (x y:Operand) (tR:Array Nat) :
 cH P call ops ⟨d,.call ⟨.builtin .max,#[x,y],tR⟩,T,pos,eW,none⟩ st=cT (aBg (st.ev x) (st.ev y)) fun v=>some (st.put d v):=by
 rw[eD];simp only[dP,iS,aBg];cases st.ev x with
 | v a=>cases a with
   | int k a=>cases st.ev y with
     | v b=>cases b<;>rfl
     | _=>rfl
   | _=>rfl
 | _=>rfl
noncomputable def mvE (call:Nat→List AV→Option AV) (g:Nat) (rest:List AV) (s k d c:Nat) (o:Option nP):Option rX :=
 match o with
 | some (.row e sz n cs) =>
   if (∀c∈cs,Flat c)∧∀x∈rest,Flat x then
    match call g (.uniq e sz n cs :: rest) with
    | some (.uniq e' tU n' Fq)=>some { dst:=some d,val:=.own d c,dS:=some (s,k,none),new:=some (d,[.row e' tU n' Fq])}
    | some (.eG [.uniq e' tU n' Fq])=>some { dst:=some d,val:=.eG [],dS:=some (s,k,some (.row e' tU n' Fq))}
    | _=>none
   else none
 | _=>none
theorem YX (call:Nat→List AV→Option AV) (g s k d:Nat) (rest:List AV) (st:St):lN call g (.own s k :: rest) st (some d)=mvE call g rest s k d (st.aU d) (st.heap s k):=by
 unfold lN mvE;simp only
 cases st.heap s k with
 | none=>rfl
 | some o =>
   cases o with
   | row e sz n cs =>
     simp only
     by_cases hc:(∀c∈cs,Flat c)∧∀x∈rest,Flat x
     ·simp only[if_pos hc];cases call g (.uniq e sz n cs :: rest) with
      | none=>rfl
      | some r =>
        cases r with
        | eG vs =>
          cases vs with
          | nil=>rfl
          | cons x xs =>
            cases x with
            | uniq _ _ _ _=>cases xs<;>rfl
            | _=>rfl
        | _=>rfl
     ·simp only[if_neg hc]
   | _=>rfl
theorem X5 {call:Nat→List AV→Option AV} {g:Nat} {rest:List AV} {s k d c e sz n e' tU n':Nat} {cs Fq:List AV} (hf:∀c∈cs,Flat c) (hr:∀x∈rest,Flat x) (hc:call g (.uniq e sz n cs :: rest)=some (.uniq e' tU n' Fq)) :
 mvE call g rest s k d c (some (.row e sz n cs))=some { dst:=some d,val:=.own d c,dS:=some (s,k,none),new:=some (d,[.row e' tU n' Fq])}:=by
 unfold mvE;simp only
 rw[if_pos ⟨hf,hr⟩,hc]
@[congr] theorem aJL {call:Nat→List AV→Option AV} {g:Nat} {rest:List AV} {s k d c c':Nat} {o o':Option nP} (h:c=c') (h':o=o'):mvE call g rest s k d c o=mvE call g rest s k d c' o':=by rw[h,h']
theorem WR {call:Nat→List AV→Option AV} {g d:Nat} {rest:List AV} {st:St} {e sz n:Nat} {cs:List AV} (hr:∀x∈rest,Flat x) (hc:call g (.v (.slice none 0 0) :: rest)=some (.uniq e sz n cs)) :
 lN call g (.v (.slice none 0 0) :: rest) st (some d)=some { dst:=some d,val:=.own d (st.aU d),new:=some (d,[.row e sz n cs])}:=by
 have hf:∀x∈AV.v (.slice none 0 0) :: rest,Flat x:=by
  intro x hx;rcases List.mem_cons.1 hx with rfl|hx
  ·exact .v _
  ·exact hr x hx
 have hnf:¬Flat (.uniq e sz n cs):=by intro h;cases h
 unfold lN;simp only[if_pos hf];unfold aO;rw[if_pos hf,hc];simp only[cT];unfold jD;rw[if_neg hnf];rfl
theorem X4 {P:Program} {fn:Func} {st:St} {e:Ex} {r:ResultVar} {s g ee sz n:Nat} {cs:List AV} (he:e=.ret∨e=.normal) (hr:fn.results.toList=[r]) (h1:lP P st r=some (.own s g)) (h2:st.heap s g=some (.row ee sz n cs)) (hm:∀c∈cs,iD c) :
 X3 P fn (e,st)=some (.uniq ee sz n cs):=by
 have h:Kg P fn st=some (.uniq ee sz n cs):=by
  unfold Kg;rw[hr];simp only[h1,h2];rw[if_pos hm]
 rcases he with rfl|rfl<;>exact h
theorem mM (e sz n:Nat) (cs rest:List AV):(St.tH e sz n cs rest).env 0=.own 0 0:=rfl
theorem oJ (e sz n:Nat) (cs rest:List AV) (t:Nat):(St.tH e sz n cs rest).env (t+1)=(rest[t]?).getD (.v undef):=rfl
theorem mN (e sz n:Nat) (cs rest:List AV):(St.tH e sz n cs rest).heap 0 0=some (.row e sz n cs):=rfl
theorem mO (e sz n:Nat) (cs rest:List AV):(St.tH e sz n cs rest).aU 0=1:=rfl
theorem oK (e sz n:Nat) (cs rest:List AV) (s:Nat) (h:s≠0):(St.tH e sz n cs rest).aU s=0:=if_neg h
end Go.Ab
end
section
namespace Go.Ab
open Classical
variable [Ext]
theorem Qo {P:Program} {a:Code} {st:St} {β:Type} {k:Ex × St→Option β} {R:β→Prop} (Q:Ex→St→Prop) (h:∃e st',Aa P a st=some (e,st')∧Q e st')
 (rest:∀e st',Q e st'→∃r,k (e,st')=some r∧R r):∃r,cT (Aa P a st) k=some r∧R r:=by
 obtain⟨e,s1,h1,h2⟩:=h
 rw[h1];exact rest e s1 h2
theorem Kq {P:Program} {bi:Bool} {a:Code} {st:St} {β:Type} {k:Ex × St→Option β} {R:β→Prop} (Q:Ex→St→Prop) (h:∃e st',xE P bi a st=some (e,st')∧Q e st')
 (rest:∀e st',Q e st'→∃r,k (e,st')=some r∧R r):∃r,cT (xE P bi a st) k=some r∧R r:=by
 obtain⟨e,s1,h1,h2⟩:=h
 rw[h1];exact rest e s1 h2
theorem iT {β:Type} {x:Option β} {v:β} (h:∃r,x=some r∧r=v):x=some v:=by
 obtain⟨r,h,rfl⟩:=h;exact h
theorem TC {P:Program} {id:Nat} {ops:Array Oper} {d:Bool} {st:St} :
 xE P true (.region id ops d) st=cT (mK P true (aB P) (pR P) ops ops.toList st) fun s=>if qG ops s (Ext.dyn id ops.size (sI ops)) then some (.normal,s) else none:=SK rfl
theorem YY (o:Oper) (l:List Oper):sI (o :: l).toArray=o.dst:=by simp[sI]
section
variable {P:Program} {call:Nat→List AV→Option AV} {inl:Nat→List AV→St→Option (AV × St)} {ops:Array Oper} {st:St} {d:Option Nat} {T:Nat} {pos:String} {eW:Array Edge} {g:Option (Nat × Bool)}
theorem aDT (x:Operand):gU P true call inl ops ⟨d,.move x,T,pos,eW,g⟩ st=cH P call ops ⟨d,.move x,T,pos,eW,g⟩ st:=rfl
theorem M9 (x:Operand):gU P true call inl ops ⟨d,.assign x,T,pos,eW,g⟩ st=cH P call ops ⟨d,.assign x,T,pos,eW,g⟩ st:=rfl
theorem aDU (x y z:Operand):gU P true call inl ops ⟨d,.pick x y z,T,pos,eW,g⟩ st=cH P call ops ⟨d,.pick x y z,T,pos,eW,g⟩ st:=rfl
theorem aBh (S:Nat):gU P true call inl ops ⟨d,.alloc S,T,pos,eW,g⟩ st=cH P call ops ⟨d,.alloc S,T,pos,eW,g⟩ st:=rfl
theorem aHE (S:Nat) (x:Operand):gU P true call inl ops ⟨d,.box S x,T,pos,eW,g⟩ st=cH P call ops ⟨d,.box S x,T,pos,eW,g⟩ st:=rfl
theorem aBi (S:Nat) (x:Array (Nat × Operand)):gU P true call inl ops ⟨d,.build S x,T,pos,eW,g⟩ st=cH P call ops ⟨d,.build S x,T,pos,eW,g⟩ st:=rfl
theorem FG (S n:Nat) (x:Array (Nat × Operand)):gU P true call inl ops ⟨d,.buildSlice S n x,T,pos,eW,g⟩ st=cH P call ops ⟨d,.buildSlice S n x,T,pos,eW,g⟩ st:=rfl
theorem LQ (S:Nat) (x y:Operand):gU P true call inl ops ⟨d,.makeSlice S x y,T,pos,eW,g⟩ st=cH P call ops ⟨d,.makeSlice S x y,T,pos,eW,g⟩ st:=rfl
theorem TE (f:Fn) (x y:Array Operand):gU P true call inl ops ⟨d,.makeFunc f x y,T,pos,eW,g⟩ st=cH P call ops ⟨d,.makeFunc f x y,T,pos,eW,g⟩ st:=rfl
theorem aDV (S:Nat) (x:Operand):gU P true call inl ops ⟨d,.load S x,T,pos,eW,g⟩ st=cH P call ops ⟨d,.load S x,T,pos,eW,g⟩ st:=rfl
theorem aBj (S:Nat) (x y:Operand):gU P true call inl ops ⟨d,.store S x y,T,pos,eW,g⟩ st=cH P call ops ⟨d,.store S x y,T,pos,eW,g⟩ st:=rfl
theorem aBk (o:BinOp) (S S':Nat) (x y:Operand):gU P true call inl ops ⟨d,.binOp o S x y S',T,pos,eW,g⟩ st=cH P call ops ⟨d,.binOp o S x y S',T,pos,eW,g⟩ st:=rfl
theorem aDW (o:UnOp) (S:Nat) (x:Operand):gU P true call inl ops ⟨d,.unOp o S x,T,pos,eW,g⟩ st=cH P call ops ⟨d,.unOp o S x,T,pos,eW,g⟩ st:=rfl
theorem LR (S f:Nat) (x:Operand):gU P true call inl ops ⟨d,.fieldAddr S x f,T,pos,eW,g⟩ st=cH P call ops ⟨d,.fieldAddr S x f,T,pos,eW,g⟩ st:=rfl
theorem aBl (S f:Nat) (x:Operand):gU P true call inl ops ⟨d,.field S x f,T,pos,eW,g⟩ st=cH P call ops ⟨d,.field S x f,T,pos,eW,g⟩ st:=rfl
theorem LS (S:Nat) (x y:Operand):gU P true call inl ops ⟨d,.indexAddr S x y,T,pos,eW,g⟩ st=cH P call ops ⟨d,.indexAddr S x y,T,pos,eW,g⟩ st:=rfl
theorem YZ (S S':Nat) (x:Operand):gU P true call inl ops ⟨d,.convert S S' x,T,pos,eW,g⟩ st=cH P call ops ⟨d,.convert S S' x,T,pos,eW,g⟩ st:=rfl
theorem ZA (x:Operand) (i:Nat):gU P true call inl ops ⟨d,.extract x i,T,pos,eW,g⟩ st=cH P call ops ⟨d,.extract x i,T,pos,eW,g⟩ st:=rfl
theorem aBm (S:Nat) (x:Operand) (a b c:Option Operand):gU P true call inl ops ⟨d,.slice S x a b c,T,pos,eW,g⟩ st=cH P call ops ⟨d,.slice S x a b c,T,pos,eW,g⟩ st:=rfl
theorem ZB (b:Builtin) (x:Array Operand) (y:Array Nat):gU P true call inl ops ⟨d,.call ⟨.builtin b,x,y⟩,T,pos,eW,g⟩ st=cH P call ops ⟨d,.call ⟨.builtin b,x,y⟩,T,pos,eW,g⟩ st:=rfl
theorem aHF (t:Nat) (x:Array Operand) (y:Array Nat):gU P true call inl ops ⟨d,.call ⟨.value (.tmp t),x,y⟩,T,pos,eW,g⟩ st=cH P call ops ⟨d,.call ⟨.value (.tmp t),x,y⟩,T,pos,eW,g⟩ st:=rfl
theorem aDX (f:Nat) (x:Array Operand) (y:Array Nat) (h:Ext.inl f d=false):gU P true call inl ops ⟨d,.call ⟨.value (.func f),x,y⟩,T,pos,eW,g⟩ st=cH P call ops ⟨d,.call ⟨.value (.func f),x,y⟩,T,pos,eW,g⟩ st:=aBb (by unfold Gv;simp[h])
theorem XA (f:Nat) (x:Array Operand) (y:Array Nat) (h:Ext.inl f d=true):gU P true call inl ops ⟨d,.call ⟨.value (.func f),x,y⟩,T,pos,eW,none⟩ st=cT (inl f (x.toList.map st.ev) st) fun r=>some ((st.back r.2).put d r.1):=M6 h
theorem aDY (S a:Nat):iA ⟨d,.load S (.tmp a),T,pos,eW,none⟩=some [a]:=rfl
theorem aBn (S a:Nat) (x:Operand):iA ⟨d,.store S (.tmp a) x,T,pos,eW,none⟩=some [a]:=rfl
theorem aBo (S a:Nat) (x:Operand):iA ⟨d,.indexAddr S (.tmp a) x,T,pos,eW,none⟩=some [a]:=rfl
theorem aBp (S a:Nat) (x y z:Option Operand):iA ⟨d,.slice S (.tmp a) x y z,T,pos,eW,none⟩=some [a]:=rfl
theorem aHG (a:Nat) (y:Array Nat):iA ⟨d,.call ⟨.builtin .len,#[.tmp a],y⟩,T,pos,eW,none⟩=some [a]:=rfl
theorem N0 (a b:Nat) (y:Array Nat):iA ⟨d,.call ⟨.builtin .append,#[.tmp a,.tmp b],y⟩,T,pos,eW,none⟩=some [a,b]:=rfl
theorem aBq (f a:Nat) (b:Operand) (y:Array Nat) (h:Ext.mv f=true):iA ⟨d,.call ⟨.value (.func f),#[.tmp a,b],y⟩,T,pos,eW,none⟩=some [a]:=by simp[iA,h]
end
end Go.Ab
end
