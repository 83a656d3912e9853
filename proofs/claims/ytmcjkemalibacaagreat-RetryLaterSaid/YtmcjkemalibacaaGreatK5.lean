/-
  Part 5 of the proof: an evaluator of programs, its soundness, and what functions of this program compute.
-/
import Derived.Test.YtmcjkemalibacaaGreatK4
set_option linter.all false
set_option maxRecDepth 20000
set_option maxHeartbeats 40000000
section
namespace Go.Ab
open Classical
variable [Ext]
def rd (cs:List AV) (o k:Nat):List AV:=(cs.drop o).take k
def onB {α:Type} (x:AV) (k:Bool->Option α):Option α :=
 match x with
 | .v (.bool b)=>k b
 | _=>none
section
variable (P:Program)
def fC (T:Nat) (cs:List AV) (o:Nat):Option AV :=
 match fR P T with
 | some (true,k)=>if 0<k/\k<=cs.length-o then some (.agg (rd cs o k)) else none
 | some (false,_)=>cs[o]?
 | none=>none
def He (st:St) (T:Nat) (x:AV):Option AV :=
 match x with
 | .ip cs o=>fC P T cs o
 | .ptr s g o =>
   match st.heap s g with
   | some (.cells cs)=>fC P T cs o
   | some (.row _ _ _ cs)=>fC P T cs o
   | some (.Dh _ _ _ cs)=>fC P T cs o
   | _=>none
 | _=>none
theorem Yw (T:Nat) (cs:List AV) (o:Nat):yQ P T (cs.drop o)=fC P T cs o:=by
 unfold yQ fC;cases fR P T with
 | none=>rfl
 | some bk =>
   obtain⟨b,k⟩:=bk
   cases b
   ·simp
   ·simp[rd]
theorem Rr (st:St) (T:Nat) (x:AV):cA (qP st x) (yQ P T)=He P st T x:=by
 cases x<;>simp only[qP,cA,He,Yw]
 split<;>rename_i h
 ·split at h
  ·rename_i h';cases h;rw[h'];exact Yw P T _ _
  ·rename_i h';cases h;rw[h'];exact Yw P T _ _
  ·rename_i h';cases h;rw[h'];exact Yw P T _ _
  ·cases h
 ·split at h
  ·cases h
  ·cases h
  ·cases h
  ·rename_i h1 h2 h3;split<;>first|rfl|(rename_i h';first|exact absurd h' (h1 _)|exact absurd h' (h2 _ _ _ _)|exact absurd h' (h3 _ _ _ _))
def Yx (st:St) (T:Nat) (a x:AV):Option St:=(pZ P st T a x).map fun u=>st.gT u.1 u.2.1 (some u.2.2)
variable {P}
variable {call:Nat->List AV->Option AV} {ops:Array Oper} {st:St} {d:Option Nat} {T:Nat} {pos:String} {eK:Array Edge}
@[congr] theorem aLI {α β:Type} {x y:Option α} {f:α->Option β} (h:x=y):cA x f=cA y f:=by rw[h]
@[congr] theorem aLJ {α:Type} {x y:AV} {k:Bool->Option α} (h:x=y):onB x k=onB y k:=by rw[h]
@[congr] theorem aHw {l:List Oper} {s t:St} (h:s=t):Pp P call ops l s=Pp P call ops l t:=by rw[h]
@[congr] theorem aJq {o:Oper} {s t:St} (h:s=t):cE P call ops o s=cE P call ops o t:=by rw[h]
@[congr] theorem aLK {c:Code} {s t:St} (h:s=t):Ac P c s=Ac P c t:=by rw[h]
theorem cI {α β:Type} (a:α) (f:α->Option β):cA (some a) f=f a:=rfl
theorem Al {α β:Type} (f:α->Option β):cA none f=none:=rfl
theorem Em {α:Type} (b:Bool) (k:Bool->Option α):onB (.v (.bool b)) k=k b:=rfl
theorem zO:Pp P call ops [] st=some st:=rfl
theorem wL (o:Oper) (l:List Oper):Pp P call ops (o :: l) st=cA (cE P call ops o st) (Pp P call ops l):=rfl
theorem dS (op:Op):cE P call ops ⟨d,op,T,pos,eK,none⟩ st=(cZ P call ⟨d,op,T,pos,eK,none⟩ st).map fun e=>e.apply st:=rfl
theorem Lg (x:Operand):cE P call ops ⟨d,.move x,T,pos,eK,none⟩ st=some (st.put d (st.ev x)):=rfl
theorem zP (x:Operand):cE P call ops ⟨d,.assign x,T,pos,eK,none⟩ st=some (st.put d (st.ev x)):=rfl
theorem Lh (c a b:Operand):cE P call ops ⟨d,.pick c a b,T,pos,eK,none⟩ st=onB (st.ev c) fun t=>some (st.put d (if t=true then st.ev a else st.ev b)):=by
 rw[dS];simp only[cZ,iP];cases st.ev c<;>try rfl
 rename_i x;cases x<;>rfl
theorem En (op:BinOp) (S:Nat) (x y:Operand) (yT:Nat):cE P call ops ⟨d,.binOp op S x y yT,T,pos,eK,none⟩ st=cA (fP P op S (st.ev x) (st.ev y)) fun v=>some (st.put d v):=by
 rw[dS];simp only[cZ,iP];cases fP P op S (st.ev x) (st.ev y)<;>rfl
theorem aFe (op:UnOp) (S:Nat) (x:Operand):cE P call ops ⟨d,.unOp op S x,T,pos,eK,none⟩ st=cA (unA op (st.ev x)) fun v=>some (st.put d v):=by
 rw[dS];simp only[cZ,iP];cases unA op (st.ev x)<;>rfl
def Nc (P:Program) (src dst:Nat) (x:AV):Option AV :=
 match x,intKind P dst,intKind P src with
 | .v (.int _ n),some k,some _=>some (.v (.int k (k.wrap n)))
 | _,_,_=>none
theorem wM (src dst:Nat) (x:Operand):cE P call ops ⟨d,.convert src dst x,T,pos,eK,none⟩ st=cA (Nc P src dst (st.ev x)) fun v=>some (st.put d v):=by
 rw[dS];simp only[cZ,iP];show Option.map _ (Option.map _ (Nc P src dst (st.ev x)))=_
 cases Nc P src dst (st.ev x)<;>rfl
theorem Eo (S:Nat) (x:Operand) (f:Nat):cE P call ops ⟨d,.field S x f,T,pos,eK,none⟩ st=cA (Nn P S f (st.ev x)) fun v=>some (st.put d v):=by
 rw[dS];simp only[cZ,iP];cases Nn P S f (st.ev x)<;>rfl
theorem l8 {S f off k:Nat} {cs:List AV} (h:fieldInfo P S f=some (off,false,k)):Nn P S f (.agg cs)=cs[off]?:=by
 simp only[Nn,h]
theorem MN (S:Nat) (x:Operand) (f:Nat):cE P call ops ⟨d,.fieldAddr S x f,T,pos,eK,none⟩ st=cA (aU P S f) fun k=>cA (vR (st.ev x) k) fun v=>some (st.put d v):=by
 rw[dS];simp only[cZ,iP];cases aU P S f with
 | none=>rfl
 | some k =>
   simp only[cA];cases vR (st.ev x) k<;>rfl
theorem MO (S:Nat) (x i:Operand):cE P call ops ⟨d,.indexAddr S x i,T,pos,eK,none⟩ st=cA (bE P st S (st.ev x) (st.ev i)) fun v=>some (st.put d v):=by
 rw[dS];simp only[cZ,iP];cases bE P st S (st.ev x) (st.ev i)<;>rfl
theorem aFf (S:Nat) (x:Operand):cE P call ops ⟨d,.load S x,T,pos,eK,none⟩ st=cA (He P st S (st.ev x)) fun v=>some (st.put d v):=by
 rw[dS];simp only[cZ,iP,Rr];cases He P st S (st.ev x)<;>rfl
def eC (x:AV) (i:Nat):Option AV :=
 match x with
 | .dX vs=>vs[i]?
 | _=>none
theorem l9 (t:Operand) (i:Nat):cE P call ops ⟨d,.extract t i,T,pos,eK,none⟩ st=cA (eC (st.ev t) i) fun v=>some (st.put d v):=by
 rw[dS];simp only[cZ,iP];show Option.map _ (Option.map _ (eC (st.ev t) i))=_
 cases eC (st.ev t) i<;>rfl
theorem aCq (S:Nat) (parts:Array (Nat × Operand)):cE P call ops ⟨d,.build S parts,T,pos,eK,none⟩ st=cA (iU P st S parts.toList) fun v=>some (st.put d v):=by
 rw[dS];simp only[cZ,iP];cases iU P st S parts.toList<;>rfl
theorem aCr (S:Nat) (x:Operand) (lo hi:Option Operand):cE P call ops ⟨d,.slice S x lo hi none,T,pos,eK,none⟩ st=cA (dA P st S (st.ev x) lo hi) fun v=>some (st.put d v):=by
 rw[dS];simp only[cZ,iP];cases dA P st S (st.ev x) lo hi<;>rfl
theorem aCs (S d:Nat):cE P call ops ⟨some d,.alloc S,T,pos,eK,none⟩ st=cA (dU P S) fun z=>some ((st.new d (.cells (z.map .v))).put (some d) (.ptr d (st.aK d) 0)):=by
 rw[dS];simp only[cZ,cA];cases dU P S with
 | none=>rfl
 | some z=>simp only[Option.map_some,lG]
theorem aJr (S d:Nat) (x:Operand):cE P call ops ⟨some d,.box S x,T,pos,eK,none⟩ st=if (st.ev x).jO=true then some ((st.new d (.cells (st.ev x).cells)).put (some d) (.ptr d (st.aK d) 0)) else none:=by
 rw[dS];simp only[cZ,cA];split
 ·simp only[Option.map_some,lG]
 ·rfl
theorem aCt (S:Nat) (x y:Operand):cE P call ops ⟨d,.store S x y,T,pos,eK,none⟩ st=cA (Yx P st S (st.ev x) (st.ev y)) fun s=>some (s.put d (.v undef)):=by
 rw[dS];simp only[cZ,Yx];cases pZ P st S (st.ev x) (st.ev y)<;>rfl
theorem aFg (g:Nat) (args:Array Operand) (tN:Array Nat) (h:Ext.mv g=false) (h2:Ext.eat g d=false) (h3:Ext.WN g d=false:=by rfl):cE P call ops ⟨d,.call ⟨.value (.func g),args,tN⟩,T,pos,eK,none⟩ st=cA (aN call g (args.toList.map st.ev) st d) fun e=>some (e.apply st):=by
 rw[dS];simp only[cZ,hU,mP,h,h2,h3,Bool.false_eq_true,if_false];cases aN call g (args.toList.map st.ev) st d<;>rfl
theorem aCu (g:Nat) (args:Array Operand) (tN:Array Nat) (h:Ext.mv g=true):cE P call ops ⟨d,.call ⟨.value (.func g),args,tN⟩,T,pos,eK,none⟩ st=cA (kN call g (args.toList.map st.ev) st d) fun e=>some (e.apply st):=by
 rw[dS];simp only[cZ,hU,mP,h,if_true];cases kN call g (args.toList.map st.ev) st d<;>rfl
theorem n5 (g:Nat) (args:Array Operand) (tN:Array Nat) (h:Ext.mv g=false) (h2:Ext.eat g d=true):cE P call ops ⟨d,.call ⟨.value (.func g),args,tN⟩,T,pos,eK,none⟩ st=cA (eY call g (args.toList.map st.ev) st d) fun e=>some (e.apply st):=by
 rw[dS];simp only[cZ,hU,mP,h,h2,Bool.false_eq_true,if_false,if_true];cases eY call g (args.toList.map st.ev) st d<;>rfl
theorem aCv (t:Nat) (args:Array Operand) (tN:Array Nat) {g:Nat} {mH:List AV} (h:st.env t=.zC g mH):cE P call ops ⟨d,.call ⟨.value (.tmp t),args,tN⟩,T,pos,eK,none⟩ st=cA (aN call g (args.toList.map st.ev++mH) st d) fun e=>some (e.apply st):=by
 rw[dS];simp only[cZ,hU,mP,St.ev,h,EP];show Option.map _ (aN call g (args.toList.map st.ev++mH) st d)=cA (aN call g (args.toList.map st.ev++mH) st d) _
 cases aN call g (args.toList.map st.ev++mH) st d<;>rfl
theorem Q8 (S:Nat) (x:Operand) (lo:Option Operand) (hi mx:Operand):cE P call ops ⟨d,.slice S x lo (some hi) (some mx),T,pos,eK,none⟩ st=cA (Bq P st S (st.ev x) lo hi mx) fun v=>some (st.put d v):=by
 rw[dS];simp only[cZ,iP];cases Bq P st S (st.ev x) lo hi mx<;>rfl
theorem Q9 (S:Nat) (x i:Operand) (ok:Bool):cE P call ops ⟨d,.lookup S x i ok,T,pos,eK,none⟩ st=cA (Vo P st S (st.ev x) (st.ev i) ok) fun v=>some (st.put d v):=by
 rw[dS];simp only[cZ,iP];cases Vo P st S (st.ev x) (st.ev i) ok<;>rfl
theorem n8 (S d:Nat):cE P call ops ⟨some d,.makeMap S none,T,pos,eK,none⟩ st=some ((st.new d (.map [])).put (some d) (.mp d (st.aK d))):=by
 rw[dS];simp only[cZ,cA,Option.map_some,lG]
theorem MP (S:Nat) (m x y:Operand):cE P call ops ⟨d,.mapUpdate S m x y,T,pos,eK,none⟩ st=cA (uG P st S (st.ev m) (st.ev x) (st.ev y)) fun u=>some ((st.gT u.1 u.2.1 (some u.2.2)).put d (.v undef)):=by
 rw[dS];simp only[cZ];cases uG P st S (st.ev m) (st.ev x) (st.ev y)<;>rfl
theorem TE (g:Nat) (mH:Array Operand):cE P call ops ⟨d,.makeFunc (.func g) #[] mH,T,pos,eK,none⟩ st=some (st.put d (.zC g (mH.toList.map st.ev))):=by
 rw[dS];simp only[cZ,iP,if_true,Option.map_some];rfl
theorem jS (S n d:Nat) (parts:Array (Nat × Operand)):cE P call ops ⟨some d,.buildSlice S n parts,T,pos,eK,none⟩ st=cA (dI P S) fun t=>cA (dU P t.1) fun z =>
 if (0<n\/parts=#[])/\n * t.2.1<=2 ^ 24/\(parts.toList.all fun p=>(st.ev p.2).jO)=true then
  cA (gM (fun i=>some (i * t.2.1,t.2.1)) ((List.range n).flatMap fun _=>z.map .v) (parts.toList.map fun p=>(p.1,st.ev p.2))) fun cs =>
   some ((st.new d (.row t.1 t.2.1 n cs)).put (some d) (.own d (st.aK d)))
 else none:=by
 rw[dS];simp only[cZ,cA];cases dI P S with
 | none=>rfl
 | some t =>
   simp only
   cases dU P t.1 with
   | none=>rfl
   | some z =>
     simp only
     split
     ·cases gM (fun i=>some (i * t.2.1,t.2.1)) ((List.range n).flatMap fun _=>z.map .v) (parts.toList.map fun p=>(p.1,st.ev p.2)) with
      | none=>rfl
      | some cs=>simp only[Option.map_some,lG]
     ·rfl
theorem MQ (S d:Nat) (l c:Operand) {n:Nat} (hl:st.ev l=.v (.int .i64 n)) (hc:st.ev c=.v (.int .i64 n)):cE P call ops ⟨some d,.makeSlice S l c,T,pos,eK,none⟩ st=cA (dI P S) fun t=>cA (dU P t.1) fun z =>
 if (n:Int) * t.2.2<=140737488355328/\(n:Int)<=maxLen then some ((st.new d (.row t.1 t.2.1 n ((List.range n).flatMap fun _=>z.map .v))).put (some d) (.own d (st.aK d))) else none:=by
 rw[dS];simp only[cZ,cA,hl,hc];cases dI P S with
 | none=>rfl
 | some t =>
   simp only
   cases dU P t.1 with
   | none=>rfl
   | some z =>
     simp only[Int.toNat_natCast,Int.natCast_nonneg,true_and];split
     ·simp only[Option.map_some,lG]
     ·rfl
theorem aJs (x:Operand) (S:Nat) (tN:Array Nat) (h:tN=#[S]):cE P call ops ⟨d,.call ⟨.builtin .len,#[x],tN⟩,T,pos,eK,none⟩ st=cA (dI P S) fun _=>cA (aQ st (st.ev x)) fun nc=>some (st.put d (.v (.int .i64 nc.1))):=by
 subst h;rw[dS];simp only[cZ,hU];cases dI P S with
 | none=>rfl
 | some t=>cases aQ st (st.ev x) with
   | none=>rfl
   | some nc=>cases nc;rfl
theorem aFh (x:Operand) (S:Nat):cE P call ops ⟨d,.call ⟨.builtin .len,#[x],#[S]⟩,T,pos,eK,none⟩ st=cA (dI P S) fun _=>cA (aQ st (st.ev x)) fun nc=>some (st.put d (.v (.int .i64 nc.1))):=aJs x S #[S] rfl
theorem JG (s x:Operand) (S d:Nat) (tN:Array Nat) (h:tN=#[S,S]) (hv:Ext.va S d=false) (hp:¬(Ext.pa S d=true/\Cr P st S (st.ev s) (st.ev x))):cE P call ops ⟨some d,.call ⟨.builtin .append,#[s,x],tN⟩,T,pos,eK,none⟩ st=cA (cY P st S (st.ev s) (st.ev x)) fun ur =>
 some (((match ur.1 with|some p=>st.gT p.1 p.2 none|none=>st).new d ur.2).put (some d) (.own d (st.aK d))):=by
 subst h;rw[dS];simp only[cZ,hU,cA,if_true,hv,Bool.false_eq_true,if_false];rw[if_neg hp];cases cY P st S (st.ev s) (st.ev x) with
 | none=>rfl
 | some ur =>
   obtain⟨u,r⟩:=ur
   cases u with
   | none=>simp only[Option.map_some,Option.map_none,lG]
   | some p=>simp only[Option.map_some,Uk]
theorem CX (s x:Operand) (S d:Nat) (hv:Ext.va S d=false) (hp:Ext.pa S d=false):cE P call ops ⟨some d,.call ⟨.builtin .append,#[s,x],#[S,S]⟩,T,pos,eK,none⟩ st=cA (cY P st S (st.ev s) (st.ev x)) fun ur =>
 some (((match ur.1 with|some p=>st.gT p.1 p.2 none|none=>st).new d ur.2).put (some d) (.own d (st.aK d))):=JG s x S d #[S,S] rfl hv (by rw[hp];exact fun h=>absurd h.1 (by simp))
theorem aCw (s x:Operand) (S d:Nat) (hv:Ext.va S d=false) (hp:Ext.pa S d=true) (hn:¬(st.ev s=.v (.slice none 0 0)/\(aQ st (st.ev x)).map Prod.fst=some 0)):cE P call ops ⟨some d,.call ⟨.builtin .append,#[s,x],#[S,S]⟩,T,pos,eK,none⟩ st=cA (cY P st S (st.ev s) (st.ev x)) fun ur =>
 some (((match ur.1 with|some p=>st.gT p.1 p.2 none|none=>st).new d ur.2).put (some d) (.own d (st.aK d))):=JG s x S d #[S,S] rfl hv (fun h=>hn ⟨h.2.1,h.2.2.2⟩)
theorem aCx (s x:Operand) (S d:Nat) (hv:Ext.va S d=false) (hp:Ext.pa S d=true) (hi:(dI P S).isSome=true) (h1:st.ev s=.v (.slice none 0 0)) (h2:(aQ st (st.ev x)).map Prod.fst=some 0):cE P call ops ⟨some d,.call ⟨.builtin .append,#[s,x],#[S,S]⟩,T,pos,eK,none⟩ st=some (st.put (some d) (.v (.slice none 0 0))):=by
 rw[dS];simp only[cZ,hU,cA,if_true,hv,Bool.false_eq_true,if_false];rw[if_pos ⟨hp,h1,hi,h2⟩];simp only[mA.apply];rfl
theorem Ep (x:Value):st.ev (.const x)=.v x:=rfl
theorem Up (t:Nat):st.ev (.tmp t)=st.env t:=rfl
theorem Li (t d:Nat) (x:AV):(st.put (some d) x).env t=if t=d then x else st.env t:=rfl
theorem sD (t:Nat) (x:AV):(st.put none x).env t=st.env t:=rfl
theorem Lj (t d:Nat) (e:jC):(st.new d e).env t=st.env t:=rfl
theorem Er (t s g:Nat) (e:Option jC):(st.gT s g e).env t=st.env t:=rfl
theorem Lk (t:Nat) (d:Option Nat) (x:AV):(st.put d x).aK t=st.aK t:=by cases d<;>rfl
theorem Gn (t d:Nat) (e:jC):(st.new d e).aK t=if t=d then st.aK d+1 else st.aK t:=rfl
theorem uS (t s g:Nat) (e:Option jC):(st.gT s g e).aK t=st.aK t:=rfl
theorem xM (s g:Nat) (d:Option Nat) (x:AV):(st.put d x).heap s g=st.heap s g:=by cases d<;>rfl
theorem rO (s g d:Nat) (e:jC):(st.new d e).heap s g=if s=d/\g=st.aK d then some e else st.heap s g:=rfl
theorem mE (s g s0 g0:Nat) (e:Option jC):(st.gT s0 g0 e).heap s g=if s=s0/\g=g0 then e else st.heap s g:=rfl
theorem Es (t:Nat) (xs:List AV):(St.init xs).env t=(xs[t]?).getD (.v undef):=rfl
theorem Et (t:Nat) (xs:List AV):(St.init xs).aK t=0:=rfl
theorem zQ (s g:Nat) (xs:List AV):(St.init xs).heap s g=none:=rfl
theorem Eu (x:AV):st.put none x=st:=rfl
theorem tZ (d:Option Nat) (x:AV):({ dst:=d,val:=x }:mA).apply st=st.put d x:=rfl
theorem R1 (d:Option Nat) (x:AV) (n:Nat) (e:jC):({ dst:=d,val:=x,new:=some (n,[e])}:mA).apply st=(st.new n e).put d x:=lG d x n e
theorem R2 (d:Option Nat) (x:AV) (s g:Nat) (e:Option jC):({ dst:=d,val:=x,dG:=some (s,g,e)}:mA).apply st=(st.gT s g e).put d x:=rfl
theorem MR (d:Option Nat) (x:AV) (s g n:Nat) (z:Option jC) (e:jC):({ dst:=d,val:=x,dG:=some (s,g,z),new:=some (n,[e])}:mA).apply st=((st.gT s g z).new n e).put d x:=Uk d x s g n z e
theorem bL {g:Nat} {args:List AV} {r:AV} (hf:∀x∈args,Flat x) (h:call g args=some r) (hr:Flat r):aN call g args st d=some { dst:=d,val:=r }:=by
 unfold aN;rw[if_pos hf,h];simp only[cA,iG,if_pos hr]
theorem jD {g:Nat} {args:List AV} {d e sz n:Nat} {cs:List AV} (hf:∀x∈args,Flat x) (h:call g args=some (.uniq e sz n cs)) :
 aN call g args st (some d)=some { dst:=some d,val:=.own d (st.aK d),new:=some (d,[.row e sz n cs])}:=by
 unfold aN;rw[if_pos hf,h];have:¬Flat (.uniq e sz n cs):=by intro h;cases h
 simp only[cA,iG,if_neg this];rfl
end
end Go.Ab
end
section
namespace Go.Ab
open Classical
abbrev cJ:=Vector Int 32
abbrev rC:=Vector Int 4
def sW (x:Int):List AV:=[.v (.int .u64 x)]
def qD (x:Int):List AV:=[.v (.int .i64 x)]
def uA (x:Bool):List AV:=[.v (.bool x)]
def aX (r:cJ):List AV:=r.toList.map fun x=>.v (.int .u8 x)
def gC (r:rC):List AV:=r.toList.map fun x=>.v (.int .u64 x)
@[simp] theorem aV (x:Int):(sW x).length=1:=rfl
@[simp] theorem bC (x:Int):(qD x).length=1:=rfl
@[simp] theorem gP (x:Bool):(uA x).length=1:=rfl
@[simp] theorem aM (r:cJ):(aX r).length=32:=by simp[aX]
@[simp] theorem dM (r:rC):(gC r).length=4:=by simp[gC]
theorem dZ (x:Int):∀y∈sW x,Flat y:=by intro y hy;simp[sW] at hy;subst hy;exact .v _
theorem mG (x:Int):∀y∈qD x,Flat y:=by intro y hy;simp[qD] at hy;subst hy;exact .v _
theorem mM (x:Bool):∀y∈uA x,Flat y:=by intro y hy;simp[uA] at hy;subst hy;exact .v _
theorem dH (x:cJ):∀y∈aX x,Flat y:=by intro y hy;obtain⟨z,_,rfl⟩:=List.mem_map.1 hy;exact .v _
theorem iN (x:rC):∀y∈gC x,Flat y:=by intro y hy;obtain⟨z,_,rfl⟩:=List.mem_map.1 hy;exact .v _
theorem BK (x:Int):∀y∈sW x,eE y:=by intro y hy;simp[sW] at hy;subst hy;exact .v _
theorem Jr (x:Int):∀y∈qD x,eE y:=by intro y hy;simp[qD] at hy;subst hy;exact .v _
theorem N9 (x:Bool):∀y∈uA x,eE y:=by intro y hy;simp[uA] at hy;subst hy;exact .v _
theorem Ef (x:cJ):∀y∈aX x,eE y:=by intro y hy;obtain⟨z,_,rfl⟩:=List.mem_map.1 hy;exact .v _
theorem O0 (x:rC):∀y∈gC x,eE y:=by intro y hy;obtain⟨z,_,rfl⟩:=List.mem_map.1 hy;exact .v _
theorem Oq {α:Type} (c:α->List AV) (z:Nat) (hz:∀a,(c a).length=z):∀(l:List α) (i:Nat) (h:i<l.length),rd (l.flatMap c) (i * z) z=c l[i]
 | [],i,h=>by simp at h
 | a :: l,0,h=>by simp[rd,List.take_append,hz,List.take_of_length_le]
 | a :: l,i+1,h=>by
   have ih:=Oq c z hz l i (by simpa using h)
   simp only[List.flatMap_cons,List.getElem_cons_succ];rw[<- ih];simp only[rd];rw[List.drop_append,List.drop_of_length_le (by rw[hz,Nat.succ_mul];omega),hz,Nat.succ_mul]
   simp
theorem oS (a b:cJ):aX a=aX b↔a=b:=by
 constructor
 ·intro h;unfold aX at h;have h2:a.toList=b.toList:=by
   have:=congrArg (List.map (fun x:AV=>match x with|.v (.int _ n)=>n|_=>0)) h
   simpa [List.map_map,Function.comp_def] using this
  exact Vector.toList_inj.1 h2
 ·intro h;rw[h]
theorem Uq (a b:rC):gC a=gC b↔a=b:=by
 constructor
 ·intro h;unfold gC at h;have h2:a.toList=b.toList:=by
   have:=congrArg (List.map (fun x:AV=>match x with|.v (.int _ n)=>n|_=>0)) h
   simpa [List.map_map,Function.comp_def] using this
  exact Vector.toList_inj.1 h2
 ·intro h;rw[h]
def dG (cs:List AV) (o:Nat) (xs:List AV) (e:Nat):List AV:=cs.take o++xs++cs.drop e
section
variable {a b xs:List AV} {n o o' e e' k:Nat}
theorem bI (h:xs=b):a++xs=a++b:=by rw[h]
theorem Dd (h:xs=b):xs++a=b++a:=by rw[h]
theorem aY (h:o'=o+n) (ha:a.length=n):rd (a++b) o' k=rd b o k:=by
 subst h;subst ha;simp only[rd];rw[List.drop_append,List.drop_of_length_le (by omega),List.nil_append,show o+a.length-a.length=o by omega]
theorem gH (ha:a.length=n):rd (a++b) 0 n=a:=by
 subst ha;simp[rd]
theorem iZ (ha:a.length=n):rd a 0 n=a:=by
 subst ha;simp[rd]
theorem sZ (h:o+k<=a.length):rd (a++b) o k=rd a o k:=by
 simp only[rd];rw[List.drop_append,List.take_append,show o-a.length=0 by omega,show k-(a.drop o).length=0 by simp;omega]
 simp
theorem aG (h:o'=o+n) (ha:a.length=n):(a++b)[o']? = b[o]?:=by
 subst h;subst ha;rw[List.getElem?_append_right (by omega),show o+a.length-a.length=o by omega]
theorem eH (h:o<a.length):(a++b)[o]? = a[o]?:=List.getElem?_append_left h
theorem aD (h:o'=o+n) (h':e'=e+n) (ha:a.length=n):dG (a++b) o' xs e'=a++dG b o xs e:=by
 subst h;subst h';subst ha;simp only[dG];rw[List.take_append,List.take_of_length_le (by omega),List.drop_append,List.drop_of_length_le (by omega),show o+a.length-a.length=o by omega,show e+a.length-a.length=e by omega]
 simp
theorem cH (ha:a.length=n):dG (a++b) 0 xs n=xs++b:=by
 subst ha;simp[dG]
theorem eG (ha:a.length=n):dG a 0 xs n=xs:=by
 subst ha;simp[dG]
theorem tA (h:o<=e/\e<=a.length):dG (a++b) o xs e=dG a o xs e++b:=by
 simp only[dG];rw[List.take_append,List.drop_append,show o-a.length=0 by omega,show e-a.length=0 by omega]
 simp
end
theorem Ev (a b:Int):sW a=sW b↔a=b:=by simp[sW]
theorem uZ (a b:Int):qD a=qD b↔a=b:=by simp[qD]
theorem JH (a b:Bool):uA a=uA b↔a=b:=by simp[uA]
def dK:cJ:=Vector.replicate 32 0
def JI:rC:=Vector.replicate 4 0
def tW:List Value:=List.replicate 32 (.int .u8 0)
def CY:List Value:=List.replicate 4 (.int .u64 0)
theorem jM:tW.map AV.v=aX dK:=by simp[tW,aX,dK]
theorem jN:CY.map AV.v=gC JI:=by simp[CY,gC,JI]
def Hf:List Bool:=List.replicate 32 true
def G6:List Bool:=List.replicate 4 true
theorem eN {l m:List Bool}:∀ {xs ys xs' ys':List AV},gU l xs ys->gU m xs' ys'->gU (l++m) (xs++xs') (ys++ys'):=by
 induction l with
 | nil=>intro xs ys xs' ys' h h';cases xs<;>cases ys<;>first|exact h'|exact h.elim
 | cons b l ih =>
   intro xs ys xs' ys' h h'
   cases b
   ·cases xs with
    | nil=>exact h.elim
    | cons x xs=>cases ys with
      | nil=>unfold gU at h;split at h<;>first|exact h.elim|simp_all
      | cons y ys =>
        unfold gU at h;split at h<;>simp_all [gU]
   ·cases xs with
    | nil=>exact h.elim
    | cons x xs=>cases ys with
      | nil=>unfold gU at h;split at h<;>first|exact h.elim|simp_all
      | cons y ys =>
        unfold gU at h;split at h<;>simp_all [gU]
theorem Ot (k:IntKind):∀(a b:List Int),a.length=b.length->gU (List.replicate a.length true) (a.map fun x=>.v (.int k x)) (b.map fun x=>.v (.int k x))
 | [],[],_=>trivial
 | [],_ :: _,h=>by simp at h
 | _ :: _,[],h=>by simp at h
 | a :: l,b :: m,h=>⟨rfl,Ot k l m (by simpa using h)⟩
theorem mN (a b:cJ):gU Hf (aX a) (aX b):=by
 have:=Ot .u8 a.toList b.toList (by simp)
 rw[Vector.length_toList] at this;exact this
theorem Ou (a b:rC):gU G6 (gC a) (gC b):=by
 have:=Ot .u64 a.toList b.toList (by simp)
 rw[Vector.length_toList] at this;exact this
def TF (P:Program) (T:Nat):Option (List (Nat × Nat)) :=
 match P.underlying T with
 | some (.struct fs)=>if fs.all (fun f=>(P.info? f.type).isSome) then some (fs.toList.map fun f=>(f.offset,P.cellsOf f.type)) else none
 | _=>none
def TG (P:Program) (T:Nat):Option Nat :=
 match P.underlying T with
 | some (.array _ e)=>if (P.info? e).isSome then some (P.cellsOf e) else none
 | _=>none
theorem eX {P:Program} {T:Nat} {l:List (Nat × Nat)} (h:TF P T=some l):placeOf P T=some fun i=>l[i]?:=by
 unfold TF at h;unfold placeOf;split at h
 ·rename_i fs hu;split at h
  ·rename_i Ol;simp only[Option.some.injEq] at h;subst h;simp only[hu,Ol,if_true];congr 1
   funext i
   simp
  ·cases h
 ·cases h
theorem Wp {P:Program} {T k:Nat} (h:TG P T=some k):placeOf P T=some fun i=>some (i * k,k):=by
 unfold TG at h;unfold placeOf;split at h
 ·rename_i n e hu;split at h
  ·rename_i Ol;simp only[Option.some.injEq] at h;subst h;simp only[hu,Ol,if_true]
  ·cases h
 ·cases h
theorem iD {P:Program} {st:St} {T:Nat} {parts:List (Nat × Operand)} {z:List Value} {place:Nat->Option (Nat × Nat)} {c:List AV} (hz:dU P T=some z) (hc:z.map AV.v=c) (hp:placeOf P T=some place) :
 iU P st T parts=if (parts.all fun p=>(st.ev p.2).jO)=true then (gM place c (parts.map fun p=>(p.1,st.ev p.2))).map .agg else none:=by
 simp only[iU,hz,hp,hc]
theorem QA (place:Nat->Option (Nat × Nat)) (c:List AV):gM place c []=some c:=rfl
theorem IC (place:Nat->Option (Nat × Nat)) (c:List AV) (i:Nat) (x:AV) (r:List (Nat × AV)):gM place c ((i,x) :: r)=cA (place i) fun os =>
 if x.cells.length=os.2/\os.1+os.2<=c.length then gM place (dG c os.1 x.cells (os.1+os.2)) r else none:=by
 simp only[gM];cases place i<;>rfl
theorem rP {P:Program} {T:Nat} {l:List Bool} {xs ys:List AV} {p:Prop} [Decidable p] (hl:eI P 20 T=some l) (ha:cX P T=true) (hg:P.eqGuardType P.depth T=false) (hf:gU l xs ys) (hp:xs=ys↔p) :
 tR P T xs ys=some (decide p):=by
 unfold tR;rw[hl];simp only[ha,hg,hf,and_self,if_true];congr 1
 rw[Bool.eq_iff_iff];simp[hp]
def tT (P:Program) (T:Nat):Option Nat :=
 match fR P T with
 | some (_,k)=>some k
 | none=>none
theorem R3 {P:Program} {st:St} {T s g o:Nat} {x:AV}:Yx P st T (.ptr s g o) x=cA (tT P T) fun k=>if x.cells.length=k/\x.jO=true then
 (match st.heap s g with
  | some (.cells cs)=>if o+k<=cs.length then some (st.gT s g (some (.cells (dG cs o x.cells (o+k))))) else none
  | some (.row e sz n cs)=>if o+k<=cs.length then some (st.gT s g (some (.row e sz n (dG cs o x.cells (o+k))))) else none
  | _=>none) else none:=by
 simp only[Yx,pZ,tT];cases fR P T with
 | none=>rfl
 | some bk =>
   obtain⟨b,k⟩:=bk
   simp only[cA];split
   ·split
    ·rename_i h;simp only[h];split<;>rfl
    ·rename_i h;simp only[h];split<;>rfl
    ·rename_i h1 h2;split<;>rename_i h<;>first|rfl|exact absurd h (h1 _)|exact absurd h (h2 _ _ _ _)
   ·rfl
theorem TH (s:cJ):rd (aX s) 0 32=aX s:=iZ (aM _)
theorem TJ (s x:cJ):dG (aX s) 0 (aX x) 32=aX x:=eG (aM _)
theorem TK (s:rC):rd (gC s) 0 4=gC s:=iZ (dM _)
theorem TL (s x:rC):dG (gC s) 0 (gC x) 4=gC x:=eG (dM _)
theorem wrap_i64 (x:Int) (h1:-9223372036854775808<=x) (h2:x<=9223372036854775807):IntKind.i64.wrap x=x:=by
 rw[IntKind.wrap_i64];omega
theorem nD (s g:Nat):¬Flat (.own s g):=by intro h;cases h
theorem yU (s g o:Nat):¬Flat (.ptr s g o):=by intro h;cases h
theorem dQ {st:St} {x:AV} (h:Flat x):eW st x=some x:=by unfold eW;rw[if_pos h]
theorem kA {st:St} {s g e sz n:Nat} {cs:List AV} (h:st.heap s g=some (.row e sz n cs)) (hf:∀c∈cs,Flat c):cC st (.own s g)=some (.sl n cs):=by
 unfold cC;rw[if_neg (nD s g)];simp only[h];rw[if_pos hf]
theorem cN {st:St} {x:AV} (h:Flat x):cC st x=some x:=by unfold cC;rw[if_pos h]
theorem RM {st:St} {x:AV} (h:Flat x):pN st x=some x:=by unfold pN;rw[if_pos h]
theorem Vu {st:St}:∀ {cs:List AV},(∀c∈cs,Flat c)->bK (cs.map (pN st))=some cs
 | [],_=>rfl
 | c :: cs,h=>by
   rw[List.map_cons,RM (h c (by simp))]
   have ih:=Vu (st:=st) (cs:=cs) fun d hd=>h d (List.mem_cons_of_mem _ hd)
   simp only[bK,ih,Option.map_some]
theorem RJ {st:St} {s g e sz n:Nat} {cs:List AV} (h:st.heap s g=some (.row e sz n cs)) (hf:∀c∈cs,Flat c):eW st (.own s g)=some (.sl n cs):=by
 unfold eW;rw[if_neg (nD s g)];exact kA h hf
section
variable [Ext]
theorem TM {P:Program} {f:Nat} {fn:Func} {t:Nat} {st:St} {x:AV} {e:Ex} (hk:Ext.pY f=false) (he:e=.ret\/e=.normal) (hr:fn.results.toList=[.tmp t]) (hx:st.env t=x) (hf:Flat x):Bk P f fn (e,st)=some x:=by
 have h1:iH P f fn st=some x:=by
  unfold iH;rw[hk,if_neg (by simp)]
  unfold tC;rw[hr];simp only[jB,cA,hx,Ih];cases hf<;>simp only[eW]<;>rw[if_pos]<;>constructor<;>assumption
 rcases he with rfl|rfl<;>exact h1
theorem R4 {P:Program} {f:Nat} {fn:Func} {t T:Nat} {st:St} {y x:AV} {e:Ex} (hk:Ext.pY f=false) (he:e=.ret\/e=.normal) (hr:fn.results.toList=[.cell t T]) (hy:st.env t=y) (hx:He P st T y=some x) (hf:Flat x):Bk P f fn (e,st)=some x:=by
 have h1:iH P f fn st=some x:=by
  unfold iH;rw[hk,if_neg (by simp)]
  unfold tC;rw[hr];show cA (cA (qP st (st.env t)) (yQ P T)) (Ih st)=some x
  rw[hy,Rr,hx];simp only[cA,Ih];cases hf<;>simp only[eW]<;>rw[if_pos]<;>constructor<;>assumption
 rcases he with rfl|rfl<;>exact h1
theorem Qr {P:Program} {f:Nat} {fn:Func} {t:Nat} {st:St} {e:Ex} {s g e' sz n:Nat} {cs:List AV} (hk:Ext.pY f=false) (he:e=.ret\/e=.normal) (hr:fn.results.toList=[.tmp t]) (hx:st.env t=.own s g) (hh:st.heap s g=some (.row e' sz n cs)) (hf:∀c∈cs,Flat c):Bk P f fn (e,st)=some (.uniq e' sz n cs):=by
 have h1:iH P f fn st=some (.uniq e' sz n cs):=by
  unfold iH;rw[hk,if_neg (by simp)]
  unfold tC;rw[hr];simp only[jB,cA,hx,Ih,hh];rw[if_pos hf]
 rcases he with rfl|rfl<;>exact h1
theorem o0 {P:Program} {f:Nat} {fn:Func} {t T:Nat} {st:St} {e:Ex} {z:AV} {cs:List AV} {y:AV} (hk:Ext.pY f=false) (he:e=.ret\/e=.normal) (hr:fn.results.toList=[.cell t T]) (hz:st.env t=z) (hx:He P st T z=some (.agg cs)) (hy:eW st (.agg cs)=some y):Bk P f fn (e,st)=some y:=by
 have h1:iH P f fn st=some y:=by
  unfold iH;rw[hk,if_neg (by simp)]
  unfold tC;rw[hr];show cA (cA (qP st (st.env t)) (yQ P T)) (Ih st)=some y
  rw[hz,Rr,hx];simp only[cA,Ih,hy]
 rcases he with rfl|rfl<;>exact h1
def bX (P:Program) (st:St) (r:ResultVar):Option AV :=
 match r with
 | .tmp t=>some (st.env t)
 | .cell t T=>He P st T (st.env t)
theorem wU (P:Program) (st:St) (r:ResultVar):jB P st r=bX P st r:=by
 cases r with
 | tmp t=>rfl
 | cell t T=>exact Rr P st T _
theorem aCy {P:Program} {f:Nat} {fn:Func} {st:St} {e:Ex} {r1 r2:ResultVar} {x1 x2 y1 y2:AV} (hk:Ext.pY f=false) (he:e=.ret\/e=.normal) (hr:fn.results.toList=[r1,r2])
 (h1:bX P st r1=some x1) (h2:bX P st r2=some x2) (e1:eW st x1=some y1) (e2:eW st x2=some y2):Bk P f fn (e,st)=some (.dX [y1,y2]):=by
 have h:iH P f fn st=some (.dX [y1,y2]):=by
  unfold iH;rw[hk,if_neg (by simp)]
  unfold tC;rw[hr];simp only[List.map_cons,List.map_nil,wU,h1,h2,cA,Ei e1,Ei e2,bK,Option.map_some]
 rcases he with rfl|rfl<;>exact h
theorem R5 {P:Program} {f:Nat} {fn:Func} {st:St} {e:Ex} {r1 r2:ResultVar} {x1 x2 y1 y2:AV} (hk:Ext.pY f=false) (he:e=.ret\/e=.normal) (hr:fn.results.toList=[r1,r2])
 (h1:bX P st r1=some x1) (h2:bX P st r2=some x2) (e0:eW st x1=none) (e1:Pq st x1=some y1) (e2:eW st x2=some y2):Bk P f fn (e,st)=some (.dX [y1,y2]):=by
 have e1':zX st x1=some y1:=(ZN e0).trans e1
 have h:iH P f fn st=some (.dX [y1,y2]):=by
  unfold iH;rw[hk,if_neg (by simp)]
  unfold tC;rw[hr];simp only[List.map_cons,List.map_nil,wU,h1,h2,cA,e1',Ei e2,bK,Option.map_some]
 rcases he with rfl|rfl<;>exact h
theorem o6 {P:Program} {f:Nat} {fn:Func} {st:St} {e:Ex} {r1 r2 r3:ResultVar} {x1 x2 x3 y1 y2 y3:AV} (hk:Ext.pY f=false) (he:e=.ret\/e=.normal) (hr:fn.results.toList=[r1,r2,r3])
 (h1:bX P st r1=some x1) (h2:bX P st r2=some x2) (h3:bX P st r3=some x3) (e1:eW st x1=some y1) (e2:eW st x2=some y2) (e3:eW st x3=some y3):Bk P f fn (e,st)=some (.dX [y1,y2,y3]):=by
 have h:iH P f fn st=some (.dX [y1,y2,y3]):=by
  unfold iH;rw[hk,if_neg (by simp)]
  unfold tC;rw[hr];simp only[List.map_cons,List.map_nil,wU,h1,h2,h3,cA,Ei e1,Ei e2,Ei e3,bK,Option.map_some]
 rcases he with rfl|rfl<;>exact h
end
section
variable [Ext]
theorem zS {P:Program} (c:Operand) (a b:Code) (st:St):Ac P (.cond c a b) st=onB (st.ev c) fun t=>if t=true then Ac P a st else Ac P b st:=by
 cases h:st.ev c with
 | v x =>
   cases x with
   | bool t=>exact aCp P c a b st h
   | _ =>
     apply Option.ext
     intro r;rw[G5];constructor
     ·rintro⟨n,m,h'⟩
      cases m with
      | zero=>simp[uF] at h'
      | succ m=>simp[uF,h] at h'
     ·intro h';simp[onB] at h'
 | _ =>
   apply Option.ext
   intro r;rw[G5];constructor
   ·rintro⟨n,m,h'⟩
    cases m with
    | zero=>simp[uF] at h'
    | succ m=>simp[uF,h] at h'
   ·intro h';simp[onB] at h'
def Rs (ops:Array Oper) (j:Nat):Option Nat:=(ops[j]?).bind (·.dst)
def o7 {α:Type} (x:AV) (want:Bool) (y n:Option α):Option α :=
 match x with
 | .v (.bool b)=>if b=want then y else n
 | .v _=>n
 | _=>none
def onS {α:Type} (d:Option Nat) (k:Nat->Option α) (n:Option α):Option α :=
 match d with
 | some d=>k d
 | none=>n
@[congr] theorem aJt {α:Type} {x x':AV} {want:Bool} {y n:Option α} (h:x=x'):o7 x want y n=o7 x' want y n:=by rw[h]
@[congr] theorem aLM {α:Type} {d d':Option Nat} {k:Nat->Option α} {n:Option α} (h:d=d'):onS d k n=onS d' k n:=by rw[h]
theorem zT {α:Type} (b:Bool) (y n:Option α):o7 (.v (.bool b)) true y n=if b=true then y else n:=rfl
theorem wN {α:Type} (b:Bool) (y n:Option α):o7 (.v (.bool b)) false y n=if b=false then y else n:=rfl
theorem wO {α:Type} (w:Bool) (y n:Option α):o7 (.v undef) w y n=n:=rfl
theorem Ew {α:Type} (d:Nat) (k:Nat->Option α) (n:Option α):onS (some d) k n=k d:=rfl
theorem zU {P:Program} {call:Nat->List AV->Option AV} {ops:Array Oper} {st:St} {d:Option Nat} {T:Nat} {pos:String} {eK:Array Edge} (op:Op) (j:Nat) (want:Bool) :
 cE P call ops ⟨d,op,T,pos,eK,some (j,want)⟩ st=onS (Rs ops j) (fun s=>o7 (st.env s) want (cE P call ops ⟨d,op,T,pos,eK,none⟩ st) (some (st.put d (.v undef)))) (some (st.put d (.v undef))):=by
 simp only[cE,gv,Rs];cases (ops[j]?).bind (·.dst) with
 | none=>simp[onS]
 | some s =>
   simp only[onS];cases st.env s with
   | v x=>cases x<;>simp[o7,cZ]<;>rename_i b<;>cases b<;>cases want<;>simp[cZ]
   | _=>rfl
end
section
variable {P:Program} {T:Nat} {k k1:IntKind} {a b:Int}
theorem Ll:fP P .add T (.v (.int k a)) (.v (.int k b))=some (.v (.int k (k.wrap (a+b)))):=by simp[fP]
theorem Lm:fP P .sub T (.v (.int k a)) (.v (.int k b))=some (.v (.int k (k.wrap (a-b)))):=by simp[fP]
theorem Ln:fP P .mul T (.v (.int k a)) (.v (.int k b))=some (.v (.int k (k.wrap (a * b)))):=by simp[fP]
theorem Lo:fP P .and T (.v (.int k a)) (.v (.int k b))=some (.v (.int k (k.wrap (BitVec.ofInt k.bits a &&& BitVec.ofInt k.bits b).toNat))):=by simp[fP]
theorem Lp:fP P .eql T (.v (.int k a)) (.v (.int k b))=some (.v (.bool (a == b))):=by simp[fP]
theorem Lq:fP P .neq T (.v (.int k a)) (.v (.int k b))=some (.v (.bool (a != b))):=by simp[fP]
theorem Lr:fP P .lss T (.v (.int k a)) (.v (.int k b))=some (.v (.bool (decide (a<b)))):=by simp[fP]
theorem Ls:fP P .leq T (.v (.int k a)) (.v (.int k b))=some (.v (.bool (decide (a<=b)))):=by simp[fP]
theorem Lt:fP P .gtr T (.v (.int k a)) (.v (.int k b))=some (.v (.bool (decide (a > b)))):=by simp[fP]
theorem Lu:fP P .geq T (.v (.int k a)) (.v (.int k b))=some (.v (.bool (decide (a>=b)))):=by simp[fP]
theorem aFi (h:b≠0):fP P .quo T (.v (.int k a)) (.v (.int k b))=some (.v (.int k (k.wrap (a.tdiv b)))):=by simp[fP,h]
theorem aFj (h:b≠0):fP P .rem T (.v (.int k a)) (.v (.int k b))=some (.v (.int k (a.tmod b))):=by simp[fP,h]
theorem aFk (h:¬b<0):fP P .shr T (.v (.int k a)) (.v (.int k1 b))=some (.v (.int k (a.fdiv (2 ^ (min b.toNat k.bits))))):=by simp[fP,h]
theorem E3 (h:¬b<0):fP P .shl T (.v (.int k a)) (.v (.int k1 b))=some (.v (.int k (k.wrap (a * 2 ^ (min b.toNat k.bits))))):=by simp[fP,h]
end
theorem sF (s:St) (k:St->Option (Ex × St)):Qy (.normal,s) k=k s:=rfl
theorem zV (s:St) (k:St->Option (Ex × St)):Qy (.ret,s) k=some (.ret,s):=rfl
theorem wP (i:Nat) (s:St) (k:St->Option (Ex × St)):Qy (.exit i,s) k=some (.exit i,s):=rfl
theorem Zk (r:cJ) (i e:Nat) (x:Int) (h:i<32) (he:e=i+1):dG (aX r) i [.v (.int .u8 x)] e=aX (r.set i x):=by
 subst he;simp only[dG,aX,Vector.toList_set,List.map_set];rw[List.set_eq_take_append_cons_drop,if_pos (by simp[h])]
 simp
theorem rG (r:rC) (i e:Nat) (x:Int) (h:i<4) (he:e=i+1):dG (gC r) i [.v (.int .u64 x)] e=gC (r.set i x):=by
 subst he;simp only[dG,gC,Vector.toList_set,List.map_set];rw[List.set_eq_take_append_cons_drop,if_pos (by simp[h])]
 simp
theorem Te [Ext] {P:Program} {b:Code} (Inv:Nat->St->Prop) (Q:Ex->St->Prop)
 (step:∀n st,Inv n st->∃e st',Ac P b st=some (e,st')/\((e=.normal/\∃m,m<n/\Inv m st')\/(e≠.normal/\Q e st'))):∀n st,Inv n st->∃e st',Ac P (.loop b) st=some (e,st')/\e≠.normal/\Q e st':=by
 intro n;induction n using Nat.strongRecOn with
 | _ n ih =>
   intro st h;obtain⟨e,s1,h1,h2⟩:=step n st h
   rw[Io,h1];rcases h2 with ⟨rfl,m,hm,hi⟩|⟨gI,hq⟩
   ·exact ih m hm s1 hi
   ·refine⟨e,s1, ?_,gI,hq⟩
    cases e with
    | normal=>exact absurd rfl gI
    | _=>rfl
theorem lP [Ext] {P:Program} {b:Code} {st:St} {β:Type} {k:Ex × St->Option β} {r:β} (Inv:Nat->St->Prop) (Q:Ex->St->Prop) (n:Nat)
 (step:∀n st,Inv n st->∃e st',Ac P b st=some (e,st')/\((e=.normal/\∃m,m<n/\Inv m st')\/(e≠.normal/\Q e st')))
 (start:Inv n st) (rest:∀e st',Q e st'->k (e,st')=some r):cA (Ac P (.loop b) st) k=some r:=by
 obtain⟨e,s1,h1,h2,h3⟩:=Te Inv Q step n st start
 rw[h1];exact rest e s1 h3
theorem cB [Ext] {P:Program} {b:Code} {st:St} {β:Type} {k:Ex × St->Option β} {R:β->Prop} (Inv:Nat->St->Prop) (Q:Ex->St->Prop) (n:Nat)
 (step:∀n st,Inv n st->∃e st',Ac P b st=some (e,st')/\((e=.normal/\∃m,m<n/\Inv m st')\/(e≠.normal/\Q e st')))
 (start:Inv n st) (rest:∀e st',Q e st'->∃r,k (e,st')=some r/\R r):∃r,cA (Ac P (.loop b) st) k=some r/\R r:=by
 obtain⟨e,s1,h1,h2,h3⟩:=Te Inv Q step n st start
 rw[h1];exact rest e s1 h3
theorem jG {α β γ:Type} (x:Option α) (f:α->Option β) (g:β->Option γ):cA (cA x f) g=cA x fun a=>cA (f a) g:=by cases x<;>rfl
theorem oZ [Ext] {P:Program} {b:Code} {st st':St} {n:Nat} {Inv:Nat->St->Prop} {Q:Ex->St->Prop} (h:Ac P b st=some (.normal,st')) (m:Nat) (hm:m<n) (hi:Inv m st') :
 ∃e st',Ac P b st=some (e,st')/\((e=.normal/\∃m,m<n/\Inv m st')\/(e≠.normal/\Q e st')):=⟨_,_,h,.inl ⟨rfl,m,hm,hi⟩⟩
theorem aJu [Ext] {P:Program} {b:Code} {st st':St} {e:Ex} {n:Nat} {Inv:Nat->St->Prop} {Q:Ex->St->Prop} (h:Ac P b st=some (e,st')) (he:e≠.normal) (hq:Q e st') :
 ∃e st',Ac P b st=some (e,st')/\((e=.normal/\∃m,m<n/\Inv m st')\/(e≠.normal/\Q e st')):=⟨_,_,h,.inr ⟨he,hq⟩⟩
def aI (l:List Int):List AV:=l.flatMap qD
@[simp] theorem Ky (l:List (Int)):(aI l).length=l.length * 1:=by
 induction l with
 | nil=>rfl
 | cons x l ih=>simp only[aI,List.flatMap_cons,List.length_append,bC,List.length_cons] at *;omega
theorem fS (l:List (Int)):∀x∈aI l,Flat x:=by
 intro x hx;obtain⟨y,_,hy⟩:=List.mem_flatMap.1 hx
 exact mG y x hy
theorem aCz (l:List (Int)) (i:Nat) (h:i<l.length):rd (aI l) (i * 1) 1=qD l[i]:=Oq qD 1 (bC) l i h
def bD (l:List Int):List AV:=l.flatMap sW
@[simp] theorem Tv (l:List (Int)):(bD l).length=l.length * 1:=by
 induction l with
 | nil=>rfl
 | cons x l ih=>simp only[bD,List.flatMap_cons,List.length_append,aV,List.length_cons] at *;omega
theorem iC (l:List (Int)):∀x∈bD l,Flat x:=by
 intro x hx;obtain⟨y,_,hy⟩:=List.mem_flatMap.1 hx
 exact dZ y x hy
def gS (l:List cJ):List AV:=l.flatMap aX
@[simp] theorem aJv (l:List (cJ)):(gS l).length=l.length * 32:=by
 induction l with
 | nil=>rfl
 | cons x l ih=>simp only[gS,List.flatMap_cons,List.length_append,aM,List.length_cons] at *;omega
theorem Wq (l:List (cJ)):∀x∈gS l,Flat x:=by
 intro x hx;obtain⟨y,_,hy⟩:=List.mem_flatMap.1 hx
 exact dH y x hy
structure fU where
 aL:Int
 root:cJ
def bY (s:fU):List AV:=sW s.aL++(aX s.root)
@[simp] theorem bS (s:fU):(bY s).length=33:=by simp[bY]
theorem dB (s:fU):∀x∈bY s,Flat x:=by
 intro x hx;simp only[bY,List.mem_append,List.mem_singleton] at hx;rcases hx with hx|hx
 ·(exact dZ _ _ hx)
 ·(exact dH _ _ hx)
theorem JJ (s:fU):∀x∈bY s,eE x:=by
 intro x hx;simp only[bY,List.mem_append] at hx;rcases hx with hx|hx
 ·exact BK _ _ hx
 ·exact Ef _ _ hx
theorem jY (s:fU):(bY s)[0]? = some (.v (.int .u64 s.aL)):=rfl
theorem De (s:fU) (x:Int):dG (bY s) 0 ([.v (.int .u64 x)]) 1=bY { s with aL:=x }:=cH (aV _)
theorem vA (s:fU):rd (bY s) 1 32=aX s.root:=(aY rfl (aV _)).trans (iZ (aM _))
theorem Gu (s:fU) (x:cJ):dG (bY s) 1 (aX x) 33=bY { s with root:=x }:=(aD rfl rfl (aV _)).trans (bI (eG (aM _)))
def gY:fU:=⟨0,dK⟩
def Dv:List Value:=[.int .u64 0]++(tW)
theorem Ca:Dv.map AV.v=bY gY:=by simp only[Dv,List.map_append,List.map_cons,List.map_nil,jM,jN];rfl
def Ws:List Bool:=[true]++(Hf)
theorem tP (a b:fU):gU Ws (bY a) (bY b):=(eN (show gU [true] [_] [_] from ⟨rfl,trivial⟩) (mN _ _))
theorem mX (a b:fU):bY a=bY b↔a=b:=by
 refine⟨fun h=>?_,fun h=>by rw[h]⟩
 cases a;cases b
 simp only[bY] at h;obtain⟨h0,h⟩:=List.append_inj h (by simp)
 have e0:=(Ev _ _).1 h0
 have e1:=(oS _ _).1 h
 subst e0 e1;rfl
theorem TN (s:fU):rd (bY s) 0 33=bY s:=iZ (bS _)
theorem TO (s x:fU):dG (bY s) 0 (bY x) 33=bY x:=eG (bS _)
structure pG where
 pj:fU
 pf:fU
def fJ (s:pG):List AV:=bY s.pj++(bY s.pf)
@[simp] theorem cO (s:pG):(fJ s).length=66:=by simp[fJ]
theorem Gb (s:pG):∀x∈fJ s,Flat x:=by
 intro x hx;simp only[fJ,List.mem_append,List.mem_singleton] at hx;rcases hx with hx|hx
 ·(exact dB _ _ hx)
 ·(exact dB _ _ hx)
theorem Rt (s:pG):rd (fJ s) 0 33=bY s.pj:=gH (bS _)
theorem Ru (s:pG) (x:fU):dG (fJ s) 0 (bY x) 33=fJ { s with pj:=x }:=cH (bS _)
theorem yN (s:pG):(fJ s)[0]? = some (.v (.int .u64 s.pj.aL)):=(eH (by rw[bS];decide)).trans (jY _)
theorem Ba (s:pG) (x:Int):dG (fJ s) 0 ([.v (.int .u64 x)]) 1=fJ { s with pj:={ s.pj with aL:=x }}:=(tA (by rw[bS];decide)).trans (Dd (De _ x))
theorem Rv (s:pG):rd (fJ s) 33 33=bY s.pf:=(aY rfl (bS _)).trans (iZ (bS _))
theorem Rw (s:pG) (x:fU):dG (fJ s) 33 (bY x) 66=fJ { s with pf:=x }:=(aD rfl rfl (bS _)).trans (bI (eG (bS _)))
theorem yO (s:pG):(fJ s)[33]? = some (.v (.int .u64 s.pf.aL)):=(aG rfl (bS _)).trans (jY _)
def Qj:pG:=⟨gY,gY⟩
def Rx:List Value:=Dv++(Dv)
theorem Ur:Rx.map AV.v=fJ Qj:=by simp only[Rx,List.map_append,List.map_cons,List.map_nil,jM,jN,Ca];rfl
def G7:List Bool:=Ws++(Ws)
theorem MS (a b:pG):gU G7 (fJ a) (fJ b):=(eN (tP _ _) (tP _ _))
theorem TP (a b:pG):fJ a=fJ b↔a=b:=by
 refine⟨fun h=>?_,fun h=>by rw[h]⟩
 cases a;cases b
 simp only[fJ] at h;obtain⟨h0,h⟩:=List.append_inj h (by simp)
 have e0:=(mX _ _).1 h0
 have e1:=(mX _ _).1 h
 subst e0 e1;rfl
theorem FZ (s:pG):rd (fJ s) 0 66=fJ s:=iZ (cO _)
theorem GA (s x:pG):dG (fJ s) 0 (fJ x) 66=fJ x:=eG (cO _)
structure Block where
 dL:pG
 slot:Int
 root:cJ
 parent:cJ
 jK:cJ
 diff:rC
 IA:rC
 gX:fU
 fin:fU
 Gj:Bool
def aT (s:Block):List AV:=fJ s.dL++(sW s.slot++(aX s.root++(aX s.parent++(aX s.jK++(gC s.diff++(gC s.IA++(bY s.gX++(bY s.fin++(uA s.Gj)))))))))
@[simp] theorem bP (s:Block):(aT s).length=238:=by simp[aT]
theorem Cl (s:Block):∀x∈aT s,Flat x:=by
 intro x hx;simp only[aT,List.mem_append,List.mem_singleton] at hx;rcases hx with hx|hx|hx|hx|hx|hx|hx|hx|hx|hx
 ·(exact Gb _ _ hx)
 ·(exact dZ _ _ hx)
 ·(exact dH _ _ hx)
 ·(exact dH _ _ hx)
 ·(exact dH _ _ hx)
 ·(exact iN _ _ hx)
 ·(exact iN _ _ hx)
 ·(exact dB _ _ hx)
 ·(exact dB _ _ hx)
 ·(exact mM _ _ hx)
theorem Hg (s:Block):rd (aT s) 0 66=fJ s.dL:=gH (cO _)
theorem Xk (s:Block) (x:pG):dG (aT s) 0 (fJ x) 66=aT { s with dL:=x }:=cH (cO _)
theorem Bb (s:Block):rd (aT s) 0 33=bY s.dL.pj:=(sZ (by rw[cO];decide)).trans (Rt _)
theorem Ov (s:Block) (x:fU):dG (aT s) 0 (bY x) 33=aT { s with dL:={ s.dL with pj:=x }}:=(tA (by rw[cO];decide)).trans (Dd (Ru _ x))
theorem sL (s:Block):(aT s)[0]? = some (.v (.int .u64 s.dL.pj.aL)):=(eH (by rw[cO];decide)).trans (yN _)
theorem Df (s:Block) (x:Int):dG (aT s) 0 ([.v (.int .u64 x)]) 1=aT { s with dL:={ s.dL with pj:={ s.dL.pj with aL:=x }} }:=(tA (by rw[cO];decide)).trans (Dd (Ba _ x))
theorem Bc (s:Block):rd (aT s) 33 33=bY s.dL.pf:=(sZ (by rw[cO];decide)).trans (Rv _)
theorem Ow (s:Block) (x:fU):dG (aT s) 33 (bY x) 66=aT { s with dL:={ s.dL with pf:=x }}:=(tA (by rw[cO];decide)).trans (Dd (Rw _ x))
theorem sM (s:Block):(aT s)[33]? = some (.v (.int .u64 s.dL.pf.aL)):=(eH (by rw[cO];decide)).trans (yO _)
theorem Js (s:Block):(aT s)[66]? = some (.v (.int .u64 s.slot)):=(aG rfl (cO _)).trans (rfl)
theorem GB (s:Block) (x:Int):dG (aT s) 66 ([.v (.int .u64 x)]) 67=aT { s with slot:=x }:=(aD rfl rfl (cO _)).trans (bI (cH (aV _)))
theorem Nd (s:Block):rd (aT s) 67 32=aX s.root:=(aY rfl (cO _)).trans ((aY rfl (aV _)).trans (gH (aM _)))
theorem GC (s:Block) (x:cJ):dG (aT s) 67 (aX x) 99=aT { s with root:=x }:=(aD rfl rfl (cO _)).trans (bI ((aD rfl rfl (aV _)).trans (bI (cH (aM _)))))
theorem Xl (s:Block):rd (aT s) 99 32=aX s.parent:=(aY rfl (cO _)).trans ((aY rfl (aV _)).trans ((aY rfl (aM _)).trans (gH (aM _))))
theorem Xm (s:Block) (x:cJ):dG (aT s) 99 (aX x) 131=aT { s with parent:=x }:=(aD rfl rfl (cO _)).trans (bI ((aD rfl rfl (aV _)).trans (bI ((aD rfl rfl (aM _)).trans (bI (cH (aM _)))))))
theorem Ey (s:Block):rd (aT s) 131 32=aX s.jK:=(aY rfl (cO _)).trans ((aY rfl (aV _)).trans ((aY rfl (aM _)).trans ((aY rfl (aM _)).trans (gH (aM _)))))
theorem Us (s:Block) (x:cJ):dG (aT s) 131 (aX x) 163=aT { s with jK:=x }:=(aD rfl rfl (cO _)).trans (bI ((aD rfl rfl (aV _)).trans (bI ((aD rfl rfl (aM _)).trans (bI ((aD rfl rfl (aM _)).trans (bI (cH (aM _)))))))))
theorem GD (s:Block):rd (aT s) 163 4=gC s.diff:=(aY rfl (cO _)).trans ((aY rfl (aV _)).trans ((aY rfl (aM _)).trans ((aY rfl (aM _)).trans ((aY rfl (aM _)).trans (gH (dM _))))))
theorem GF (s:Block) (x:rC):dG (aT s) 163 (gC x) 167=aT { s with diff:=x }:=(aD rfl rfl (cO _)).trans (bI ((aD rfl rfl (aV _)).trans (bI ((aD rfl rfl (aM _)).trans (bI ((aD rfl rfl (aM _)).trans (bI ((aD rfl rfl (aM _)).trans (bI (cH (dM _)))))))))))
theorem CZ (s:Block):rd (aT s) 167 4=gC s.IA:=(aY rfl (cO _)).trans ((aY rfl (aV _)).trans ((aY rfl (aM _)).trans ((aY rfl (aM _)).trans ((aY rfl (aM _)).trans ((aY rfl (dM _)).trans (gH (dM _)))))))
theorem DA (s:Block) (x:rC):dG (aT s) 167 (gC x) 171=aT { s with IA:=x }:=(aD rfl rfl (cO _)).trans (bI ((aD rfl rfl (aV _)).trans (bI ((aD rfl rfl (aM _)).trans (bI ((aD rfl rfl (aM _)).trans (bI ((aD rfl rfl (aM _)).trans (bI ((aD rfl rfl (dM _)).trans (bI (cH (dM _)))))))))))))
theorem Nf (s:Block):rd (aT s) 171 33=bY s.gX:=(aY rfl (cO _)).trans ((aY rfl (aV _)).trans ((aY rfl (aM _)).trans ((aY rfl (aM _)).trans ((aY rfl (aM _)).trans ((aY rfl (dM _)).trans ((aY rfl (dM _)).trans (gH (bS _))))))))
theorem GG (s:Block) (x:fU):dG (aT s) 171 (bY x) 204=aT { s with gX:=x }:=(aD rfl rfl (cO _)).trans (bI ((aD rfl rfl (aV _)).trans (bI ((aD rfl rfl (aM _)).trans (bI ((aD rfl rfl (aM _)).trans (bI ((aD rfl rfl (aM _)).trans (bI ((aD rfl rfl (dM _)).trans (bI ((aD rfl rfl (dM _)).trans (bI (cH (bS _)))))))))))))))
theorem Jt (s:Block):(aT s)[171]? = some (.v (.int .u64 s.gX.aL)):=(aG rfl (cO _)).trans ((aG rfl (aV _)).trans ((aG rfl (aM _)).trans ((aG rfl (aM _)).trans ((aG rfl (aM _)).trans ((aG rfl (dM _)).trans ((aG rfl (dM _)).trans ((eH (by rw[bS];decide)).trans (jY _))))))))
theorem Ry (s:Block):rd (aT s) 204 33=bY s.fin:=(aY rfl (cO _)).trans ((aY rfl (aV _)).trans ((aY rfl (aM _)).trans ((aY rfl (aM _)).trans ((aY rfl (aM _)).trans ((aY rfl (dM _)).trans ((aY rfl (dM _)).trans ((aY rfl (bS _)).trans (gH (bS _)))))))))
theorem MT (s:Block) (x:fU):dG (aT s) 204 (bY x) 237=aT { s with fin:=x }:=(aD rfl rfl (cO _)).trans (bI ((aD rfl rfl (aV _)).trans (bI ((aD rfl rfl (aM _)).trans (bI ((aD rfl rfl (aM _)).trans (bI ((aD rfl rfl (aM _)).trans (bI ((aD rfl rfl (dM _)).trans (bI ((aD rfl rfl (dM _)).trans (bI ((aD rfl rfl (bS _)).trans (bI (cH (bS _)))))))))))))))))
theorem Me (s:Block):(aT s)[204]? = some (.v (.int .u64 s.fin.aL)):=(aG rfl (cO _)).trans ((aG rfl (aV _)).trans ((aG rfl (aM _)).trans ((aG rfl (aM _)).trans ((aG rfl (aM _)).trans ((aG rfl (dM _)).trans ((aG rfl (dM _)).trans ((aG rfl (bS _)).trans ((eH (by rw[bS];decide)).trans (jY _)))))))))
theorem Rz (s:Block) (x:cJ):dG (aT s) 205 (aX x) 237=aT { s with fin:={ s.fin with root:=x }}:=(aD rfl rfl (cO _)).trans (bI ((aD rfl rfl (aV _)).trans (bI ((aD rfl rfl (aM _)).trans (bI ((aD rfl rfl (aM _)).trans (bI ((aD rfl rfl (aM _)).trans (bI ((aD rfl rfl (dM _)).trans (bI ((aD rfl rfl (dM _)).trans (bI ((aD rfl rfl (bS _)).trans (bI ((tA (by rw[bS];decide)).trans (Dd (Gu _ x))))))))))))))))))
theorem Ut (s:Block):(aT s)[237]? = some (.v (.bool s.Gj)):=(aG rfl (cO _)).trans ((aG rfl (aV _)).trans ((aG rfl (aM _)).trans ((aG rfl (aM _)).trans ((aG rfl (aM _)).trans ((aG rfl (dM _)).trans ((aG rfl (dM _)).trans ((aG rfl (bS _)).trans ((aG rfl (bS _)).trans (rfl)))))))))
theorem Xn (s:Block) (x:Bool):dG (aT s) 237 ([.v (.bool x)]) 238=aT { s with Gj:=x }:=(aD rfl rfl (cO _)).trans (bI ((aD rfl rfl (aV _)).trans (bI ((aD rfl rfl (aM _)).trans (bI ((aD rfl rfl (aM _)).trans (bI ((aD rfl rfl (aM _)).trans (bI ((aD rfl rfl (dM _)).trans (bI ((aD rfl rfl (dM _)).trans (bI ((aD rfl rfl (bS _)).trans (bI ((aD rfl rfl (bS _)).trans (bI (eG (gP _)))))))))))))))))))
def fV:Block:=⟨Qj,0,dK,dK,dK,JI,JI,gY,gY,false⟩
def Uu:List Value:=Rx++([.int .u64 0]++(tW++(tW++(tW++(CY++(CY++(Dv++(Dv++([.bool false])))))))))
theorem Sa:Uu.map AV.v=aT fV:=by simp only[Uu,List.map_append,List.map_cons,List.map_nil,jM,jN,Ur,Ca];rfl
def o8:List Bool:=G7++([true]++(Hf++(Hf++(Hf++(G6++(G6++(Ws++(Ws++([false])))))))))
theorem Wt (a b:Block):gU o8 (aT a) (aT b):=(eN (MS _ _) (eN (show gU [true] [_] [_] from ⟨rfl,trivial⟩) (eN (mN _ _) (eN (mN _ _) (eN (mN _ _) (eN (Ou _ _) (eN (Ou _ _) (eN (tP _ _) (eN (tP _ _) (show gU [false] [_] [_] from trivial))))))))))
theorem DB (a b:Block):aT a=aT b↔a=b:=by
 refine⟨fun h=>?_,fun h=>by rw[h]⟩
 cases a;cases b
 simp only[aT] at h;obtain⟨h0,h⟩:=List.append_inj h (by simp)
 obtain⟨h1,h⟩:=List.append_inj h (by simp)
 obtain⟨h2,h⟩:=List.append_inj h (by simp)
 obtain⟨h3,h⟩:=List.append_inj h (by simp)
 obtain⟨h4,h⟩:=List.append_inj h (by simp)
 obtain⟨h5,h⟩:=List.append_inj h (by simp)
 obtain⟨h6,h⟩:=List.append_inj h (by simp)
 obtain⟨h7,h⟩:=List.append_inj h (by simp)
 obtain⟨h8,h⟩:=List.append_inj h (by simp)
 have e0:=(TP _ _).1 h0
 have e1:=(Ev _ _).1 h1
 have e2:=(oS _ _).1 h2
 have e3:=(oS _ _).1 h3
 have e4:=(oS _ _).1 h4
 have e5:=(Uq _ _).1 h5
 have e6:=(Uq _ _).1 h6
 have e7:=(mX _ _).1 h7
 have e8:=(mX _ _).1 h8
 have e9:=(JH _ _).1 h
 subst e0 e1 e2 e3 e4 e5 e6 e7 e8 e9;rfl
theorem MU (s:Block):rd (aT s) 0 238=aT s:=iZ (bP _)
theorem MV (s x:Block):dG (aT s) 0 (aT x) 238=aT x:=eG (bP _)
structure Node where
 block:Block
 up:Int
 status:Int
def eZ (s:Node):List AV:=aT s.block++(qD s.up++(qD s.status))
@[simp] theorem vT (s:Node):(eZ s).length=240:=by simp[eZ]
theorem Nt (s:Node):∀x∈eZ s,Flat x:=by
 intro x hx;simp only[eZ,List.mem_append,List.mem_singleton] at hx;rcases hx with hx|hx|hx
 ·(exact Cl _ _ hx)
 ·(exact mG _ _ hx)
 ·(exact mG _ _ hx)
theorem GH (s:Node):rd (eZ s) 0 238=aT s.block:=gH (bP _)
theorem GJ (s:Node) (x:Block):dG (eZ s) 0 (aT x) 238=eZ { s with block:=x }:=cH (bP _)
theorem Ju (s:Node):rd (eZ s) 0 66=fJ s.block.dL:=(sZ (by rw[bP];decide)).trans (Hg _)
theorem Ez (s:Node):rd (eZ s) 0 33=bY s.block.dL.pj:=(sZ (by rw[bP];decide)).trans (Bb _)
theorem wQ (s:Node):(eZ s)[0]? = some (.v (.int .u64 s.block.dL.pj.aL)):=(eH (by rw[bP];decide)).trans (sL _)
theorem Fa (s:Node):rd (eZ s) 33 33=bY s.block.dL.pf:=(sZ (by rw[bP];decide)).trans (Bc _)
theorem wR (s:Node):(eZ s)[33]? = some (.v (.int .u64 s.block.dL.pf.aL)):=(eH (by rw[bP];decide)).trans (sM _)
theorem Mf (s:Node):(eZ s)[66]? = some (.v (.int .u64 s.block.slot)):=(eH (by rw[bP];decide)).trans (Js _)
theorem Ox (s:Node):rd (eZ s) 67 32=aX s.block.root:=(sZ (by rw[bP];decide)).trans (Nd _)
theorem Hr (s:Node):rd (eZ s) 131 32=aX s.block.jK:=(sZ (by rw[bP];decide)).trans (Ey _)
theorem Oy (s:Node):rd (eZ s) 171 33=bY s.block.gX:=(sZ (by rw[bP];decide)).trans (Nf _)
theorem Sb (s:Node):rd (eZ s) 204 33=bY s.block.fin:=(sZ (by rw[bP];decide)).trans (Ry _)
theorem TS (s:Node):(eZ s)[238]? = some (.v (.int .i64 s.up)):=(aG rfl (bP _)).trans (rfl)
theorem o9 (s:Node) (x:Int):dG (eZ s) 238 ([.v (.int .i64 x)]) 239=eZ { s with up:=x }:=(aD rfl rfl (bP _)).trans (bI (cH (bC _)))
theorem Hc (s:Node):(eZ s)[239]? = some (.v (.int .i64 s.status)):=(aG rfl (bP _)).trans ((aG rfl (bC _)).trans (rfl))
theorem Iq (s:Node) (x:Int):dG (eZ s) 239 ([.v (.int .i64 x)]) 240=eZ { s with status:=x }:=(aD rfl rfl (bP _)).trans (bI ((aD rfl rfl (bC _)).trans (bI (eG (bC _)))))
def G8:Node:=⟨fV,0,0⟩
def DC:List Value:=Uu++([.int .i64 0]++([.int .i64 0]))
theorem MW:DC.map AV.v=eZ G8:=by simp only[DC,List.map_append,List.map_cons,List.map_nil,jM,jN,Sa];rfl
def aHx:List Bool:=o8++([true]++([true]))
theorem Zv (a b:Node):gU aHx (eZ a) (eZ b):=(eN (Wt _ _) (eN (show gU [true] [_] [_] from ⟨rfl,trivial⟩) (show gU [true] [_] [_] from ⟨rfl,trivial⟩)))
theorem R6 (a b:Node):eZ a=eZ b↔a=b:=by
 refine⟨fun h=>?_,fun h=>by rw[h]⟩
 cases a;cases b
 simp only[eZ] at h;obtain⟨h0,h⟩:=List.append_inj h (by simp)
 obtain⟨h1,h⟩:=List.append_inj h (by simp)
 have e0:=(DB _ _).1 h0
 have e1:=(uZ _ _).1 h1
 have e2:=(uZ _ _).1 h
 subst e0 e1 e2;rfl
theorem TT (s:Node):rd (eZ s) 0 240=eZ s:=iZ (vT _)
theorem TU (s x:Node):dG (eZ s) 0 (eZ x) 240=eZ x:=eG (vT _)
def cD (l:List Node):List AV:=l.flatMap eZ
@[simp] theorem Nv (l:List (Node)):(cD l).length=l.length * 240:=by
 induction l with
 | nil=>rfl
 | cons x l ih=>simp only[cD,List.flatMap_cons,List.length_append,vT,List.length_cons] at *;omega
theorem kE (l:List (Node)):∀x∈cD l,Flat x:=by
 intro x hx;obtain⟨y,_,hy⟩:=List.mem_flatMap.1 hx
 exact Nt y x hy
theorem R7 (l:List (Node)) (i:Nat) (h:i<l.length):rd (cD l) (i * 240) 240=eZ l[i]:=Oq eZ 240 (vT) l i h
structure Tree where
 nodes:List Node
def cU (s:Tree):List AV:=[.sl s.nodes.length (cD s.nodes)]
@[simp] theorem Uv (s:Tree):(cU s).length=1:=by simp[cU]
theorem p4 (s:Tree):∀x∈cU s,Flat x:=by
 intro x hx;simp only[cU,List.mem_append,List.mem_singleton] at hx;(subst hx;exact .sl _ _ (kE _))
theorem DD (s:Tree):(cU s)[0]? = some (.sl s.nodes.length (cD s.nodes)):=rfl
theorem TV (s:Tree):rd (cU s) 0 1=cU s:=iZ (Uv _)
theorem TW (s x:Tree):dG (cU s) 0 (cU x) 1=cU x:=eG (Uv _)
end Go.Ab
end
section
namespace Go.Ab
open Classical
def yY (e sz by_:Nat) (v:Option (Nat × List AV)):Option (Option (Nat × Nat) × jC) :=
 match v with
 | some (m,news)=>if news.length=m * sz/\m * by_<=140737488355328/\m<=maxLen then some (none,.row e sz m news) else none
 | none=>none
def yK (e sz by_:Nat) (o:Option jC) (s g:Nat) (v:Option (Nat × List AV)):Option (Option (Nat × Nat) × jC) :=
 match o,v with
 | some (.row e' rS n cs),some (m,news)=>if news.length=m * sz/\e'=e/\rS=sz/\(n+m) * by_<=140737488355328/\n+m<=maxLen then some (some (s,g),.row e sz (n+m) (cs++news)) else none
 | _,_=>none
def acE (e sz by_ n:Nat) (cs:List AV) (v:Option (Nat × List AV)):Option (Option (Nat × Nat) × jC) :=
 match v with
 | some (m,news)=>if news.length=m * sz/\cs.length=n * sz/\(n=0\/0<m)/\(n+m) * by_<=140737488355328/\n+m<=maxLen then some (none,.row e sz (n+m) (cs++news)) else none
 | none=>none
section
variable {P:Program} {st:St} {T e sz by_:Nat}
theorem vB (hs:dI P T=some (e,sz,by_)) (x:AV):cY P st T (.v (.slice none 0 0)) x=yY e sz by_ (aQ st x):=by
 simp only[cY,hs,yY];cases aQ st x with
 | none=>rfl
 | some v =>
   obtain⟨m,news⟩:=v
   by_cases h1:news.length=m * sz<;>simp[h1]
theorem sG (hs:dI P T=some (e,sz,by_)) (s g:Nat) (x:AV):cY P st T (.own s g) x=yK e sz by_ (st.heap s g) s g (aQ st x):=by
 simp only[cY,hs,yK];cases aQ st x with
 | none=>cases st.heap s g with
   | none=>rfl
   | some o=>cases o<;>rfl
 | some v =>
   obtain⟨m,news⟩:=v
   cases st.heap s g with
   | none=>by_cases h1:news.length=m * sz<;>simp[h1]
   | some o =>
     cases o with
     | row a b n cs=>by_cases h1:news.length=m * sz<;>simp[h1]
     | _=>by_cases h1:news.length=m * sz<;>simp[h1]
theorem aJx (hs:dI P T=some (e,sz,by_)) (n:Nat) (cs:List AV) (x:AV):cY P st T (.cl n cs) x=acE e sz by_ n cs (aQ st x):=by
 simp only[cY,hs,acE];cases aQ st x with
 | none=>rfl
 | some v =>
   obtain⟨m,news⟩:=v
   by_cases h1:news.length=m * sz<;>simp[h1]
end
def TX (e sz:Nat) (o:Option jC) (s g:Nat) (i:Int):Option AV :=
 match o with
 | some (.row e' rS n _)=>if 0<=i/\i<n/\e'=e/\rS=sz then some (.ptr s g (i.toNat * sz)) else none
 | some (.Dh e' rS n _)=>if 0<=i/\i<n/\e'=e/\rS=sz then some (.ptr s g (i.toNat * sz)) else none
 | _=>none
theorem Sc {P:Program} {st:St} {T e sz by_:Nat} (hn:jI P T=none) (hs:dI P T=some (e,sz,by_)) (s g:Nat) (k:IntKind) (i:Int):bE P st T (.own s g) (.v (.int k i))=TX e sz (st.heap s g) s g i:=by
 simp only[bE,hn,hs,TX];cases st.heap s g with
 | none=>rfl
 | some e=>cases e<;>rfl
theorem aFl (e sz n:Nat) (cs:List AV) (s g:Nat) (i:Int) (h0:0<=i) (h1:i<n):TX e sz (some (.row e sz n cs)) s g i=some (.ptr s g (i.toNat * sz)):=by
 simp[TX,h0,h1]
theorem Oz [Ext] {P:Program} {S e sz by_:Nat} {z:List Value} (hs:dI P S=some (e,sz,by_)) (hz:dU P e=some z) {call:Nat->List AV->Option AV} {ops:Array Oper} {st:St} {T:Nat} {pos:String} {eK:Array Edge} (d:Nat) :
 cE P call ops ⟨some d,.buildSlice S 0 #[],T,pos,eK,none⟩ st=some ((st.new d (.row e sz 0 [])).put (some d) (.own d (st.aK d))):=by
 rw[jS,hs];simp[cA,hz,gM]
def elV {α:Type} (x:AV) (k:Value->Option α) (fb:Option α):Option α :=
 match x with
 | .v y=>if y.oneCell'=true then k y else fb
 | _=>fb
theorem aFn {α:Type} (kk:IntKind) (n:Int) (k:Value->Option α) (fb:Option α):elV (.v (.int kk n)) k fb=k (.int kk n):=rfl
theorem aCA {α:Type} (n:Bool) (k:Value->Option α) (fb:Option α):elV (.v (.bool n)) k fb=k (.bool n):=rfl
@[congr] theorem aLN {α:Type} {x y:AV} {k:Value->Option α} {fb:Option α} (h:x=y):elV x k fb=elV y k fb:=by rw[h]
theorem MX [Ext] {P:Program} {S e by_:Nat} {z:Value} (hs:dI P S=some (e,1,by_)) (hz:dU P e=some [z]) {call:Nat->List AV->Option AV} {ops:Array Oper} {st:St} {T:Nat} {pos:String} {eK:Array Edge} (d:Nat) (x:Operand) :
 cE P call ops ⟨some d,.buildSlice S 1 #[(0,x)],T,pos,eK,none⟩ st=elV (st.ev x) (fun y=>some ((st.new d (.row e 1 1 [.v y])).put (some d) (.own d (st.aK d)))) (cE P call ops ⟨some d,.buildSlice S 1 #[(0,x)],T,pos,eK,none⟩ st):=by
 unfold elV;split
 ·rename_i y h;split
  ·rename_i hy;rw[jS,hs];simp[hz,cA,h,AV.jO,hy,gM,AV.cells]
  ·rfl
 ·rfl
def X6 {α:Type} (z:Nat) (x:AV) (k:List AV->Option α) (fb:Option α):Option α :=
 match x with
 | .agg cs=>if cs.length=z then k cs else fb
 | _=>fb
theorem aFo {α:Type} (z:Nat) (cs:List AV) (k:List AV->Option α) (fb:Option α) (h:cs.length=z):X6 z (.agg cs) k fb=k cs:=if_pos h
@[congr] theorem aLO {α:Type} {z:Nat} {x y:AV} {k:List AV->Option α} {fb:Option α} (h:x=y):X6 z x k fb=X6 z y k fb:=by rw[h]
theorem Gv [Ext] {P:Program} {S e sz by_:Nat} {z:List Value} (hs:dI P S=some (e,sz,by_)) (hz:dU P e=some z) (hl:z.length=sz) (hm:sz<=2 ^ 24) {call:Nat->List AV->Option AV} {ops:Array Oper} {st:St} {T:Nat} {pos:String} {eK:Array Edge} (d:Nat) (x:Operand) :
 cE P call ops ⟨some d,.buildSlice S 1 #[(0,x)],T,pos,eK,none⟩ st=X6 sz (st.ev x) (fun cs=>some ((st.new d (.row e sz 1 cs)).put (some d) (.own d (st.aK d)))) (cE P call ops ⟨some d,.buildSlice S 1 #[(0,x)],T,pos,eK,none⟩ st):=by
 unfold X6;split
 ·rename_i cs h;split
  ·rename_i hc;have h2:((List.range 1).flatMap fun _=>z.map AV.v)=z.map AV.v:=by simp[List.range,List.range.loop]
   have hzl:(z.map AV.v).length=sz:=by simpa using hl
   rw[jS,hs];simp only[hz,cA,List.toList_toArray,List.all_cons,List.all_nil,h,AV.jO,Bool.and_self,List.map_cons,List.map_nil,gM,AV.cells,hc,Nat.zero_mul,Nat.zero_add,List.take_zero,List.nil_append];rw[h2,if_pos (by simpa using hm),if_pos (by simp[hzl])]
   rw[List.drop_of_length_le (by rw[hzl];exact Nat.le_refl _),List.append_nil]
  ·rfl
 ·rfl
theorem Fy {e sz by_ s g n:Nat} {cs:List AV} (hl:cs.length=n * sz) (hb:(n:Int) * by_<=140737488355328) (hm:(n:Int)<=maxLen):yK e sz by_ (some (.row e sz 0 [])) s g (some (n,cs))=some (some (s,g),.row e sz n cs):=by
 simp only[yK];simp only[Nat.zero_add,true_and,List.nil_append];have nA:n * by_<=140737488355328:=by
  have:((n * by_:Nat):Int)<=140737488355328:=by rw[Int.natCast_mul];exact hb
  omega
 rw[if_pos ⟨hl,nA,by omega⟩]
end Go.Ab
end
section
namespace Go.Ab
open Classical
variable [Ext]
@[congr] theorem aLP {P:Program} {bi:Bool} {c:Code} {s t:St} (h:s=t):wW P bi c s=wW P bi c t:=by rw[h]
theorem R9 {P:Program} {bi:Bool} (c:Operand) (a b:Code) (st:St):wW P bi (.cond c a b) st=onB (st.ev c) fun t=>if t=true then wW P bi a st else wW P bi b st:=by
 cases h:st.ev c with
 | v x =>
   cases x with
   | bool t=>exact BN P c a b st h
   | _ =>
     apply Option.ext
     intro r;rw[gL];constructor
     ·rintro⟨n,m,h'⟩
      cases m with
      | zero=>simp[uF] at h'
      | succ m=>simp[uF,h] at h'
     ·intro h';simp[onB] at h'
 | _ =>
   apply Option.ext
   intro r;rw[gL];constructor
   ·rintro⟨n,m,h'⟩
    cases m with
    | zero=>simp[uF] at h'
    | succ m=>simp[uF,h] at h'
   ·intro h';simp[onB] at h'
section
variable {P:Program} {call:Nat->List AV->Option AV} {inl:Nat->List AV->St->Option (AV × St)} {ops:Array Oper} {st:St}
theorem p5:lI P true call inl ops [] st=some st:=rfl
theorem TY (o:Oper) (l:List Oper):lI P true call inl ops (o :: l) st=cA (gG P true call inl ops o st) (lI P true call inl ops l):=rfl
@[congr] theorem aHy {o:Oper} {s t:St} (h:s=t):gG P true call inl ops o s=gG P true call inl ops o t:=by rw[h]
theorem aCB {o:Oper} (h:Dj o=none):gG P true call inl ops o st=cE P call ops o st:=by
 unfold gG;rw[if_pos rfl,h]
theorem S3 {d:Option Nat} {g:Nat} {args:Array Operand} {tN:Array Nat} {T:Nat} {pos:String} {eK:Array Edge} (h:Ext.inl g d=true) :
 gG P true call inl ops ⟨d,.call ⟨.value (.func g),args,tN⟩,T,pos,eK,none⟩ st=cA (inl g (args.toList.map st.ev) st) fun r=>some ((st.back r.2).put d r.1):=by
 have e:Dj ⟨d,.call ⟨.value (.func g),args,tN⟩,T,pos,eK,none⟩=some (g,args.toList):=by
  unfold Dj;simp only
  rw[if_pos h]
 unfold gG;rw[if_pos rfl,e];simp only[gv,if_true];cases inl g (args.toList.map st.ev) st<;>rfl
end
theorem dW (st s:St):(st.back s).env=st.env:=rfl
theorem bW (st s:St):(st.back s).heap=s.heap:=rfl
theorem bM (st s:St):(st.back s).aK=s.aK:=rfl
theorem Je {P:Program} {fn:Func} {st:St} {e:Ex} {r:ResultVar} {x:AV} (he:e=.ret\/e=.normal) (hr:fn.results.toList=[r]) (h1:jB P st r=some x):aJp P fn (e,st)=some (x,st):=by
 have h:tE P fn st=some x:=by
  unfold tE;rw[hr];exact h1
 rcases he with rfl|rfl<;>simp only[aJp,h,Option.map_some]
theorem p6 {P:Program} {bi:Bool} {b:Code} (Inv:Nat->St->Prop) (Q:Ex->St->Prop)
 (step:∀n st,Inv n st->∃e st',wW P bi b st=some (e,st')/\((e=.normal/\∃m,m<n/\Inv m st')\/(e≠.normal/\Q e st'))):∀n st,Inv n st->∃e st',wW P bi (.loop b) st=some (e,st')/\e≠.normal/\Q e st':=by
 intro n;induction n using Nat.strongRecOn with
 | _ n ih =>
   intro st h;obtain⟨e,s1,h1,h2⟩:=step n st h
   rw[BO,h1];rcases h2 with ⟨rfl,m,hm,hi⟩|⟨gI,hq⟩
   ·exact ih m hm s1 hi
   ·refine⟨e,s1, ?_,gI,hq⟩
    cases e with
    | normal=>exact absurd rfl gI
    | _=>rfl
theorem mD {P:Program} {bi:Bool} {b:Code} {st:St} {β:Type} {k:Ex × St->Option β} {R:β->Prop} (Inv:Nat->St->Prop) (Q:Ex->St->Prop) (n:Nat)
 (step:∀n st,Inv n st->∃e st',wW P bi b st=some (e,st')/\((e=.normal/\∃m,m<n/\Inv m st')\/(e≠.normal/\Q e st')))
 (start:Inv n st) (rest:∀e st',Q e st'->∃r,k (e,st')=some r/\R r):∃r,cA (wW P bi (.loop b) st) k=some r/\R r:=by
 obtain⟨e,s1,h1,h2,h3⟩:=p6 Inv Q step n st start
 rw[h1];exact rest e s1 h3
theorem aJy {P:Program} {bi:Bool} {b:Code} {st st':St} {n:Nat} {Inv:Nat->St->Prop} {Q:Ex->St->Prop} (h:wW P bi b st=some (.normal,st')) (m:Nat) (hm:m<n) (hi:Inv m st') :
 ∃e st',wW P bi b st=some (e,st')/\((e=.normal/\∃m,m<n/\Inv m st')\/(e≠.normal/\Q e st')):=⟨_,_,h,.inl ⟨rfl,m,hm,hi⟩⟩
theorem aFp {P:Program} {bi:Bool} {b:Code} {st st':St} {e:Ex} {n:Nat} {Inv:Nat->St->Prop} {Q:Ex->St->Prop} (h:wW P bi b st=some (e,st')) (he:e≠.normal) (hq:Q e st') :
 ∃e st',wW P bi b st=some (e,st')/\((e=.normal/\∃m,m<n/\Inv m st')\/(e≠.normal/\Q e st')):=⟨_,_,h,.inr ⟨he,hq⟩⟩
theorem TZ {P:Program} {id:Nat} {ops:Array Oper} {d:Bool} {st:St} {l:List (Nat × Nat)} (h:Ext.dyn id ops.size (pO ops)=l) :
 wW P true (.region id ops d) st=cA (lI P true (aC P) (rK P) ops ops.toList st) fun s=>if pB ops s l then some (.normal,s) else none:=by
 rw[Oi];congr 1
 funext s
 rw[h];by_cases hf:pB ops s l
 ·rw[if_pos hf,if_neg];rintro⟨_,hn⟩
  exact hn hf
 ·rw[if_neg hf,if_pos ⟨rfl,hf⟩]
theorem S4 (ops:Array Oper) (s:St):pB ops s []=True:=rfl
theorem p7 (ops:Array Oper) (s:St) (p:Nat × Nat) (l:List (Nat × Nat)):pB ops s (p :: l)=(Nq ops s p/\pB ops s l):=rfl
def UA (s:St) (x y:Option (List Nat)):Prop:=match x,y with|some aS,some bs=>Np s aS bs|_,_=>False
theorem S5 (ops:Array Oper) (s:St) (i j:Nat):Nq ops s (i,j)=UA s ((ops[i]?).bind gJ) ((ops[j]?).bind gJ):=rfl
theorem aCC (s:St) (a b:Nat):UA s (some [a]) (some [b])=fD (s.env a) (s.env b):=by simp[UA,Np]
theorem aCD (s:St) (a a' b:Nat):UA s (some [a,a']) (some [b])=(fD (s.env a) (s.env b)/\fD (s.env a') (s.env b)):=by simp[UA,Np]
@[congr] theorem aCE {x y x' y':AV} (h:x=x') (h':y=y'):fD x y=fD x' y':=by rw[h,h']
theorem UB (s g o s' g' o':Nat):fD (.ptr s g o) (.ptr s' g' o')=((s,g)≠(s',g')):=rfl
theorem UC (s g o s' g':Nat):fD (.ptr s g o) (.own s' g')=((s,g)≠(s',g')):=rfl
theorem UD (s g s' g' o':Nat):fD (.own s g) (.ptr s' g' o')=((s,g)≠(s',g')):=rfl
theorem UE (x:Value) (s g o:Nat):fD (.v x) (.ptr s g o)=True:=rfl
theorem UF (x:Value) (s g o:Nat):fD (.ptr s g o) (.v x)=True:=rfl
theorem UG (s g n:Nat) (cs:List AV):fD (.own s g) (.sl n cs)=True:=rfl
theorem UH (s g n:Nat) (cs:List AV):fD (.sl n cs) (.own s g)=True:=rfl
theorem UI (s g o n:Nat) (cs:List AV):fD (.sl n cs) (.ptr s g o)=True:=rfl
theorem UJ (s g o n:Nat) (cs:List AV):fD (.ptr s g o) (.sl n cs)=True:=rfl
theorem UK (n m:Nat) (cs ds:List AV):fD (.sl n cs) (.sl m ds)=True:=rfl
theorem UL (s g:Nat) (x:Value):fD (.own s g) (.v x)=True:=rfl
theorem UM (s g:Nat) (x:Value):fD (.v x) (.own s g)=True:=rfl
theorem UN (x:Value) (n:Nat) (cs:List AV):fD (.v x) (.sl n cs)=True:=rfl
theorem UO (x:Value) (n:Nat) (cs:List AV):fD (.sl n cs) (.v x)=True:=rfl
def N5 (x y:AV):Option AV :=
 match x,y with
 | .v (.int k a),.v (.int _ b)=>some (.v (.int k (if b<a then b else a)))
 | _,_=>none
def N4 (x y:AV):Option AV :=
 match x,y with
 | .v (.int k a),.v (.int _ b)=>some (.v (.int k (if b > a then b else a)))
 | _,_=>none
theorem At (k k':IntKind) (a b:Int):N5 (.v (.int k a)) (.v (.int k' b))=some (.v (.int k (if b<a then b else a))):=rfl
theorem As (k k':IntKind) (a b:Int):N4 (.v (.int k a)) (.v (.int k' b))=some (.v (.int k (if a<b then b else a))):=rfl
@[congr] theorem aJz {x y x' y':AV} (h:x=x') (h':y=y'):N5 x y=N5 x' y':=by rw[h,h']
@[congr] theorem aJA {x y x' y':AV} (h:x=x') (h':y=y'):N4 x y=N4 x' y':=by rw[h,h']
theorem Uw {P:Program} {call:Nat->List AV->Option AV} {ops:Array Oper} {st:St} {d:Option Nat} {T:Nat} {pos:String} {eK:Array Edge} (x y:Operand) (tN:Array Nat) :
 cE P call ops ⟨d,.call ⟨.builtin .min,#[x,y],tN⟩,T,pos,eK,none⟩ st=cA (N5 (st.ev x) (st.ev y)) fun v=>some (st.put d v):=by
 rw[dS];simp only[cZ,hU,N5];cases st.ev x with
 | v a=>cases a with
   | int k a=>cases st.ev y with
     | v b=>cases b<;>rfl
     | _=>rfl
   | _=>rfl
 | _=>rfl
theorem Ux {P:Program} {call:Nat->List AV->Option AV} {ops:Array Oper} {st:St} {d:Option Nat} {T:Nat} {pos:String} {eK:Array Edge} (x y:Operand) (tN:Array Nat) :
 cE P call ops ⟨d,.call ⟨.builtin .max,#[x,y],tN⟩,T,pos,eK,none⟩ st=cA (N4 (st.ev x) (st.ev y)) fun v=>some (st.put d v):=by
 rw[dS];simp only[cZ,hU,N4];cases st.ev x with
 | v a=>cases a with
   | int k a=>cases st.ev y with
     | v b=>cases b<;>rfl
     | _=>rfl
   | _=>rfl
 | _=>rfl
noncomputable def mvE (call:Nat->List AV->Option AV) (g:Nat) (rest:List AV) (s k d c:Nat) (o:Option jC):Option mA :=
 match o with
 | some (.row e sz n cs) =>
   if (∀c∈cs,Flat c)/\∀x∈rest,Flat x then
    match call g (.uniq e sz n cs :: rest) with
    | some (.uniq e' rS n' Br)=>some { dst:=some d,val:=.own d c,dG:=some (s,k,none),new:=some (d,[.row e' rS n' Br])}
    | some (.dX [.uniq e' rS n' Br])=>some { dst:=some d,val:=.dX [],dG:=some (s,k,some (.row e' rS n' Br))}
    | _=>none
   else none
 | _=>none
theorem p8 (call:Nat->List AV->Option AV) (g s k d:Nat) (rest:List AV) (st:St):kN call g (.own s k :: rest) st (some d)=mvE call g rest s k d (st.aK d) (st.heap s k):=by
 unfold kN mvE;simp only
 cases st.heap s k with
 | none=>rfl
 | some o =>
   cases o with
   | row e sz n cs =>
     simp only
     by_cases hc:(∀c∈cs,Flat c)/\∀x∈rest,Flat x
     ·simp only[if_pos hc];cases call g (.uniq e sz n cs :: rest) with
      | none=>rfl
      | some r =>
        cases r with
        | dX vs =>
          cases vs with
          | nil=>rfl
          | cons x xs =>
            cases x with
            | uniq _ _ _ _=>cases xs<;>rfl
            | _=>rfl
        | _=>rfl
     ·simp only[if_neg hc]
   | _=>rfl
theorem aAu {call:Nat->List AV->Option AV} {g:Nat} {rest:List AV} {s k d c e sz n e' rS n':Nat} {cs Br:List AV} (hf:∀c∈cs,Flat c) (hr:∀x∈rest,Flat x) (hc:call g (.uniq e sz n cs :: rest)=some (.uniq e' rS n' Br)) :
 mvE call g rest s k d c (some (.row e sz n cs))=some { dst:=some d,val:=.own d c,dG:=some (s,k,none),new:=some (d,[.row e' rS n' Br])}:=by
 unfold mvE;simp only
 rw[if_pos ⟨hf,hr⟩,hc]
@[congr] theorem aLQ {call:Nat->List AV->Option AV} {g:Nat} {rest:List AV} {s k d c c':Nat} {o o':Option jC} (h:c=c') (h':o=o'):mvE call g rest s k d c o=mvE call g rest s k d c' o':=by rw[h,h']
theorem YD {call:Nat->List AV->Option AV} {g d:Nat} {rest:List AV} {st:St} {e sz n:Nat} {cs:List AV} (hr:∀x∈rest,Flat x) (hc:call g (.v (.slice none 0 0) :: rest)=some (.uniq e sz n cs)) :
 kN call g (.v (.slice none 0 0) :: rest) st (some d)=some { dst:=some d,val:=.own d (st.aK d),new:=some (d,[.row e sz n cs])}:=by
 have hf:∀x∈AV.v (.slice none 0 0) :: rest,Flat x:=by
  intro x hx;rcases List.mem_cons.1 hx with rfl|hx
  ·exact .v _
  ·exact hr x hx
 have hnf:¬Flat (.uniq e sz n cs):=by intro h;cases h
 unfold kN;simp only[if_pos hf];unfold aN;rw[if_pos hf,hc];simp only[cA];unfold iG;rw[if_neg hnf];rfl
theorem aAt {P:Program} {fn:Func} {st:St} {e:Ex} {r:ResultVar} {s g ee sz n:Nat} {cs:List AV} (he:e=.ret\/e=.normal) (hr:fn.results.toList=[r]) (h1:jB P st r=some (.own s g)) (h2:st.heap s g=some (.row ee sz n cs)) (hm:∀c∈cs,eE c) :
 aAs P fn (e,st)=some (.uniq ee sz n cs):=by
 have h:Bs P fn st=some (.uniq ee sz n cs):=by
  unfold Bs;rw[hr];simp only[h1,h2];rw[if_pos hm]
 rcases he with rfl|rfl<;>exact h
theorem mJ (e sz n:Nat) (cs rest:List AV):(St.oB e sz n cs rest).env 0=.own 0 0:=rfl
theorem oJ (e sz n:Nat) (cs rest:List AV) (t:Nat):(St.oB e sz n cs rest).env (t+1)=(rest[t]?).getD (.v undef):=rfl
theorem mK (e sz n:Nat) (cs rest:List AV):(St.oB e sz n cs rest).heap 0 0=some (.row e sz n cs):=rfl
theorem mL (e sz n:Nat) (cs rest:List AV):(St.oB e sz n cs rest).aK 0=1:=rfl
theorem oK (e sz n:Nat) (cs rest:List AV) (s:Nat) (h:s≠0):(St.oB e sz n cs rest).aK s=0:=if_neg h
end Go.Ab
end
section
namespace Go.Ab
open Classical
variable [Ext]
theorem Qv {P:Program} {a:Code} {st:St} {β:Type} {k:Ex × St->Option β} {R:β->Prop} (Q:Ex->St->Prop) (h:∃e st',Ac P a st=some (e,st')/\Q e st')
 (rest:∀e st',Q e st'->∃r,k (e,st')=some r/\R r):∃r,cA (Ac P a st) k=some r/\R r:=by
 obtain⟨e,s1,h1,h2⟩:=h
 rw[h1];exact rest e s1 h2
theorem Kx {P:Program} {bi:Bool} {a:Code} {st:St} {β:Type} {k:Ex × St->Option β} {R:β->Prop} (Q:Ex->St->Prop) (h:∃e st',wW P bi a st=some (e,st')/\Q e st')
 (rest:∀e st',Q e st'->∃r,k (e,st')=some r/\R r):∃r,cA (wW P bi a st) k=some r/\R r:=by
 obtain⟨e,s1,h1,h2⟩:=h
 rw[h1];exact rest e s1 h2
theorem iX {β:Type} {x:Option β} {v:β} (h:∃r,x=some r/\r=v):x=some v:=by
 obtain⟨r,h,rfl⟩:=h;exact h
theorem UP {P:Program} {id:Nat} {ops:Array Oper} {d:Bool} {st:St} :
 wW P true (.region id ops d) st=cA (lI P true (aC P) (rK P) ops ops.toList st) fun s=>if pB ops s (Ext.dyn id ops.size (pO ops)) then some (.normal,s) else none:=TZ rfl
theorem p9 (o:Oper) (l:List Oper):pO (o :: l).toArray=o.dst:=by simp[pO]
section
variable {P:Program} {call:Nat->List AV->Option AV} {inl:Nat->List AV->St->Option (AV × St)} {ops:Array Oper} {st:St} {d:Option Nat} {T:Nat} {pos:String} {eK:Array Edge} {g:Option (Nat × Bool)}
theorem aFq (x:Operand):gG P true call inl ops ⟨d,.move x,T,pos,eK,g⟩ st=cE P call ops ⟨d,.move x,T,pos,eK,g⟩ st:=rfl
theorem S6 (x:Operand):gG P true call inl ops ⟨d,.assign x,T,pos,eK,g⟩ st=cE P call ops ⟨d,.assign x,T,pos,eK,g⟩ st:=rfl
theorem aFr (x y z:Operand):gG P true call inl ops ⟨d,.pick x y z,T,pos,eK,g⟩ st=cE P call ops ⟨d,.pick x y z,T,pos,eK,g⟩ st:=rfl
theorem aCF (S:Nat):gG P true call inl ops ⟨d,.alloc S,T,pos,eK,g⟩ st=cE P call ops ⟨d,.alloc S,T,pos,eK,g⟩ st:=rfl
theorem aJB (S:Nat) (x:Operand):gG P true call inl ops ⟨d,.box S x,T,pos,eK,g⟩ st=cE P call ops ⟨d,.box S x,T,pos,eK,g⟩ st:=rfl
theorem aCG (S:Nat) (x:Array (Nat × Operand)):gG P true call inl ops ⟨d,.build S x,T,pos,eK,g⟩ st=cE P call ops ⟨d,.build S x,T,pos,eK,g⟩ st:=rfl
theorem GK (S n:Nat) (x:Array (Nat × Operand)):gG P true call inl ops ⟨d,.buildSlice S n x,T,pos,eK,g⟩ st=cE P call ops ⟨d,.buildSlice S n x,T,pos,eK,g⟩ st:=rfl
theorem MY (S:Nat) (x y:Operand):gG P true call inl ops ⟨d,.makeSlice S x y,T,pos,eK,g⟩ st=cE P call ops ⟨d,.makeSlice S x y,T,pos,eK,g⟩ st:=rfl
theorem UQ (f:Fn) (x y:Array Operand):gG P true call inl ops ⟨d,.makeFunc f x y,T,pos,eK,g⟩ st=cE P call ops ⟨d,.makeFunc f x y,T,pos,eK,g⟩ st:=rfl
theorem aFs (S:Nat) (x:Operand):gG P true call inl ops ⟨d,.load S x,T,pos,eK,g⟩ st=cE P call ops ⟨d,.load S x,T,pos,eK,g⟩ st:=rfl
theorem aCH (S:Nat) (x y:Operand):gG P true call inl ops ⟨d,.store S x y,T,pos,eK,g⟩ st=cE P call ops ⟨d,.store S x y,T,pos,eK,g⟩ st:=rfl
theorem aCI (o:BinOp) (S S':Nat) (x y:Operand):gG P true call inl ops ⟨d,.binOp o S x y S',T,pos,eK,g⟩ st=cE P call ops ⟨d,.binOp o S x y S',T,pos,eK,g⟩ st:=rfl
theorem aFt (o:UnOp) (S:Nat) (x:Operand):gG P true call inl ops ⟨d,.unOp o S x,T,pos,eK,g⟩ st=cE P call ops ⟨d,.unOp o S x,T,pos,eK,g⟩ st:=rfl
theorem MZ (S f:Nat) (x:Operand):gG P true call inl ops ⟨d,.fieldAddr S x f,T,pos,eK,g⟩ st=cE P call ops ⟨d,.fieldAddr S x f,T,pos,eK,g⟩ st:=rfl
theorem aCJ (S f:Nat) (x:Operand):gG P true call inl ops ⟨d,.field S x f,T,pos,eK,g⟩ st=cE P call ops ⟨d,.field S x f,T,pos,eK,g⟩ st:=rfl
theorem NA (S:Nat) (x y:Operand):gG P true call inl ops ⟨d,.indexAddr S x y,T,pos,eK,g⟩ st=cE P call ops ⟨d,.indexAddr S x y,T,pos,eK,g⟩ st:=rfl
theorem r7 (S S':Nat) (x:Operand):gG P true call inl ops ⟨d,.convert S S' x,T,pos,eK,g⟩ st=cE P call ops ⟨d,.convert S S' x,T,pos,eK,g⟩ st:=rfl
theorem r9 (x:Operand) (i:Nat):gG P true call inl ops ⟨d,.extract x i,T,pos,eK,g⟩ st=cE P call ops ⟨d,.extract x i,T,pos,eK,g⟩ st:=rfl
theorem aCK (S:Nat) (x:Operand) (a b c:Option Operand):gG P true call inl ops ⟨d,.slice S x a b c,T,pos,eK,g⟩ st=cE P call ops ⟨d,.slice S x a b c,T,pos,eK,g⟩ st:=rfl
theorem u4 (b:Builtin) (x:Array Operand) (y:Array Nat):gG P true call inl ops ⟨d,.call ⟨.builtin b,x,y⟩,T,pos,eK,g⟩ st=cE P call ops ⟨d,.call ⟨.builtin b,x,y⟩,T,pos,eK,g⟩ st:=rfl
theorem aJC (t:Nat) (x:Array Operand) (y:Array Nat):gG P true call inl ops ⟨d,.call ⟨.value (.tmp t),x,y⟩,T,pos,eK,g⟩ st=cE P call ops ⟨d,.call ⟨.value (.tmp t),x,y⟩,T,pos,eK,g⟩ st:=rfl
theorem aFu (f:Nat) (x:Array Operand) (y:Array Nat) (h:Ext.inl f d=false):gG P true call inl ops ⟨d,.call ⟨.value (.func f),x,y⟩,T,pos,eK,g⟩ st=cE P call ops ⟨d,.call ⟨.value (.func f),x,y⟩,T,pos,eK,g⟩ st:=aCB (by unfold Dj;simp[h])
theorem KQ (f:Nat) (x:Array Operand) (y:Array Nat) (h:Ext.inl f d=true):gG P true call inl ops ⟨d,.call ⟨.value (.func f),x,y⟩,T,pos,eK,none⟩ st=cA (inl f (x.toList.map st.ev) st) fun r=>some ((st.back r.2).put d r.1):=S3 h
theorem aFv (S a:Nat):gJ ⟨d,.load S (.tmp a),T,pos,eK,none⟩=some [a]:=rfl
theorem aCL (S a:Nat) (x:Operand):gJ ⟨d,.store S (.tmp a) x,T,pos,eK,none⟩=some [a]:=rfl
theorem aCM (S a:Nat) (x:Operand):gJ ⟨d,.indexAddr S (.tmp a) x,T,pos,eK,none⟩=some [a]:=rfl
theorem aCN (S a:Nat) (x y z:Option Operand):gJ ⟨d,.slice S (.tmp a) x y z,T,pos,eK,none⟩=some [a]:=rfl
theorem aJD (a:Nat) (y:Array Nat):gJ ⟨d,.call ⟨.builtin .len,#[.tmp a],y⟩,T,pos,eK,none⟩=some [a]:=rfl
theorem S7 (a b:Nat) (y:Array Nat):gJ ⟨d,.call ⟨.builtin .append,#[.tmp a,.tmp b],y⟩,T,pos,eK,none⟩=some [a,b]:=rfl
theorem aCO (f a:Nat) (b:Operand) (y:Array Nat) (h:Ext.mv f=true):gJ ⟨d,.call ⟨.value (.func f),#[.tmp a,b],y⟩,T,pos,eK,none⟩=some [a]:=by simp[gJ,h]
end
end Go.Ab
end
