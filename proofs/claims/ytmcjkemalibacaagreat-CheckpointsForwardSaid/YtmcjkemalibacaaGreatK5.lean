/-
  Part 5 of the proof: an evaluator of programs, its soundness, and what functions of this program compute.
-/
import Derived.Test.YtmcjkemalibacaaGreatK4
set_option linter.all false
set_option maxRecDepth 20000
set_option maxHeartbeats 40000000
open Go.IntKind (i64)
open List
noncomputable section
section
namespace Go.Ab
open Classical
variable [Ext]
def rd (cs:List AV) (o k:Nat):List AV:=(cs.drop o).take k
def onB {α:Type} (x:AV) (k:Bool->Option α):Option α :=
 match x with
 | .v (.bool b)=>k b
 | _=>none
section
variable (P:Program)
def eZ (T:Nat) (cs:List AV) (o:Nat):Option AV :=
 match fW P T with
 | some (true,k)=>if 0<k/\k<=cs.length-o then some (.agg (rd cs o k)) else none
 | some (false,_)=>cs[o]?
 | none=>none
def Hx (st:St) (T:Nat) (x:AV):Option AV :=
 match x with
 | .ip cs o=>eZ P T cs o
 | .ptr s g o =>
   match st.heap s g with
   | some (.cells cs)=>eZ P T cs o
   | some (.row _ _ _ cs)=>eZ P T cs o
   | some (.Ii _ _ _ cs)=>eZ P T cs o
   | _=>none
 | _=>none
theorem Zn (T:Nat) (cs:List AV) (o:Nat):zK P T (cs.drop o)=eZ P T cs o:=by
 unfold zK eZ;cases fW P T with
 | none=>rfl
 | some bk =>
   obtain⟨b,k⟩:=bk
   cases b
   ·simp
   ·simp[rd]
theorem Sq (st:St) (T:Nat) (x:AV):cT (rG st x) (zK P T)=Hx P st T x:=by
 cases x<;>simp only[rG,cT,Hx,Zn]
 split<;>rename_i h
 ·split at h
  ·rename_i h';cases h;rw[h'];exact Zn P T _ _
  ·rename_i h';cases h;rw[h'];exact Zn P T _ _
  ·rename_i h';cases h;rw[h'];exact Zn P T _ _
  ·cases h
 ·split at h
  ·cases h
  ·cases h
  ·cases h
  ·rename_i h1 h2 h3;split<;>first|rfl|(rename_i h';first|exact absurd h' (h1 _)|exact absurd h' (h2 _ _ _ _)|exact absurd h' (h3 _ _ _ _))
def Zo (st:St) (T:Nat) (a x:AV):Option St:=(qQ P st T a x).map fun u=>st.jG u.1 u.2.1 (some u.2.2)
variable {P}
variable {call:Nat->List AV->Option AV} {ops:Array Oper} {st:St} {d:Option Nat} {T:Nat} {pos:String} {fB:Array Edge}
@[congr] theorem aLa {α β:Type} {x y:Option α} {f:α->Option β} (h:x=y):cT x f=cT y f:=by rw[h]
@[congr] theorem aLb {α:Type} {x y:AV} {k:Bool->Option α} (h:x=y):onB x k=onB y k:=by rw[h]
@[congr] theorem aHe {l:List Oper} {s t:St} (h:s=t):Qk P call ops l s=Qk P call ops l t:=by rw[h]
@[congr] theorem aIX {o:Oper} {s t:St} (h:s=t):cI P call ops o s=cI P call ops o t:=by rw[h]
@[congr] theorem aLc {c:Code} {s t:St} (h:s=t):Bx P c s=Bx P c t:=by rw[h]
theorem cF {α β:Type} (a:α) (f:α->Option β):cT (some a) f=f a:=rfl
theorem Ba {α β:Type} (f:α->Option β):cT none f=none:=rfl
theorem Fq {α:Type} (b:Bool) (k:Bool->Option α):onB (.v (.bool b)) k=k b:=rfl
theorem Af:Qk P call ops [] st=some st:=rfl
theorem wW (o:Oper) (l:List Oper):Qk P call ops (o :: l) st=cT (cI P call ops o st) (Qk P call ops l):=rfl
theorem eE (op:Op):cI P call ops ⟨d,op,T,pos,fB,none⟩ st=(dU P call ⟨d,op,T,pos,fB,none⟩ st).map fun e=>e.apply st:=rfl
theorem Lz (x:Operand):cI P call ops ⟨d,.move x,T,pos,fB,none⟩ st=some (st.put d (st.ev x)):=rfl
theorem Ag (x:Operand):cI P call ops ⟨d,.assign x,T,pos,fB,none⟩ st=some (st.put d (st.ev x)):=rfl
theorem Ma (c a b:Operand):cI P call ops ⟨d,.pick c a b,T,pos,fB,none⟩ st=onB (st.ev c) fun t=>some (st.put d (if t=true then st.ev a else st.ev b)):=by
 rw[eE];simp only[dU,iY];cases st.ev c<;>try rfl
 rename_i x;cases x<;>rfl
theorem Fs (op:BinOp) (S:Nat) (x y:Operand) (yT:Nat):cI P call ops ⟨d,.binOp op S x y yT,T,pos,fB,none⟩ st=cT (gL P op S (st.ev x) (st.ev y)) fun v=>some (st.put d v):=by
 rw[eE];simp only[dU,iY];cases gL P op S (st.ev x) (st.ev y)<;>rfl
theorem aE7 (op:UnOp) (S:Nat) (x:Operand):cI P call ops ⟨d,.unOp op S x,T,pos,fB,none⟩ st=cT (unA op (st.ev x)) fun v=>some (st.put d v):=by
 rw[eE];simp only[dU,iY];cases unA op (st.ev x)<;>rfl
def Nw (P:Program) (src dst:Nat) (x:AV):Option AV :=
 match x,intKind P dst,intKind P src with
 | .v (.int _ n),some k,some _=>some (.v (.int k (k.wrap n)))
 | _,_,_=>none
theorem wX (src dst:Nat) (x:Operand):cI P call ops ⟨d,.convert src dst x,T,pos,fB,none⟩ st=cT (Nw P src dst (st.ev x)) fun v=>some (st.put d v):=by
 rw[eE];simp only[dU,iY];show Option.map _ (Option.map _ (Nw P src dst (st.ev x)))=_
 cases Nw P src dst (st.ev x)<;>rfl
theorem Ft (S:Nat) (x:Operand) (f:Nat):cI P call ops ⟨d,.field S x f,T,pos,fB,none⟩ st=cT (Di P S f (st.ev x)) fun v=>some (st.put d v):=by
 rw[eE];simp only[dU,iY];cases Di P S f (st.ev x)<;>rfl
theorem y9 {S f off k:Nat} {cs:List AV} (h:fieldInfo P S f=some (off,true,k)) (hl:off+k<=cs.length):Di P S f (.agg cs)=some (.agg (rd cs off k)):=by
 simp only[Di,h,if_pos hl];rfl
theorem z4 {S f off k:Nat} {cs:List AV} (h:fieldInfo P S f=some (off,false,k)):Di P S f (.agg cs)=cs[off]?:=by
 simp only[Di,h]
theorem NH (S:Nat) (x:Operand) (f:Nat):cI P call ops ⟨d,.fieldAddr S x f,T,pos,fB,none⟩ st=cT (aY P S f) fun k=>cT (wC (st.ev x) k) fun v=>some (st.put d v):=by
 rw[eE];simp only[dU,iY];cases aY P S f with
 | none=>rfl
 | some k =>
   simp only[cT];cases wC (st.ev x) k<;>rfl
theorem NI (S:Nat) (x i:Operand):cI P call ops ⟨d,.indexAddr S x i,T,pos,fB,none⟩ st=cT (bI P st S (st.ev x) (st.ev i)) fun v=>some (st.put d v):=by
 rw[eE];simp only[dU,iY];cases bI P st S (st.ev x) (st.ev i)<;>rfl
theorem aE8 (S:Nat) (x:Operand):cI P call ops ⟨d,.load S x,T,pos,fB,none⟩ st=cT (Hx P st S (st.ev x)) fun v=>some (st.put d v):=by
 rw[eE];simp only[dU,iY,Sq];cases Hx P st S (st.ev x)<;>rfl
def dR (x:AV) (i:Nat):Option AV :=
 match x with
 | .eH vs=>vs[i]?
 | _=>none
theorem z6 (t:Operand) (i:Nat):cI P call ops ⟨d,.extract t i,T,pos,fB,none⟩ st=cT (dR (st.ev t) i) fun v=>some (st.put d v):=by
 rw[eE];simp only[dU,iY];show Option.map _ (Option.map _ (dR (st.ev t) i))=_
 cases dR (st.ev t) i<;>rfl
theorem aCj (S:Nat) (parts:Array (Nat × Operand)):cI P call ops ⟨d,.build S parts,T,pos,fB,none⟩ st=cT (iX P st S parts.toList) fun v=>some (st.put d v):=by
 rw[eE];simp only[dU,iY];cases iX P st S parts.toList<;>rfl
theorem aCk (S:Nat) (x:Operand) (lo hi:Option Operand):cI P call ops ⟨d,.slice S x lo hi none,T,pos,fB,none⟩ st=cT (cZ P st S (st.ev x) lo hi) fun v=>some (st.put d v):=by
 rw[eE];simp only[dU,iY];cases cZ P st S (st.ev x) lo hi<;>rfl
theorem aCl (S d:Nat):cI P call ops ⟨some d,.alloc S,T,pos,fB,none⟩ st=cT (eK P S) fun z=>some ((st.new d (.cells (z.map .v))).put (some d) (.ptr d (st.aQ d) 0)):=by
 rw[eE];simp only[dU,cT];cases eK P S with
 | none=>rfl
 | some z=>simp only[aAo,lM]
theorem aIY (S d:Nat) (x:Operand):cI P call ops ⟨some d,.box S x,T,pos,fB,none⟩ st=if (st.ev x).jH=true then some ((st.new d (.cells (st.ev x).cells)).put (some d) (.ptr d (st.aQ d) 0)) else none:=by
 rw[eE];simp only[dU,cT];split
 ·simp only[aAo,lM]
 ·rfl
theorem aCm (S:Nat) (x y:Operand):cI P call ops ⟨d,.store S x y,T,pos,fB,none⟩ st=cT (Zo P st S (st.ev x) (st.ev y)) fun s=>some (s.put d (.v undef)):=by
 rw[eE];simp only[dU,Zo];cases qQ P st S (st.ev x) (st.ev y)<;>rfl
theorem aE9 (g:Nat) (args:Array Operand) (uF:Array Nat) (h:Ext.mv g=false) (h2:Ext.eat g d=false) (h3:Ext.Z7 g d=false:=by rfl):cI P call ops ⟨d,.call ⟨.value (.func g),args,uF⟩,T,pos,fB,none⟩ st=cT (bH call g (args.toList.map st.ev) st d) fun e=>some (e.apply st):=by
 rw[eE];simp only[dU,iT,oQ,h,h2,h3,Bool.false_eq_true,if_false];cases bH call g (args.toList.map st.ev) st d<;>rfl
theorem aCn (g:Nat) (args:Array Operand) (uF:Array Nat) (h:Ext.mv g=true):cI P call ops ⟨d,.call ⟨.value (.func g),args,uF⟩,T,pos,fB,none⟩ st=cT (lP call g (args.toList.map st.ev) st d) fun e=>some (e.apply st):=by
 rw[eE];simp only[dU,iT,oQ,h,if_true];cases lP call g (args.toList.map st.ev) st d<;>rfl
theorem z7 (g:Nat) (args:Array Operand) (uF:Array Nat) (h:Ext.mv g=false) (h2:Ext.eat g d=true):cI P call ops ⟨d,.call ⟨.value (.func g),args,uF⟩,T,pos,fB,none⟩ st=cT (fJ call g (args.toList.map st.ev) st d) fun e=>some (e.apply st):=by
 rw[eE];simp only[dU,iT,oQ,h,h2,Bool.false_eq_true,if_false,if_true];cases fJ call g (args.toList.map st.ev) st d<;>rfl
theorem aCo (t:Nat) (args:Array Operand) (uF:Array Nat) {g:Nat} {mK:List AV} (h:st.env t=.sH g mK):cI P call ops ⟨d,.call ⟨.value (.tmp t),args,uF⟩,T,pos,fB,none⟩ st=cT (bH call g (args.toList.map st.ev++mK) st d) fun e=>some (e.apply st):=by
 rw[eE];simp only[dU,iT,oQ,St.ev,h,KO];show Option.map _ (bH call g (args.toList.map st.ev++mK) st d)=cT (bH call g (args.toList.map st.ev++mK) st d) _
 cases bH call g (args.toList.map st.ev++mK) st d<;>rfl
theorem T4 (S:Nat) (x:Operand) (lo:Option Operand) (hi mx:Operand):cI P call ops ⟨d,.slice S x lo (some hi) (some mx),T,pos,fB,none⟩ st=cT (Ch P st S (st.ev x) lo hi mx) fun v=>some (st.put d v):=by
 rw[eE];simp only[dU,iY];cases Ch P st S (st.ev x) lo hi mx<;>rfl
theorem T5 (S:Nat) (x i:Operand) (ok:Bool):cI P call ops ⟨d,.lookup S x i ok,T,pos,fB,none⟩ st=cT (Wq P st S (st.ev x) (st.ev i) ok) fun v=>some (st.put d v):=by
 rw[eE];simp only[dU,iY];cases Wq P st S (st.ev x) (st.ev i) ok<;>rfl
theorem z8 (S d:Nat):cI P call ops ⟨some d,.makeMap S none,T,pos,fB,none⟩ st=some ((st.new d (.map [])).put (some d) (.mp d (st.aQ d))):=by
 rw[eE];simp only[dU,cT,aAo,lM]
theorem NJ (S:Nat) (m x y:Operand):cI P call ops ⟨d,.mapUpdate S m x y,T,pos,fB,none⟩ st=cT (uP P st S (st.ev m) (st.ev x) (st.ev y)) fun u=>some ((st.jG u.1 u.2.1 (some u.2.2)).put d (.v undef)):=by
 rw[eE];simp only[dU];cases uP P st S (st.ev m) (st.ev x) (st.ev y)<;>rfl
theorem UN (g:Nat) (mK:Array Operand):cI P call ops ⟨d,.makeFunc (.func g) #[] mK,T,pos,fB,none⟩ st=some (st.put d (.sH g (mK.toList.map st.ev))):=by
 rw[eE];simp only[dU,iY,if_true,aAo];rfl
theorem lC (S n d:Nat) (parts:Array (Nat × Operand)):cI P call ops ⟨some d,.buildSlice S n parts,T,pos,fB,none⟩ st=cT (dX P S) fun t=>cT (eK P t.1) fun z =>
 if (0<n\/parts=#[])/\n * t.2.1<=2 ^ 24/\(parts.toList.all fun p=>(st.ev p.2).jH)=true then
  cT (gS (fun i=>some (i * t.2.1,t.2.1)) ((List.range n).flatMap fun _=>z.map .v) (parts.toList.map fun p=>(p.1,st.ev p.2))) fun cs =>
   some ((st.new d (.row t.1 t.2.1 n cs)).put (some d) (.own d (st.aQ d)))
 else none:=by
 rw[eE];simp only[dU,cT];cases dX P S with
 | none=>rfl
 | some t =>
   simp only
   cases eK P t.1 with
   | none=>rfl
   | some z =>
     simp only
     split
     ·cases gS (fun i=>some (i * t.2.1,t.2.1)) ((List.range n).flatMap fun _=>z.map .v) (parts.toList.map fun p=>(p.1,st.ev p.2)) with
      | none=>rfl
      | some cs=>simp only[aAo,lM]
     ·rfl
theorem NK (S d:Nat) (l c:Operand) {n:Nat} (hl:st.ev l=.v (.int .i64 n)) (hc:st.ev c=.v (.int .i64 n)):cI P call ops ⟨some d,.makeSlice S l c,T,pos,fB,none⟩ st=cT (dX P S) fun t=>cT (eK P t.1) fun z =>
 if (n:Int) * t.2.2<=140737488355328/\(n:Int)<=maxLen then some ((st.new d (.row t.1 t.2.1 n ((List.range n).flatMap fun _=>z.map .v))).put (some d) (.own d (st.aQ d))) else none:=by
 rw[eE];simp only[dU,cT,hl,hc];cases dX P S with
 | none=>rfl
 | some t =>
   simp only
   cases eK P t.1 with
   | none=>rfl
   | some z =>
     simp only[Int.toNat_natCast,Int.natCast_nonneg,true_and];split
     ·simp only[aAo,lM]
     ·rfl
theorem aIZ (x:Operand) (S:Nat) (uF:Array Nat) (h:uF=#[S]):cI P call ops ⟨d,.call ⟨.builtin .len,#[x],uF⟩,T,pos,fB,none⟩ st=cT (dX P S) fun _=>cT (aV st (st.ev x)) fun nc=>some (st.put d (.v (.int .i64 nc.1))):=by
 subst h;rw[eE];simp only[dU,iT];cases dX P S with
 | none=>rfl
 | some t=>cases aV st (st.ev x) with
   | none=>rfl
   | some nc=>cases nc;rfl
theorem aFa (x:Operand) (S:Nat):cI P call ops ⟨d,.call ⟨.builtin .len,#[x],#[S]⟩,T,pos,fB,none⟩ st=cT (dX P S) fun _=>cT (aV st (st.ev x)) fun nc=>some (st.put d (.v (.int .i64 nc.1))):=aIZ x S #[S] rfl
theorem KI (s x:Operand) (S d:Nat) (uF:Array Nat) (h:uF=#[S,S]) (hv:Ext.va S d=false) (hp:¬(Ext.pa S d=true/\Iy P st S (st.ev s) (st.ev x))):cI P call ops ⟨some d,.call ⟨.builtin .append,#[s,x],uF⟩,T,pos,fB,none⟩ st=cT (dJ P st S (st.ev s) (st.ev x)) fun ur =>
 some (((match ur.1 with|some p=>st.jG p.1 p.2 none|none=>st).new d ur.2).put (some d) (.own d (st.aQ d))):=by
 subst h;rw[eE];simp only[dU,iT,cT,if_true,hv,Bool.false_eq_true,if_false];rw[if_neg hp];cases dJ P st S (st.ev s) (st.ev x) with
 | none=>rfl
 | some ur =>
   obtain⟨u,r⟩:=ur
   cases u with
   | none=>simp only[aAo,Option.map_none,lM]
   | some p=>simp only[aAo,Vk]
theorem DP (s x:Operand) (S d:Nat) (hv:Ext.va S d=false) (hp:Ext.pa S d=false):cI P call ops ⟨some d,.call ⟨.builtin .append,#[s,x],#[S,S]⟩,T,pos,fB,none⟩ st=cT (dJ P st S (st.ev s) (st.ev x)) fun ur =>
 some (((match ur.1 with|some p=>st.jG p.1 p.2 none|none=>st).new d ur.2).put (some d) (.own d (st.aQ d))):=KI s x S d #[S,S] rfl hv (by rw[hp];exact fun h=>absurd h.1 (by simp))
theorem aCp (s x:Operand) (S d:Nat) (hv:Ext.va S d=false) (hp:Ext.pa S d=true) (hn:¬(st.ev s=.v (.slice none 0 0)/\(aV st (st.ev x)).map Prod.fst=some 0)):cI P call ops ⟨some d,.call ⟨.builtin .append,#[s,x],#[S,S]⟩,T,pos,fB,none⟩ st=cT (dJ P st S (st.ev s) (st.ev x)) fun ur =>
 some (((match ur.1 with|some p=>st.jG p.1 p.2 none|none=>st).new d ur.2).put (some d) (.own d (st.aQ d))):=KI s x S d #[S,S] rfl hv (fun h=>hn ⟨h.2.1,h.2.2.2⟩)
theorem aCq (s x:Operand) (S d:Nat) (hv:Ext.va S d=false) (hp:Ext.pa S d=true) (hi:(dX P S).isSome=true) (h1:st.ev s=.v (.slice none 0 0)) (h2:(aV st (st.ev x)).map Prod.fst=some 0):cI P call ops ⟨some d,.call ⟨.builtin .append,#[s,x],#[S,S]⟩,T,pos,fB,none⟩ st=some (st.put (some d) (.v (.slice none 0 0))):=by
 rw[eE];simp only[dU,iT,cT,if_true,hv,Bool.false_eq_true,if_false];rw[if_pos ⟨hp,h1,hi,h2⟩];simp only[qZ.apply];rfl
theorem SX (x:Operand) (S:Nat):cI P call ops ⟨d,.call ⟨.builtin .clear,#[x],#[S]⟩,T,pos,fB,none⟩ st=cT (sQ P st S (st.ev x)) fun u =>
 some ((match u with|some p=>st.jG p.1 p.2.1 (some p.2.2)|none=>st).put d (.eH [])):=by
 rw[eE];simp only[dU,iT];cases sQ P st S (st.ev x) with
 | none=>rfl
 | some u=>cases u<;>rfl
theorem Fu (x:Value):st.ev (.const x)=.v x:=rfl
theorem Vp (t:Nat):st.ev (.tmp t)=st.env t:=rfl
theorem Mb (t d:Nat) (x:AV):(st.put (some d) x).env t=if t=d then x else st.env t:=rfl
theorem sD (t:Nat) (x:AV):(st.put none x).env t=st.env t:=rfl
theorem Mc (t d:Nat) (e:oA):(st.new d e).env t=st.env t:=rfl
theorem Fv (t s g:Nat) (e:Option oA):(st.jG s g e).env t=st.env t:=rfl
theorem Md (t:Nat) (d:Option Nat) (x:AV):(st.put d x).aQ t=st.aQ t:=by cases d<;>rfl
theorem Me (t d:Nat) (e:oA):(st.new d e).aQ t=if t=d then st.aQ d+1 else st.aQ t:=rfl
theorem Fw (t s g:Nat) (e:Option oA):(st.jG s g e).aQ t=st.aQ t:=rfl
theorem yG (s g:Nat) (d:Option Nat) (x:AV):(st.put d x).heap s g=st.heap s g:=by cases d<;>rfl
theorem yH (s g d:Nat) (e:oA):(st.new d e).heap s g=if s=d/\g=st.aQ d then some e else st.heap s g:=rfl
theorem qO (s g s0 g0:Nat) (e:Option oA):(st.jG s0 g0 e).heap s g=if s=s0/\g=g0 then e else st.heap s g:=rfl
theorem Fx (t:Nat) (xs:List AV):(St.init xs).env t=(xs[t]?).getD (.v undef):=rfl
theorem Fy (t:Nat) (xs:List AV):(St.init xs).aQ t=0:=rfl
theorem Ah (s g:Nat) (xs:List AV):(St.init xs).heap s g=none:=rfl
theorem Fz (x:AV):st.put none x=st:=rfl
theorem uH (d:Option Nat) (x:AV):({ dst:=d,val:=x }:qZ).apply st=st.put d x:=rfl
theorem T6 (d:Option Nat) (x:AV) (n:Nat) (e:oA):({ dst:=d,val:=x,new:=some (n,[e])}:qZ).apply st=(st.new n e).put d x:=lM d x n e
theorem T7 (d:Option Nat) (x:AV) (s g:Nat) (e:Option oA):({ dst:=d,val:=x,dP:=some (s,g,e)}:qZ).apply st=(st.jG s g e).put d x:=rfl
theorem NL (d:Option Nat) (x:AV) (s g n:Nat) (z:Option oA) (e:oA):({ dst:=d,val:=x,dP:=some (s,g,z),new:=some (n,[e])}:qZ).apply st=((st.jG s g z).new n e).put d x:=Vk d x s g n z e
theorem bE {g:Nat} {args:List AV} {r:AV} (hf:∀x∈args,Flat x) (h:call g args=some r) (hr:Flat r):bH call g args st d=some { dst:=d,val:=r }:=by
 unfold bH;rw[if_pos hf,h];simp only[cT,iZ,if_pos hr]
theorem jM {g:Nat} {args:List AV} {d e sz n:Nat} {cs:List AV} (hf:∀x∈args,Flat x) (h:call g args=some (.uniq e sz n cs)) :
 bH call g args st (some d)=some { dst:=some d,val:=.own d (st.aQ d),new:=some (d,[.row e sz n cs])}:=by
 unfold bH;rw[if_pos hf,h];have:¬Flat (.uniq e sz n cs):=by intro h;cases h
 simp only[cT,iZ,if_neg this];rfl
end
end Go.Ab
end
section
namespace Go.Ab
open Classical
abbrev cC:=Vector Int 32
abbrev rD:=Vector Int 4
def lV (x:Int):List AV:=[.v (.int .u64 x)]
def rK (x:Int):List AV:=[.v (.int .i64 x)]
def vW (x:Bool):List AV:=[.v (.bool x)]
def bC (r:cC):List AV:=r.toList.map fun x=>.v (.int .u8 x)
def gI (r:rD):List AV:=r.toList.map fun x=>.v (.int .u64 x)
@[simp] theorem aZ (x:Int):(lV x).length=1:=rfl
@[simp] theorem bJ (x:Int):(rK x).length=1:=rfl
@[simp] theorem iC (x:Bool):(vW x).length=1:=rfl
@[simp] theorem aO (r:cC):(bC r).length=32:=by simp[bC]
@[simp] theorem eA (r:rD):(gI r).length=4:=by simp[gI]
def eD (x:Int):∀y∈lV x,Flat y:=by intro y hy;simp[lV] at hy;subst hy;exact .v _
def mJ (x:Int):∀y∈rK x,Flat y:=by intro y hy;simp[rK] at hy;subst hy;exact .v _
def tR (x:Bool):∀y∈vW x,Flat y:=by intro y hy;simp[vW] at hy;subst hy;exact .v _
def dY (x:cC):∀y∈bC x,Flat y:=by intro y hy;obtain⟨z,_,rfl⟩:=mem_map.1 hy;exact .v _
def iQ (x:rD):∀y∈gI x,Flat y:=by intro y hy;obtain⟨z,_,rfl⟩:=mem_map.1 hy;exact .v _
def Pp {α:Type} (c:α->List AV) (z:Nat) (hz:∀a,(c a).length=z):∀(l:List α) (i:Nat) (h:i<l.length),rd (l.flatMap c) (i * z) z=c l[i]
 | [],i,h=>by simp at h
 | a :: l,0,h=>by simp[rd,take_append,hz,take_of_length_le]
 | a :: l,i+1,h=>by
   have ih:=Pp c z hz l i (by simpa using h)
   simp only[flatMap_cons,getElem_cons_succ];rw[<- ih];simp only[rd];rw[drop_append,drop_of_length_le (by rw[hz,Nat.succ_mul];omega),hz,Nat.succ_mul]
   simp
def qP (a b:cC):bC a=bC b↔a=b:=by
 constructor
 ·intro h;unfold bC at h;have h2:a.toList=b.toList:=by
   have:=congrArg (List.map (fun x:AV=>match x with|.v (.int _ n)=>n|_=>0)) h
   simpa [map_map,Function.comp_def] using this
  exact Vector.toList_inj.1 h2
 ·intro h;rw[h]
def Vq (a b:rD):gI a=gI b↔a=b:=by
 constructor
 ·intro h;unfold gI at h;have h2:a.toList=b.toList:=by
   have:=congrArg (List.map (fun x:AV=>match x with|.v (.int _ n)=>n|_=>0)) h
   simpa [map_map,Function.comp_def] using this
  exact Vector.toList_inj.1 h2
 ·intro h;rw[h]
def dP (cs:List AV) (o:Nat) (xs:List AV) (e:Nat):List AV:=cs.take o++xs++cs.drop e
section
variable {a b xs:List AV} {n o o' e e' k:Nat}
theorem bL (h:xs=b):a++xs=a++b:=by rw[h]
theorem Io (h:xs=b):xs++a=b++a:=by rw[h]
theorem bD (h:o'=o+n) (ha:a.length=n):rd (a++b) o' k=rd b o k:=by
 subst h;subst ha;simp only[rd];rw[drop_append,drop_of_length_le (by omega),nil_append,show o+a.length-a.length=o by omega]
theorem gK (ha:a.length=n):rd (a++b) 0 n=a:=by
 subst ha;simp[rd]
theorem jF (ha:a.length=n):rd a 0 n=a:=by
 subst ha;simp[rd]
theorem sN (h:o+k<=a.length):rd (a++b) o k=rd a o k:=by
 simp only[rd];rw[drop_append,take_append,show o-a.length=0 by omega,show k-(a.drop o).length=0 by simp;omega]
 simp
theorem aK (h:o'=o+n) (ha:a.length=n):(a++b)[o']? = b[o]?:=by
 subst h;subst ha;rw[getElem?_append_right (by omega),show o+a.length-a.length=o by omega]
theorem eU (h:o<a.length):(a++b)[o]? = a[o]?:=getElem?_append_left h
theorem aD (h:o'=o+n) (h':e'=e+n) (ha:a.length=n):dP (a++b) o' xs e'=a++dP b o xs e:=by
 subst h;subst h';subst ha;simp only[dP];rw[take_append,take_of_length_le (by omega),drop_append,drop_of_length_le (by omega),show o+a.length-a.length=o by omega,show e+a.length-a.length=e by omega]
 simp
theorem cJ (ha:a.length=n):dP (a++b) 0 xs n=xs++b:=by
 subst ha;simp[dP]
theorem eP (ha:a.length=n):dP a 0 xs n=xs:=by
 subst ha;simp[dP]
theorem vX (h:o<=e/\e<=a.length):dP (a++b) o xs e=dP a o xs e++b:=by
 simp only[dP];rw[take_append,drop_append,show o-a.length=0 by omega,show e-a.length=0 by omega]
 simp
end
def Kj (a b:Int):lV a=lV b↔a=b:=by simp[lV]
def yL (a b:Int):rK a=rK b↔a=b:=by simp[rK]
def KJ (a b:Bool):vW a=vW b↔a=b:=by simp[vW]
def cO:cC:=Vector.replicate 32 0
def KK:rD:=Vector.replicate 4 0
def uC:List Value:=List.replicate 32 (.int .u8 0)
def DQ:List Value:=List.replicate 4 (.int .u64 0)
def jQ:uC.map AV.v=bC cO:=by simp[uC,bC,cO]
def jR:DQ.map AV.v=gI KK:=by simp[DQ,gI,KK]
def Kk:List Bool:=List.replicate 32 true
def K2:List Bool:=List.replicate 4 true
def fZ {l m:List Bool}:∀ {xs ys xs' ys':List AV},iS l xs ys->iS m xs' ys'->iS (l++m) (xs++xs') (ys++ys'):=by
 induction l with
 | nil=>intro xs ys xs' ys' h h';cases xs<;>cases ys<;>first|exact h'|exact h.elim
 | cons b l ih =>
   intro xs ys xs' ys' h h'
   cases b
   ·cases xs with
    | nil=>exact h.elim
    | cons x xs=>cases ys with
      | nil=>unfold iS at h;split at h<;>first|exact h.elim|simp_all
      | cons y ys =>
        unfold iS at h;split at h<;>simp_all [iS]
   ·cases xs with
    | nil=>exact h.elim
    | cons x xs=>cases ys with
      | nil=>unfold iS at h;split at h<;>first|exact h.elim|simp_all
      | cons y ys =>
        unfold iS at h;split at h<;>simp_all [iS]
def Pq (k:IntKind):∀(a b:List Int),a.length=b.length->iS (List.replicate a.length true) (a.map fun x=>.v (.int k x)) (b.map fun x=>.v (.int k x))
 | [],[],_=>trivial
 | [],_ :: _,h=>by simp at h
 | _ :: _,[],h=>by simp at h
 | a :: l,b :: m,h=>⟨rfl,Pq k l m (by simpa using h)⟩
def oL (a b:cC):iS Kk (bC a) (bC b):=by
 have:=Pq .u8 a.toList b.toList (by simp)
 rw[Vector.length_toList] at this;exact this
def Ps (a b:rD):iS K2 (gI a) (gI b):=by
 have:=Pq .u64 a.toList b.toList (by simp)
 rw[Vector.length_toList] at this;exact this
def UO (P:Program) (T:Nat):Option (List (Nat × Nat)) :=
 match P.underlying T with
 | some (.struct fs)=>if fs.all (fun f=>(P.info? f.type).isSome) then some (fs.toList.map fun f=>(f.offset,P.cellsOf f.type)) else none
 | _=>none
def UP (P:Program) (T:Nat):Option Nat :=
 match P.underlying T with
 | some (.array _ e)=>if (P.info? e).isSome then some (P.cellsOf e) else none
 | _=>none
def fG {P:Program} {T:Nat} {l:List (Nat × Nat)} (h:UO P T=some l):placeOf P T=some fun i=>l[i]?:=by
 unfold UO at h;unfold placeOf;split at h
 ·rename_i fs hu;split at h
  ·rename_i Pl;simp only[aAk] at h;subst h;simp only[hu,Pl,if_true];congr 1
   funext i
   simp
  ·cases h
 ·cases h
def Xr {P:Program} {T k:Nat} (h:UP P T=some k):placeOf P T=some fun i=>some (i * k,k):=by
 unfold UP at h;unfold placeOf;split at h
 ·rename_i n e hu;split at h
  ·rename_i Pl;simp only[aAk] at h;subst h;simp only[hu,Pl,if_true]
  ·cases h
 ·cases h
def iH {P:Program} {st:St} {T:Nat} {parts:List (Nat × Operand)} {z:List Value} {place:Nat->Option (Nat × Nat)} {c:List AV} (hz:eK P T=some z) (hc:z.map AV.v=c) (hp:placeOf P T=some place) :
 iX P st T parts=if (parts.all fun p=>(st.ev p.2).jH)=true then (gS place c (parts.map fun p=>(p.1,st.ev p.2))).map .agg else none:=by
 simp only[iX,hz,hp,hc]
def QV (place:Nat->Option (Nat × Nat)) (c:List AV):gS place c []=some c:=rfl
def IX (place:Nat->Option (Nat × Nat)) (c:List AV) (i:Nat) (x:AV) (r:List (Nat × AV)):gS place c ((i,x) :: r)=cT (place i) fun os =>
 if x.cells.length=os.2/\os.1+os.2<=c.length then gS place (dP c os.1 x.cells (os.1+os.2)) r else none:=by
 simp only[gS];cases place i<;>rfl
def tE {P:Program} {T:Nat} {l:List Bool} {xs ys:List AV} {p:Prop} [Decidable p] (hl:fD P 20 T=some l) (ha:dH P T=true) (hg:P.eqGuardType P.depth T=false) (hf:iS l xs ys) (hp:xs=ys↔p) :
 xQ P T xs ys=some (decide p):=by
 unfold xQ;rw[hl];simp only[ha,hg,hf,and_self,if_true];congr 1
 rw[Bool.eq_iff_iff];simp[hp]
def tI (P:Program) (T:Nat):Option Nat :=
 match fW P T with
 | some (_,k)=>some k
 | none=>none
def T8 {P:Program} {st:St} {T s g o:Nat} {x:AV}:Zo P st T (.ptr s g o) x=cT (tI P T) fun k=>if x.cells.length=k/\x.jH=true then
 (match st.heap s g with
  | some (.cells cs)=>if o+k<=cs.length then some (st.jG s g (some (.cells (dP cs o x.cells (o+k))))) else none
  | some (.row e sz n cs)=>if o+k<=cs.length then some (st.jG s g (some (.row e sz n (dP cs o x.cells (o+k))))) else none
  | _=>none) else none:=by
 simp only[Zo,qQ,tI];cases fW P T with
 | none=>rfl
 | some bk =>
   obtain⟨b,k⟩:=bk
   simp only[cT];split
   ·split
    ·rename_i h;simp only[h];split<;>rfl
    ·rename_i h;simp only[h];split<;>rfl
    ·rename_i h1 h2;split<;>rename_i h<;>first|rfl|exact absurd h (h1 _)|exact absurd h (h2 _ _ _ _)
   ·rfl
def UQ (s:cC):rd (bC s) 0 32=bC s:=jF (aO _)
def UR (s x:cC):dP (bC s) 0 (bC x) 32=bC x:=eP (aO _)
def US (s:rD):rd (gI s) 0 4=gI s:=jF (eA _)
def UT (s x:rD):dP (gI s) 0 (gI x) 4=gI x:=eP (eA _)
def wrap_i64 (x:Int) (h1:-9223372036854775808<=x) (h2:x<=9223372036854775807):i64.wrap x=x:=by
 rw[IntKind.wrap_i64];omega
def nK (s g:Nat):¬Flat (.own s g):=by intro h;cases h
def zN (s g o:Nat):¬Flat (.ptr s g o):=by intro h;cases h
def eC {st:St} {x:AV} (h:Flat x):fS st x=some x:=by unfold fS;rw[if_pos h]
def kI {st:St} {s g e sz n:Nat} {cs:List AV} (h:st.heap s g=some (.row e sz n cs)) (hf:∀c∈cs,Flat c):cN st (.own s g)=some (.sl n cs):=by
 unfold cN;rw[if_neg (nK s g)];simp only[h];rw[if_pos hf]
def cY {st:St} {x:AV} (h:Flat x):cN st x=some x:=by unfold cN;rw[if_pos h]
def aCr {st:St} {x:AV} (h:Flat x):xR st x=some x:=by unfold xR;rw[if_pos h]
def Jg {st:St}:∀ {cs:List AV},(∀c∈cs,Flat c)->cK (cs.map (xR st))=some cs
 | [],_=>rfl
 | c :: cs,h=>by
   rw[map_cons,aCr (h c (by simp))]
   have ih:=Jg (st:=st) (cs:=cs) fun d hd=>h d (mem_cons_of_mem _ hd)
   simp only[cK,ih,aAo]
def z9 {st:St} {s g o:Nat} {cs:List AV} (h:st.heap s g=some (.cells cs)):cN st (.ptr s g o)=(cK (cs.map (xR st))).map fun ds=>.ip ds o:=by
 unfold cN;rw[if_neg (zN s g o)];simp only[h]
def T9 {st:St} {s g o:Nat} {cs:List AV} (h:st.heap s g=some (.cells cs)) (hf:∀c∈cs,Flat c):cN st (.ptr s g o)=some (.ip cs o):=by
 rw[z9 h,Jg hf];rfl
def CG {st:St} {s g e sz n:Nat} {cs:List AV} (h:st.heap s g=some (.row e sz n cs)) (hf:∀c∈cs,Flat c):fS st (.own s g)=some (.sl n cs):=by
 unfold fS;rw[if_neg (nK s g)];exact kI h hf
def SZ {st:St} {s g o:Nat} {cs:List AV} (h:st.heap s g=some (.cells cs)) (hf:∀c∈cs,Flat c):fS st (.ptr s g o)=some (.ip cs o):=by
 unfold fS;rw[if_neg (zN s g o)];exact T9 h hf
section
variable [Ext]
theorem UU {P:Program} {f:Nat} {fn:Func} {t:Nat} {st:St} {x:AV} {e:Ex} (hk:Ext.pI f=false) (he:e=.ret\/e=.normal) (hr:fn.results.toList=[.tmp t]) (hx:st.env t=x) (hf:Flat x):Dn P f fn (e,st)=some x:=by
 have h1:jD P f fn st=some x:=by
  unfold jD;rw[hk,if_neg (by simp)]
  unfold xF;rw[hr];simp only[lQ,cT,hx,Ws];cases hf<;>simp only[fS]<;>rw[if_pos]<;>constructor<;>assumption
 rcases he with rfl|rfl<;>exact h1
theorem U0 {P:Program} {f:Nat} {fn:Func} {t T:Nat} {st:St} {y x:AV} {e:Ex} (hk:Ext.pI f=false) (he:e=.ret\/e=.normal) (hr:fn.results.toList=[.cell t T]) (hy:st.env t=y) (hx:Hx P st T y=some x) (hf:Flat x):Dn P f fn (e,st)=some x:=by
 have h1:jD P f fn st=some x:=by
  unfold jD;rw[hk,if_neg (by simp)]
  unfold xF;rw[hr];show cT (cT (rG st (st.env t)) (zK P T)) (Ws st)=some x
  rw[hy,Sq,hx];simp only[cT,Ws];cases hf<;>simp only[fS]<;>rw[if_pos]<;>constructor<;>assumption
 rcases he with rfl|rfl<;>exact h1
theorem Rq {P:Program} {f:Nat} {fn:Func} {t:Nat} {st:St} {e:Ex} {s g e' sz n:Nat} {cs:List AV} (hk:Ext.pI f=false) (he:e=.ret\/e=.normal) (hr:fn.results.toList=[.tmp t]) (hx:st.env t=.own s g) (hh:st.heap s g=some (.row e' sz n cs)) (hf:∀c∈cs,Flat c):Dn P f fn (e,st)=some (.uniq e' sz n cs):=by
 have h1:jD P f fn st=some (.uniq e' sz n cs):=by
  unfold jD;rw[hk,if_neg (by simp)]
  unfold xF;rw[hr];simp only[lQ,cT,hx,Ws,hh];rw[if_pos hf]
 rcases he with rfl|rfl<;>exact h1
theorem A0 {P:Program} {f:Nat} {fn:Func} {t T:Nat} {st:St} {e:Ex} {z:AV} {cs:List AV} {y:AV} (hk:Ext.pI f=false) (he:e=.ret\/e=.normal) (hr:fn.results.toList=[.cell t T]) (hz:st.env t=z) (hx:Hx P st T z=some (.agg cs)) (hy:fS st (.agg cs)=some y):Dn P f fn (e,st)=some y:=by
 have h1:jD P f fn st=some y:=by
  unfold jD;rw[hk,if_neg (by simp)]
  unfold xF;rw[hr];show cT (cT (rG st (st.env t)) (zK P T)) (Ws st)=some y
  rw[hz,Sq,hx];simp only[cT,Ws,hy]
 rcases he with rfl|rfl<;>exact h1
def bY (P:Program) (st:St) (r:ResultVar):Option AV :=
 match r with
 | .tmp t=>some (st.env t)
 | .cell t T=>Hx P st T (st.env t)
theorem rV (P:Program) (st:St) (r:ResultVar):lQ P st r=bY P st r:=by
 cases r with
 | tmp t=>rfl
 | cell t T=>exact Sq P st T _
theorem aCs {P:Program} {f:Nat} {fn:Func} {st:St} {e:Ex} {r1 r2:ResultVar} {x1 x2 y1 y2:AV} (hk:Ext.pI f=false) (he:e=.ret\/e=.normal) (hr:fn.results.toList=[r1,r2])
 (h1:bY P st r1=some x1) (h2:bY P st r2=some x2) (e1:fS st x1=some y1) (e2:fS st x2=some y2):Dn P f fn (e,st)=some (.eH [y1,y2]):=by
 have h:jD P f fn st=some (.eH [y1,y2]):=by
  unfold jD;rw[hk,if_neg (by simp)]
  unfold xF;rw[hr];simp only[map_cons,map_nil,rV,h1,h2,cT,Fl e1,Fl e2,cK,aAo]
 rcases he with rfl|rfl<;>exact h
theorem U1 {P:Program} {f:Nat} {fn:Func} {st:St} {e:Ex} {r1 r2:ResultVar} {x1 x2 y1 y2:AV} (hk:Ext.pI f=false) (he:e=.ret\/e=.normal) (hr:fn.results.toList=[r1,r2])
 (h1:bY P st r1=some x1) (h2:bY P st r2=some x2) (e0:fS st x1=none) (e1:Ql st x1=some y1) (e2:fS st x2=some y2):Dn P f fn (e,st)=some (.eH [y1,y2]):=by
 have e1':Ef st x1=some y1:=(o8 e0).trans e1
 have h:jD P f fn st=some (.eH [y1,y2]):=by
  unfold jD;rw[hk,if_neg (by simp)]
  unfold xF;rw[hr];simp only[map_cons,map_nil,rV,h1,h2,cT,e1',Fl e2,cK,aAo]
 rcases he with rfl|rfl<;>exact h
theorem A1 {P:Program} {f:Nat} {fn:Func} {st:St} {e:Ex} {r1 r2 r3:ResultVar} {x1 x2 x3 y1 y2 y3:AV} (hk:Ext.pI f=false) (he:e=.ret\/e=.normal) (hr:fn.results.toList=[r1,r2,r3])
 (h1:bY P st r1=some x1) (h2:bY P st r2=some x2) (h3:bY P st r3=some x3) (e1:fS st x1=some y1) (e2:fS st x2=some y2) (e3:fS st x3=some y3):Dn P f fn (e,st)=some (.eH [y1,y2,y3]):=by
 have h:jD P f fn st=some (.eH [y1,y2,y3]):=by
  unfold jD;rw[hk,if_neg (by simp)]
  unfold xF;rw[hr];simp only[map_cons,map_nil,rV,h1,h2,h3,cT,Fl e1,Fl e2,Fl e3,cK,aAo]
 rcases he with rfl|rfl<;>exact h
end
section
variable [Ext]
theorem Ai {P:Program} (c:Operand) (a b:Code) (st:St):Bx P (.cond c a b) st=onB (st.ev c) fun t=>if t=true then Bx P a st else Bx P b st:=by
 cases h:st.ev c with
 | v x =>
   cases x with
   | bool t=>exact aCi P c a b st h
   | _ =>
     apply Option.ext
     intro r;rw[K1];constructor
     ·rintro⟨n,m,h'⟩
      cases m with
      | zero=>simp[uN] at h'
      | succ m=>simp[uN,h] at h'
     ·intro h';simp[onB] at h'
 | _ =>
   apply Option.ext
   intro r;rw[K1];constructor
   ·rintro⟨n,m,h'⟩
    cases m with
    | zero=>simp[uN] at h'
    | succ m=>simp[uN,h] at h'
   ·intro h';simp[onB] at h'
def Sr (ops:Array Oper) (j:Nat):Option Nat:=(ops[j]?).bind (·.dst)
def A2 {α:Type} (x:AV) (want:Bool) (y n:Option α):Option α :=
 match x with
 | .v (.bool b)=>if b=want then y else n
 | .v _=>n
 | _=>none
def onS {α:Type} (d:Option Nat) (k:Nat->Option α) (n:Option α):Option α :=
 match d with
 | some d=>k d
 | none=>n
@[congr] theorem aI0 {α:Type} {x x':AV} {want:Bool} {y n:Option α} (h:x=x'):A2 x want y n=A2 x' want y n:=by rw[h]
@[congr] theorem aLe {α:Type} {d d':Option Nat} {k:Nat->Option α} {n:Option α} (h:d=d'):onS d k n=onS d' k n:=by rw[h]
theorem Aj {α:Type} (b:Bool) (y n:Option α):A2 (.v (.bool b)) true y n=if b=true then y else n:=rfl
theorem wY {α:Type} (b:Bool) (y n:Option α):A2 (.v (.bool b)) false y n=if b=false then y else n:=rfl
theorem wZ {α:Type} (w:Bool) (y n:Option α):A2 (.v undef) w y n=n:=rfl
theorem Ga {α:Type} (d:Nat) (k:Nat->Option α) (n:Option α):onS (some d) k n=k d:=rfl
theorem Ak {P:Program} {call:Nat->List AV->Option AV} {ops:Array Oper} {st:St} {d:Option Nat} {T:Nat} {pos:String} {fB:Array Edge} (op:Op) (j:Nat) (want:Bool) :
 cI P call ops ⟨d,op,T,pos,fB,some (j,want)⟩ st=onS (Sr ops j) (fun s=>A2 (st.env s) want (cI P call ops ⟨d,op,T,pos,fB,none⟩ st) (some (st.put d (.v undef)))) (some (st.put d (.v undef))):=by
 simp only[cI,gv,Sr];cases (ops[j]?).bind (·.dst) with
 | none=>simp[onS]
 | some s =>
   simp only[onS];cases st.env s with
   | v x=>cases x<;>simp[A2,dU]<;>rename_i b<;>cases b<;>cases want<;>simp[dU]
   | _=>rfl
end
section
variable {P:Program} {T:Nat} {k k1:IntKind} {a b:Int}
theorem Mf:gL P .add T (.v (.int k a)) (.v (.int k b))=some (.v (.int k (k.wrap (a+b)))):=by simp[gL]
theorem Mg:gL P .sub T (.v (.int k a)) (.v (.int k b))=some (.v (.int k (k.wrap (a-b)))):=by simp[gL]
theorem Mh:gL P .mul T (.v (.int k a)) (.v (.int k b))=some (.v (.int k (k.wrap (a * b)))):=by simp[gL]
theorem Mi:gL P .and T (.v (.int k a)) (.v (.int k b))=some (.v (.int k (k.wrap (BitVec.ofInt k.bits a &&& BitVec.ofInt k.bits b).toNat))):=by simp[gL]
theorem Mj:gL P .eql T (.v (.int k a)) (.v (.int k b))=some (.v (.bool (a == b))):=by simp[gL]
theorem Mk:gL P .neq T (.v (.int k a)) (.v (.int k b))=some (.v (.bool (a != b))):=by simp[gL]
theorem Ml:gL P .lss T (.v (.int k a)) (.v (.int k b))=some (.v (.bool (decide (a<b)))):=by simp[gL]
theorem Mm:gL P .leq T (.v (.int k a)) (.v (.int k b))=some (.v (.bool (decide (a<=b)))):=by simp[gL]
theorem Mn:gL P .gtr T (.v (.int k a)) (.v (.int k b))=some (.v (.bool (decide (a > b)))):=by simp[gL]
theorem Mo:gL P .geq T (.v (.int k a)) (.v (.int k b))=some (.v (.bool (decide (a>=b)))):=by simp[gL]
theorem aFb (h:b≠0):gL P .quo T (.v (.int k a)) (.v (.int k b))=some (.v (.int k (k.wrap (a.tdiv b)))):=by simp[gL,h]
theorem aFc (h:b≠0):gL P .rem T (.v (.int k a)) (.v (.int k b))=some (.v (.int k (a.tmod b))):=by simp[gL,h]
theorem aFd (h:¬b<0):gL P .shr T (.v (.int k a)) (.v (.int k1 b))=some (.v (.int k (a.fdiv (2 ^ (min b.toNat k.bits))))):=by simp[gL,h]
theorem aFe (h:¬b<0):gL P .shl T (.v (.int k a)) (.v (.int k1 b))=some (.v (.int k (k.wrap (a * 2 ^ (min b.toNat k.bits))))):=by simp[gL,h]
end
def sE (s:St) (k:St->Option (Ex × St)):DO (.normal,s) k=k s:=rfl
def Al (s:St) (k:St->Option (Ex × St)):DO (.ret,s) k=some (.ret,s):=rfl
def xA (i:Nat) (s:St) (k:St->Option (Ex × St)):DO (.exit i,s) k=some (.exit i,s):=rfl
def AF (r:cC) (i e:Nat) (x:Int) (h:i<32) (he:e=i+1):dP (bC r) i [.v (.int .u8 x)] e=bC (r.set i x):=by
 subst he;simp only[dP,bC,Vector.toList_set,map_set];rw[set_eq_take_append_cons_drop,if_pos (by simp[h])]
 simp
def pY (r:rD) (i e:Nat) (x:Int) (h:i<4) (he:e=i+1):dP (gI r) i [.v (.int .u64 x)] e=gI (r.set i x):=by
 subst he;simp only[dP,gI,Vector.toList_set,map_set];rw[set_eq_take_append_cons_drop,if_pos (by simp[h])]
 simp
def Uf [Ext] {P:Program} {b:Code} (Inv:Nat->St->Prop) (Q:Ex->St->Prop)
 (step:∀n st,Inv n st->∃e st',Bx P b st=some (e,st')/\((e=.normal/\∃m,m<n/\Inv m st')\/(e≠.normal/\Q e st'))):∀n st,Inv n st->∃e st',Bx P (.loop b) st=some (e,st')/\e≠.normal/\Q e st':=by
 intro n;induction n using Nat.strongRecOn with
 | _ n ih =>
   intro st h;obtain⟨e,s1,h1,h2⟩:=step n st h
   rw[Jd,h1];rcases h2 with ⟨rfl,m,hm,hi⟩|⟨gJ,hq⟩
   ·exact ih m hm s1 hi
   ·refine⟨e,s1, ?_,gJ,hq⟩
    cases e with
    | normal=>exact absurd rfl gJ
    | _=>rfl
def jK [Ext] {P:Program} {b:Code} {st:St} {β:Type} {k:Ex × St->Option β} {r:β} (Inv:Nat->St->Prop) (Q:Ex->St->Prop) (n:Nat)
 (step:∀n st,Inv n st->∃e st',Bx P b st=some (e,st')/\((e=.normal/\∃m,m<n/\Inv m st')\/(e≠.normal/\Q e st')))
 (start:Inv n st) (rest:∀e st',Q e st'->k (e,st')=some r):cT (Bx P (.loop b) st) k=some r:=by
 obtain⟨e,s1,h1,h2,h3⟩:=Uf Inv Q step n st start
 rw[h1];exact rest e s1 h3
def cA [Ext] {P:Program} {b:Code} {st:St} {β:Type} {k:Ex × St->Option β} {R:β->Prop} (Inv:Nat->St->Prop) (Q:Ex->St->Prop) (n:Nat)
 (step:∀n st,Inv n st->∃e st',Bx P b st=some (e,st')/\((e=.normal/\∃m,m<n/\Inv m st')\/(e≠.normal/\Q e st')))
 (start:Inv n st) (rest:∀e st',Q e st'->∃r,k (e,st')=some r/\R r):∃r,cT (Bx P (.loop b) st) k=some r/\R r:=by
 obtain⟨e,s1,h1,h2,h3⟩:=Uf Inv Q step n st start
 rw[h1];exact rest e s1 h3
def kJ {α β γ:Type} (x:Option α) (f:α->Option β) (g:β->Option γ):cT (cT x f) g=cT x fun a=>cT (f a) g:=by cases x<;>rfl
def pP [Ext] {P:Program} {b:Code} {st st':St} {n:Nat} {Inv:Nat->St->Prop} {Q:Ex->St->Prop} (h:Bx P b st=some (.normal,st')) (m:Nat) (hm:m<n) (hi:Inv m st') :
 ∃e st',Bx P b st=some (e,st')/\((e=.normal/\∃m,m<n/\Inv m st')\/(e≠.normal/\Q e st')):=⟨_,_,h,.inl ⟨rfl,m,hm,hi⟩⟩
def aI1 [Ext] {P:Program} {b:Code} {st st':St} {e:Ex} {n:Nat} {Inv:Nat->St->Prop} {Q:Ex->St->Prop} (h:Bx P b st=some (e,st')) (he:e≠.normal) (hq:Q e st') :
 ∃e st',Bx P b st=some (e,st')/\((e=.normal/\∃m,m<n/\Inv m st')\/(e≠.normal/\Q e st')):=⟨_,_,h,.inr ⟨he,hq⟩⟩
def aM (l:List Int):List AV:=l.flatMap rK
@[simp] theorem Lt (l:List (Int)):(aM l).length=l.length * 1:=by
 induction l with
 | nil=>rfl
 | cons x l ih=>simp only[aM,flatMap_cons,length_append,bJ,length_cons] at *;omega
def gG (l:List (Int)):∀x∈aM l,Flat x:=by
 intro x hx;obtain⟨y,_,hy⟩:=mem_flatMap.1 hx
 exact mJ y x hy
def aCt (l:List (Int)) (i:Nat) (h:i<l.length):rd (aM l) (i * 1) 1=rK l[i]:=Pp rK 1 (bJ) l i h
def bF (l:List Int):List AV:=l.flatMap lV
@[simp] theorem Uz (l:List (Int)):(bF l).length=l.length * 1:=by
 induction l with
 | nil=>rfl
 | cons x l ih=>simp only[bF,flatMap_cons,length_append,aZ,length_cons] at *;omega
def iG (l:List (Int)):∀x∈bF l,Flat x:=by
 intro x hx;obtain⟨y,_,hy⟩:=mem_flatMap.1 hx
 exact eD y x hy
def gX (l:List cC):List AV:=l.flatMap bC
@[simp] theorem aI2 (l:List (cC)):(gX l).length=l.length * 32:=by
 induction l with
 | nil=>rfl
 | cons x l ih=>simp only[gX,flatMap_cons,length_append,aO,length_cons] at *;omega
def Xs (l:List (cC)):∀x∈gX l,Flat x:=by
 intro x hx;obtain⟨y,_,hy⟩:=mem_flatMap.1 hx
 exact dY y x hy
structure dL where
 aE:Int
 root:cC
def bG (s:dL):List AV:=lV s.aE++(bC s.root)
@[simp] theorem bW (s:dL):(bG s).length=33:=by simp[bG]
def bR (s:dL):∀x∈bG s,Flat x:=by
 intro x hx;simp only[bG,mem_append,mem_singleton] at hx;rcases hx with hx|hx
 ·(exact eD _ _ hx)
 ·(exact dY _ _ hx)
def kH (s:dL):(bG s)[0]? = some (.v (.int .u64 s.aE)):=rfl
def Ea (s:dL) (x:Int):dP (bG s) 0 ([.v (.int .u64 x)]) 1=bG { s with aE:=x }:=cJ (aZ _)
def vK (s:dL):rd (bG s) 1 32=bC s.root:=(bD rfl (aZ _)).trans (jF (aO _))
def Hn (s:dL) (x:cC):dP (bG s) 1 (bC x) 33=bG { s with root:=x }:=(aD rfl rfl (aZ _)).trans (bL (eP (aO _)))
def gM:dL:=⟨0,cO⟩
def Et:List Value:=[.int .u64 0]++(uC)
def Cr:Et.map AV.v=bG gM:=by simp only[Et,map_append,map_cons,map_nil,jQ,jR];rfl
def Xt:List Bool:=[true]++(Kk)
def tS (a b:dL):iS Xt (bG a) (bG b):=(fZ (show iS [true] [_] [_] from ⟨rfl,trivial⟩) (oL _ _))
def nI (a b:dL):bG a=bG b↔a=b:=by
 refine⟨fun h=>?_,fun h=>by rw[h]⟩
 cases a;cases b
 simp only[bG] at h;obtain⟨h0,h⟩:=append_inj h (by simp)
 have e0:=(Kj _ _).1 h0
 have e1:=(qP _ _).1 h
 subst e0 e1;rfl
def UW (s:dL):rd (bG s) 0 33=bG s:=jF (bW _)
def UX (s x:dL):dP (bG s) 0 (bG x) 33=bG x:=eP (bW _)
structure pU where
 pj:dL
 pf:dL
def fO (s:pU):List AV:=bG s.pj++(bG s.pf)
@[simp] theorem cW (s:pU):(fO s).length=66:=by simp[fO]
def Gz (s:pU):∀x∈fO s,Flat x:=by
 intro x hx;simp only[fO,mem_append,mem_singleton] at hx;rcases hx with hx|hx
 ·(exact bR _ _ hx)
 ·(exact bR _ _ hx)
def Ss (s:pU):rd (fO s) 0 33=bG s.pj:=gK (bW _)
def Su (s:pU) (x:dL):dP (fO s) 0 (bG x) 33=fO { s with pj:=x }:=cJ (bW _)
def zH (s:pU):(fO s)[0]? = some (.v (.int .u64 s.pj.aE)):=(eU (by rw[bW];decide)).trans (kH _)
def Bo (s:pU) (x:Int):dP (fO s) 0 ([.v (.int .u64 x)]) 1=fO { s with pj:={ s.pj with aE:=x }}:=(vX (by rw[bW];decide)).trans (Io (Ea _ x))
def Sv (s:pU):rd (fO s) 33 33=bG s.pf:=(bD rfl (bW _)).trans (jF (bW _))
def Sw (s:pU) (x:dL):dP (fO s) 33 (bG x) 66=fO { s with pf:=x }:=(aD rfl rfl (bW _)).trans (bL (eP (bW _)))
def zI (s:pU):(fO s)[33]? = some (.v (.int .u64 s.pf.aE)):=(aK rfl (bW _)).trans (kH _)
def Rh:pU:=⟨gM,gM⟩
def Sx:List Value:=Et++(Et)
def Vr:Sx.map AV.v=fO Rh:=by simp only[Sx,map_append,map_cons,map_nil,jQ,jR,Cr];rfl
def K3:List Bool:=Xt++(Xt)
def NM (a b:pU):iS K3 (fO a) (fO b):=(fZ (tS _ _) (tS _ _))
def UY (a b:pU):fO a=fO b↔a=b:=by
 refine⟨fun h=>?_,fun h=>by rw[h]⟩
 cases a;cases b
 simp only[fO] at h;obtain⟨h0,h⟩:=append_inj h (by simp)
 have e0:=(nI _ _).1 h0
 have e1:=(nI _ _).1 h
 subst e0 e1;rfl
def GO (s:pU):rd (fO s) 0 66=fO s:=jF (cW _)
def GP (s x:pU):dP (fO s) 0 (fO x) 66=fO x:=eP (cW _)
structure Block where
 dW:pU
 slot:Int
 root:cC
 parent:cC
 gP:cC
 diff:rD
 IV:rD
 eI:dL
 fin:dL
 wM:Bool
def aU (s:Block):List AV:=fO s.dW++(lV s.slot++(bC s.root++(bC s.parent++(bC s.gP++(gI s.diff++(gI s.IV++(bG s.eI++(bG s.fin++(vW s.wM)))))))))
@[simp] theorem bO (s:Block):(aU s).length=238:=by simp[aU]
def Dc (s:Block):∀x∈aU s,Flat x:=by
 intro x hx;simp only[aU,mem_append,mem_singleton] at hx;rcases hx with hx|hx|hx|hx|hx|hx|hx|hx|hx|hx
 ·(exact Gz _ _ hx)
 ·(exact eD _ _ hx)
 ·(exact dY _ _ hx)
 ·(exact dY _ _ hx)
 ·(exact dY _ _ hx)
 ·(exact iQ _ _ hx)
 ·(exact iQ _ _ hx)
 ·(exact bR _ _ hx)
 ·(exact bR _ _ hx)
 ·(exact tR _ _ hx)
def Hy (s:Block):rd (aU s) 0 66=fO s.dW:=gK (cW _)
def Yj (s:Block) (x:pU):dP (aU s) 0 (fO x) 66=aU { s with dW:=x }:=cJ (cW _)
def Bp (s:Block):rd (aU s) 0 33=bG s.dW.pj:=(sN (by rw[cW];decide)).trans (Ss _)
def Pt (s:Block) (x:dL):dP (aU s) 0 (bG x) 33=aU { s with dW:={ s.dW with pj:=x }}:=(vX (by rw[cW];decide)).trans (Io (Su _ x))
def sO (s:Block):(aU s)[0]? = some (.v (.int .u64 s.dW.pj.aE)):=(eU (by rw[cW];decide)).trans (zH _)
def Eb (s:Block) (x:Int):dP (aU s) 0 ([.v (.int .u64 x)]) 1=aU { s with dW:={ s.dW with pj:={ s.dW.pj with aE:=x }} }:=(vX (by rw[cW];decide)).trans (Io (Bo _ x))
def Bq (s:Block):rd (aU s) 33 33=bG s.dW.pf:=(sN (by rw[cW];decide)).trans (Sv _)
def Pu (s:Block) (x:dL):dP (aU s) 33 (bG x) 66=aU { s with dW:={ s.dW with pf:=x }}:=(vX (by rw[cW];decide)).trans (Io (Sw _ x))
def sP (s:Block):(aU s)[33]? = some (.v (.int .u64 s.dW.pf.aE)):=(eU (by rw[cW];decide)).trans (zI _)
def Kl (s:Block):(aU s)[66]? = some (.v (.int .u64 s.slot)):=(aK rfl (cW _)).trans (rfl)
def GQ (s:Block) (x:Int):dP (aU s) 66 ([.v (.int .u64 x)]) 67=aU { s with slot:=x }:=(aD rfl rfl (cW _)).trans (bL (cJ (aZ _)))
def Nx (s:Block):rd (aU s) 67 32=bC s.root:=(bD rfl (cW _)).trans ((bD rfl (aZ _)).trans (gK (aO _)))
def GR (s:Block) (x:cC):dP (aU s) 67 (bC x) 99=aU { s with root:=x }:=(aD rfl rfl (cW _)).trans (bL ((aD rfl rfl (aZ _)).trans (bL (cJ (aO _)))))
def Hz (s:Block):rd (aU s) 99 32=bC s.parent:=(bD rfl (cW _)).trans ((bD rfl (aZ _)).trans ((bD rfl (aO _)).trans (gK (aO _))))
def Yk (s:Block) (x:cC):dP (aU s) 99 (bC x) 131=aU { s with parent:=x }:=(aD rfl rfl (cW _)).trans (bL ((aD rfl rfl (aZ _)).trans (bL ((aD rfl rfl (aO _)).trans (bL (cJ (aO _)))))))
def Gb (s:Block):rd (aU s) 131 32=bC s.gP:=(bD rfl (cW _)).trans ((bD rfl (aZ _)).trans ((bD rfl (aO _)).trans ((bD rfl (aO _)).trans (gK (aO _)))))
def Vs (s:Block) (x:cC):dP (aU s) 131 (bC x) 163=aU { s with gP:=x }:=(aD rfl rfl (cW _)).trans (bL ((aD rfl rfl (aZ _)).trans (bL ((aD rfl rfl (aO _)).trans (bL ((aD rfl rfl (aO _)).trans (bL (cJ (aO _)))))))))
def GS (s:Block):rd (aU s) 163 4=gI s.diff:=(bD rfl (cW _)).trans ((bD rfl (aZ _)).trans ((bD rfl (aO _)).trans ((bD rfl (aO _)).trans ((bD rfl (aO _)).trans (gK (eA _))))))
def GU (s:Block) (x:rD):dP (aU s) 163 (gI x) 167=aU { s with diff:=x }:=(aD rfl rfl (cW _)).trans (bL ((aD rfl rfl (aZ _)).trans (bL ((aD rfl rfl (aO _)).trans (bL ((aD rfl rfl (aO _)).trans (bL ((aD rfl rfl (aO _)).trans (bL (cJ (eA _)))))))))))
def DR (s:Block):rd (aU s) 167 4=gI s.IV:=(bD rfl (cW _)).trans ((bD rfl (aZ _)).trans ((bD rfl (aO _)).trans ((bD rfl (aO _)).trans ((bD rfl (aO _)).trans ((bD rfl (eA _)).trans (gK (eA _)))))))
def DS (s:Block) (x:rD):dP (aU s) 167 (gI x) 171=aU { s with IV:=x }:=(aD rfl rfl (cW _)).trans (bL ((aD rfl rfl (aZ _)).trans (bL ((aD rfl rfl (aO _)).trans (bL ((aD rfl rfl (aO _)).trans (bL ((aD rfl rfl (aO _)).trans (bL ((aD rfl rfl (eA _)).trans (bL (cJ (eA _)))))))))))))
def Ny (s:Block):rd (aU s) 171 33=bG s.eI:=(bD rfl (cW _)).trans ((bD rfl (aZ _)).trans ((bD rfl (aO _)).trans ((bD rfl (aO _)).trans ((bD rfl (aO _)).trans ((bD rfl (eA _)).trans ((bD rfl (eA _)).trans (gK (bW _))))))))
def GV (s:Block) (x:dL):dP (aU s) 171 (bG x) 204=aU { s with eI:=x }:=(aD rfl rfl (cW _)).trans (bL ((aD rfl rfl (aZ _)).trans (bL ((aD rfl rfl (aO _)).trans (bL ((aD rfl rfl (aO _)).trans (bL ((aD rfl rfl (aO _)).trans (bL ((aD rfl rfl (eA _)).trans (bL ((aD rfl rfl (eA _)).trans (bL (cJ (bW _)))))))))))))))
def Km (s:Block):(aU s)[171]? = some (.v (.int .u64 s.eI.aE)):=(aK rfl (cW _)).trans ((aK rfl (aZ _)).trans ((aK rfl (aO _)).trans ((aK rfl (aO _)).trans ((aK rfl (aO _)).trans ((aK rfl (eA _)).trans ((aK rfl (eA _)).trans ((eU (by rw[bW];decide)).trans (kH _))))))))
def Sy (s:Block):rd (aU s) 204 33=bG s.fin:=(bD rfl (cW _)).trans ((bD rfl (aZ _)).trans ((bD rfl (aO _)).trans ((bD rfl (aO _)).trans ((bD rfl (aO _)).trans ((bD rfl (eA _)).trans ((bD rfl (eA _)).trans ((bD rfl (bW _)).trans (gK (bW _)))))))))
def NN (s:Block) (x:dL):dP (aU s) 204 (bG x) 237=aU { s with fin:=x }:=(aD rfl rfl (cW _)).trans (bL ((aD rfl rfl (aZ _)).trans (bL ((aD rfl rfl (aO _)).trans (bL ((aD rfl rfl (aO _)).trans (bL ((aD rfl rfl (aO _)).trans (bL ((aD rfl rfl (eA _)).trans (bL ((aD rfl rfl (eA _)).trans (bL ((aD rfl rfl (bW _)).trans (bL (cJ (bW _)))))))))))))))))
def Na (s:Block):(aU s)[204]? = some (.v (.int .u64 s.fin.aE)):=(aK rfl (cW _)).trans ((aK rfl (aZ _)).trans ((aK rfl (aO _)).trans ((aK rfl (aO _)).trans ((aK rfl (aO _)).trans ((aK rfl (eA _)).trans ((aK rfl (eA _)).trans ((aK rfl (bW _)).trans ((eU (by rw[bW];decide)).trans (kH _)))))))))
def Sz (s:Block) (x:cC):dP (aU s) 205 (bC x) 237=aU { s with fin:={ s.fin with root:=x }}:=(aD rfl rfl (cW _)).trans (bL ((aD rfl rfl (aZ _)).trans (bL ((aD rfl rfl (aO _)).trans (bL ((aD rfl rfl (aO _)).trans (bL ((aD rfl rfl (aO _)).trans (bL ((aD rfl rfl (eA _)).trans (bL ((aD rfl rfl (eA _)).trans (bL ((aD rfl rfl (bW _)).trans (bL ((vX (by rw[bW];decide)).trans (Io (Hn _ x))))))))))))))))))
def Vt (s:Block):(aU s)[237]? = some (.v (.bool s.wM)):=(aK rfl (cW _)).trans ((aK rfl (aZ _)).trans ((aK rfl (aO _)).trans ((aK rfl (aO _)).trans ((aK rfl (aO _)).trans ((aK rfl (eA _)).trans ((aK rfl (eA _)).trans ((aK rfl (bW _)).trans ((aK rfl (bW _)).trans (rfl)))))))))
def Yl (s:Block) (x:Bool):dP (aU s) 237 ([.v (.bool x)]) 238=aU { s with wM:=x }:=(aD rfl rfl (cW _)).trans (bL ((aD rfl rfl (aZ _)).trans (bL ((aD rfl rfl (aO _)).trans (bL ((aD rfl rfl (aO _)).trans (bL ((aD rfl rfl (aO _)).trans (bL ((aD rfl rfl (eA _)).trans (bL ((aD rfl rfl (eA _)).trans (bL ((aD rfl rfl (bW _)).trans (bL ((aD rfl rfl (bW _)).trans (bL (eP (iC _)))))))))))))))))))
def dO:Block:=⟨Rh,0,cO,cO,cO,KK,KK,gM,gM,false⟩
def Jz:List Value:=Sx++([.int .u64 0]++(uC++(uC++(uC++(DQ++(DQ++(Et++(Et++([.bool false])))))))))
def Ta:Jz.map AV.v=aU dO:=by simp only[Jz,map_append,map_cons,map_nil,jQ,jR,Vr,Cr];rfl
def A3:List Bool:=K3++([true]++(Kk++(Kk++(Kk++(K2++(K2++(Xt++(Xt++([false])))))))))
def Xu (a b:Block):iS A3 (aU a) (aU b):=(fZ (NM _ _) (fZ (show iS [true] [_] [_] from ⟨rfl,trivial⟩) (fZ (oL _ _) (fZ (oL _ _) (fZ (oL _ _) (fZ (Ps _ _) (fZ (Ps _ _) (fZ (tS _ _) (fZ (tS _ _) (show iS [false] [_] [_] from trivial))))))))))
def DT (a b:Block):aU a=aU b↔a=b:=by
 refine⟨fun h=>?_,fun h=>by rw[h]⟩
 cases a;cases b
 simp only[aU] at h;obtain⟨h0,h⟩:=append_inj h (by simp)
 obtain⟨h1,h⟩:=append_inj h (by simp)
 obtain⟨h2,h⟩:=append_inj h (by simp)
 obtain⟨h3,h⟩:=append_inj h (by simp)
 obtain⟨h4,h⟩:=append_inj h (by simp)
 obtain⟨h5,h⟩:=append_inj h (by simp)
 obtain⟨h6,h⟩:=append_inj h (by simp)
 obtain⟨h7,h⟩:=append_inj h (by simp)
 obtain⟨h8,h⟩:=append_inj h (by simp)
 have e0:=(UY _ _).1 h0
 have e1:=(Kj _ _).1 h1
 have e2:=(qP _ _).1 h2
 have e3:=(qP _ _).1 h3
 have e4:=(qP _ _).1 h4
 have e5:=(Vq _ _).1 h5
 have e6:=(Vq _ _).1 h6
 have e7:=(nI _ _).1 h7
 have e8:=(nI _ _).1 h8
 have e9:=(KJ _ _).1 h
 subst e0 e1 e2 e3 e4 e5 e6 e7 e8 e9;rfl
def NO (s:Block):rd (aU s) 0 238=aU s:=jF (bO _)
def NP (s x:Block):dP (aU s) 0 (aU x) 238=aU x:=eP (bO _)
structure Node where
 block:Block
 up:Int
 status:Int
def fF (s:Node):List AV:=aU s.block++(rK s.up++(rK s.status))
@[simp] theorem tX (s:Node):(fF s).length=240:=by simp[fF]
def Om (s:Node):∀x∈fF s,Flat x:=by
 intro x hx;simp only[fF,mem_append,mem_singleton] at hx;rcases hx with hx|hx|hx
 ·(exact Dc _ _ hx)
 ·(exact mJ _ _ hx)
 ·(exact mJ _ _ hx)
def GW (s:Node):rd (fF s) 0 238=aU s.block:=gK (bO _)
def GX (s:Node) (x:Block):dP (fF s) 0 (aU x) 238=fF { s with block:=x }:=cJ (bO _)
def Kn (s:Node):rd (fF s) 0 66=fO s.block.dW:=(sN (by rw[bO];decide)).trans (Hy _)
def Gc (s:Node):rd (fF s) 0 33=bG s.block.dW.pj:=(sN (by rw[bO];decide)).trans (Bp _)
def xB (s:Node):(fF s)[0]? = some (.v (.int .u64 s.block.dW.pj.aE)):=(eU (by rw[bO];decide)).trans (sO _)
def Gd (s:Node):rd (fF s) 33 33=bG s.block.dW.pf:=(sN (by rw[bO];decide)).trans (Bq _)
def xC (s:Node):(fF s)[33]? = some (.v (.int .u64 s.block.dW.pf.aE)):=(eU (by rw[bO];decide)).trans (sP _)
def Nb (s:Node):(fF s)[66]? = some (.v (.int .u64 s.block.slot)):=(eU (by rw[bO];decide)).trans (Kl _)
def Pv (s:Node):rd (fF s) 67 32=bC s.block.root:=(sN (by rw[bO];decide)).trans (Nx _)
def Ko (s:Node):rd (fF s) 99 32=bC s.block.parent:=(sN (by rw[bO];decide)).trans (Hz _)
def Ip (s:Node):rd (fF s) 131 32=bC s.block.gP:=(sN (by rw[bO];decide)).trans (Gb _)
def Pw (s:Node):rd (fF s) 171 33=bG s.block.eI:=(sN (by rw[bO];decide)).trans (Ny _)
def Tb (s:Node):rd (fF s) 204 33=bG s.block.fin:=(sN (by rw[bO];decide)).trans (Sy _)
def UZ (s:Node):(fF s)[238]? = some (.v (.int .i64 s.up)):=(aK rfl (bO _)).trans (rfl)
def A4 (s:Node) (x:Int):dP (fF s) 238 ([.v (.int .i64 x)]) 239=fF { s with up:=x }:=(aD rfl rfl (bO _)).trans (bL (cJ (bJ _)))
def Hw (s:Node):(fF s)[239]? = some (.v (.int .i64 s.status)):=(aK rfl (bO _)).trans ((aK rfl (bJ _)).trans (rfl))
def Jh (s:Node) (x:Int):dP (fF s) 239 ([.v (.int .i64 x)]) 240=fF { s with status:=x }:=(aD rfl rfl (bO _)).trans (bL ((aD rfl rfl (bJ _)).trans (bL (eP (bJ _)))))
def K4:Node:=⟨dO,0,0⟩
def DU:List Value:=Jz++([.int .i64 0]++([.int .i64 0]))
def NQ:DU.map AV.v=fF K4:=by simp only[DU,map_append,map_cons,map_nil,jQ,jR,Ta];rfl
def aHf:List Bool:=A3++([true]++([true]))
def AO (a b:Node):iS aHf (fF a) (fF b):=(fZ (Xu _ _) (fZ (show iS [true] [_] [_] from ⟨rfl,trivial⟩) (show iS [true] [_] [_] from ⟨rfl,trivial⟩)))
def U2 (a b:Node):fF a=fF b↔a=b:=by
 refine⟨fun h=>?_,fun h=>by rw[h]⟩
 cases a;cases b
 simp only[fF] at h;obtain⟨h0,h⟩:=append_inj h (by simp)
 obtain⟨h1,h⟩:=append_inj h (by simp)
 have e0:=(DT _ _).1 h0
 have e1:=(yL _ _).1 h1
 have e2:=(yL _ _).1 h
 subst e0 e1 e2;rfl
def VA (s:Node):rd (fF s) 0 240=fF s:=jF (tX _)
def VB (s x:Node):dP (fF s) 0 (fF x) 240=fF x:=eP (tX _)
def bV (l:List Node):List AV:=l.flatMap fF
@[simp] theorem On (l:List (Node)):(bV l).length=l.length * 240:=by
 induction l with
 | nil=>rfl
 | cons x l ih=>simp only[bV,flatMap_cons,length_append,tX,length_cons] at *;omega
def iU (l:List (Node)):∀x∈bV l,Flat x:=by
 intro x hx;obtain⟨y,_,hy⟩:=mem_flatMap.1 hx
 exact Om y x hy
def U3 (l:List (Node)) (i:Nat) (h:i<l.length):rd (bV l) (i * 240) 240=fF l[i]:=Pp fF 240 (tX) l i h
structure Tree where
 nodes:List Node
def cH (s:Tree):List AV:=[.sl s.nodes.length (bV s.nodes)]
@[simp] theorem Vu (s:Tree):(cH s).length=1:=by simp[cH]
def A5 (s:Tree):∀x∈cH s,Flat x:=by
 intro x hx;simp only[cH,mem_append,mem_singleton] at hx;(subst hx;exact .sl _ _ (iU _))
def DV (s:Tree):(cH s)[0]? = some (.sl s.nodes.length (bV s.nodes)):=rfl
def VC (s:Tree):rd (cH s) 0 1=cH s:=jF (Vu _)
def VD (s x:Tree):dP (cH s) 0 (cH x) 1=cH x:=eP (Vu _)
end Go.Ab
end
section
namespace Go.Ab
open Classical
def zQ (e sz by_:Nat) (v:Option (Nat × List AV)):Option (Option (Nat × Nat) × oA) :=
 match v with
 | some (m,news)=>if news.length=m * sz/\m * by_<=140737488355328/\m<=maxLen then some (none,.row e sz m news) else none
 | none=>none
def zF (e sz by_:Nat) (o:Option oA) (s g:Nat) (v:Option (Nat × List AV)):Option (Option (Nat × Nat) × oA) :=
 match o,v with
 | some (.row e' sV n cs),some (m,news)=>if news.length=m * sz/\e'=e/\sV=sz/\(n+m) * by_<=140737488355328/\n+m<=maxLen then some (some (s,g),.row e sz (n+m) (cs++news)) else none
 | _,_=>none
def acE (e sz by_ n:Nat) (cs:List AV) (v:Option (Nat × List AV)):Option (Option (Nat × Nat) × oA) :=
 match v with
 | some (m,news)=>if news.length=m * sz/\cs.length=n * sz/\(n=0\/0<m)/\(n+m) * by_<=140737488355328/\n+m<=maxLen then some (none,.row e sz (n+m) (cs++news)) else none
 | none=>none
section
variable {P:Program} {st:St} {T e sz by_:Nat}
theorem vL (hs:dX P T=some (e,sz,by_)) (x:AV):dJ P st T (.v (.slice none 0 0)) x=zQ e sz by_ (aV st x):=by
 simp only[dJ,hs,zQ];cases aV st x with
 | none=>rfl
 | some v =>
   obtain⟨m,news⟩:=v
   by_cases h1:news.length=m * sz<;>simp[h1]
theorem sF (hs:dX P T=some (e,sz,by_)) (s g:Nat) (x:AV):dJ P st T (.own s g) x=zF e sz by_ (st.heap s g) s g (aV st x):=by
 simp only[dJ,hs,zF];cases aV st x with
 | none=>cases st.heap s g with
   | none=>rfl
   | some o=>cases o<;>rfl
 | some v =>
   obtain⟨m,news⟩:=v
   cases st.heap s g with
   | none=>by_cases h1:news.length=m * sz<;>simp[h1]
   | some o =>
     cases o with
     | row a b n cs=>by_cases h1:news.length=m * sz<;>simp[h1]
     | _=>by_cases h1:news.length=m * sz<;>simp[h1]
theorem aI4 (hs:dX P T=some (e,sz,by_)) (n:Nat) (cs:List AV) (x:AV):dJ P st T (.cl n cs) x=acE e sz by_ n cs (aV st x):=by
 simp only[dJ,hs,acE];cases aV st x with
 | none=>rfl
 | some v =>
   obtain⟨m,news⟩:=v
   by_cases h1:news.length=m * sz<;>simp[h1]
end
def PO (e sz:Nat) (o:Option oA) (s g:Nat) (i:Int):Option AV :=
 match o with
 | some (.row e' sV n _)=>if 0<=i/\i<n/\e'=e/\sV=sz then some (.ptr s g (i.toNat * sz)) else none
 | some (.Ii e' sV n _)=>if 0<=i/\i<n/\e'=e/\sV=sz then some (.ptr s g (i.toNat * sz)) else none
 | _=>none
def Mp {P:Program} {st:St} {T e sz by_:Nat} (hn:jP P T=none) (hs:dX P T=some (e,sz,by_)) (s g:Nat) (k:IntKind) (i:Int):bI P st T (.own s g) (.v (.int k i))=PO e sz (st.heap s g) s g i:=by
 simp only[bI,hn,hs,PO];cases st.heap s g with
 | none=>rfl
 | some e=>cases e<;>rfl
def aFf (e sz n:Nat) (cs:List AV) (s g:Nat) (i:Int) (h0:0<=i) (h1:i<n):PO e sz (some (.row e sz n cs)) s g i=some (.ptr s g (i.toNat * sz)):=by
 simp[PO,h0,h1]
def Vv [Ext] {P:Program} {S e sz by_:Nat} {z:List Value} (hs:dX P S=some (e,sz,by_)) (hz:eK P e=some z) {call:Nat->List AV->Option AV} {ops:Array Oper} {st:St} {T:Nat} {pos:String} {fB:Array Edge} (d:Nat) :
 cI P call ops ⟨some d,.buildSlice S 0 #[],T,pos,fB,none⟩ st=some ((st.new d (.row e sz 0 [])).put (some d) (.own d (st.aQ d))):=by
 rw[lC,hs];simp[cT,hz,gS]
def elV {α:Type} (x:AV) (k:Value->Option α) (fb:Option α):Option α :=
 match x with
 | .v y=>if y.oneCell'=true then k y else fb
 | _=>fb
def aFh {α:Type} (kk:IntKind) (n:Int) (k:Value->Option α) (fb:Option α):elV (.v (.int kk n)) k fb=k (.int kk n):=rfl
def aCu {α:Type} (n:Bool) (k:Value->Option α) (fb:Option α):elV (.v (.bool n)) k fb=k (.bool n):=rfl
@[congr] theorem aLf {α:Type} {x y:AV} {k:Value->Option α} {fb:Option α} (h:x=y):elV x k fb=elV y k fb:=by rw[h]
def NR [Ext] {P:Program} {S e by_:Nat} {z:Value} (hs:dX P S=some (e,1,by_)) (hz:eK P e=some [z]) {call:Nat->List AV->Option AV} {ops:Array Oper} {st:St} {T:Nat} {pos:String} {fB:Array Edge} (d:Nat) (x:Operand) :
 cI P call ops ⟨some d,.buildSlice S 1 #[(0,x)],T,pos,fB,none⟩ st=elV (st.ev x) (fun y=>some ((st.new d (.row e 1 1 [.v y])).put (some d) (.own d (st.aQ d)))) (cI P call ops ⟨some d,.buildSlice S 1 #[(0,x)],T,pos,fB,none⟩ st):=by
 unfold elV;split
 ·rename_i y h;split
  ·rename_i hy;rw[lC,hs];simp[hz,cT,h,AV.jH,hy,gS,AV.cells]
  ·rfl
 ·rfl
def U4 {α:Type} (z:Nat) (x:AV) (k:List AV->Option α) (fb:Option α):Option α :=
 match x with
 | .agg cs=>if cs.length=z then k cs else fb
 | _=>fb
def aFi {α:Type} (z:Nat) (cs:List AV) (k:List AV->Option α) (fb:Option α) (h:cs.length=z):U4 z (.agg cs) k fb=k cs:=if_pos h
@[congr] theorem aLg {α:Type} {z:Nat} {x y:AV} {k:List AV->Option α} {fb:Option α} (h:x=y):U4 z x k fb=U4 z y k fb:=by rw[h]
def Dd [Ext] {P:Program} {S e sz by_:Nat} {z:List Value} (hs:dX P S=some (e,sz,by_)) (hz:eK P e=some z) (hl:z.length=sz) (hm:sz<=2 ^ 24) {call:Nat->List AV->Option AV} {ops:Array Oper} {st:St} {T:Nat} {pos:String} {fB:Array Edge} (d:Nat) (x:Operand) :
 cI P call ops ⟨some d,.buildSlice S 1 #[(0,x)],T,pos,fB,none⟩ st=U4 sz (st.ev x) (fun cs=>some ((st.new d (.row e sz 1 cs)).put (some d) (.own d (st.aQ d)))) (cI P call ops ⟨some d,.buildSlice S 1 #[(0,x)],T,pos,fB,none⟩ st):=by
 unfold U4;split
 ·rename_i cs h;split
  ·rename_i hc;have h2:((List.range 1).flatMap fun _=>z.map AV.v)=z.map AV.v:=by simp[List.range,List.range.loop]
   have hzl:(z.map AV.v).length=sz:=by simpa using hl
   rw[lC,hs];simp only[hz,cT,toList_toArray,all_cons,all_nil,h,AV.jH,Bool.and_self,map_cons,map_nil,gS,AV.cells,hc,Nat.zero_mul,Nat.zero_add,take_zero,nil_append];rw[h2,if_pos (by simpa using hm),if_pos (by simp[hzl])]
   rw[drop_of_length_le (by rw[hzl];exact Nat.le_refl _),append_nil]
  ·rfl
 ·rfl
def Lj {e sz by_ s g n:Nat} {cs:List AV} (hl:cs.length=n * sz) (hb:(n:Int) * by_<=140737488355328) (hm:(n:Int)<=maxLen):zF e sz by_ (some (.row e sz 0 [])) s g (some (n,cs))=some (some (s,g),.row e sz n cs):=by
 simp only[zF];simp only[Nat.zero_add,true_and,nil_append];have oM:n * by_<=140737488355328:=by
  have:((n * by_:Nat):Int)<=140737488355328:=by rw[Int.natCast_mul];exact hb
  omega
 rw[if_pos ⟨hl,oM,by omega⟩]
end Go.Ab
end
section
namespace Go.Ab
open Classical
variable [Ext]
@[congr] theorem aLh {P:Program} {bi:Bool} {c:Code} {s t:St} (h:s=t):xZ P bi c s=xZ P bi c t:=by rw[h]
theorem U5 {P:Program} {bi:Bool} (c:Operand) (a b:Code) (st:St):xZ P bi (.cond c a b) st=onB (st.ev c) fun t=>if t=true then xZ P bi a st else xZ P bi b st:=by
 cases h:st.ev c with
 | v x =>
   cases x with
   | bool t=>exact UL P c a b st h
   | _ =>
     apply Option.ext
     intro r;rw[gQ];constructor
     ·rintro⟨n,m,h'⟩
      cases m with
      | zero=>simp[uN] at h'
      | succ m=>simp[uN,h] at h'
     ·intro h';simp[onB] at h'
 | _ =>
   apply Option.ext
   intro r;rw[gQ];constructor
   ·rintro⟨n,m,h'⟩
    cases m with
    | zero=>simp[uN] at h'
    | succ m=>simp[uN,h] at h'
   ·intro h';simp[onB] at h'
section
variable {P:Program} {call:Nat->List AV->Option AV} {inl:Nat->List AV->St->Option (AV × St)} {ops:Array Oper} {st:St}
theorem A6:mL P true call inl ops [] st=some st:=rfl
theorem VE (o:Oper) (l:List Oper):mL P true call inl ops (o :: l) st=cT (gT P true call inl ops o st) (mL P true call inl ops l):=rfl
@[congr] theorem aHg {o:Oper} {s t:St} (h:s=t):gT P true call inl ops o s=gT P true call inl ops o t:=by rw[h]
theorem aCv {o:Oper} (h:Hs o=none):gT P true call inl ops o st=cI P call ops o st:=by
 unfold gT;rw[if_pos rfl,h]
theorem U6 {d:Option Nat} {g:Nat} {args:Array Operand} {uF:Array Nat} {T:Nat} {pos:String} {fB:Array Edge} (h:Ext.inl g d=true) :
 gT P true call inl ops ⟨d,.call ⟨.value (.func g),args,uF⟩,T,pos,fB,none⟩ st=cT (inl g (args.toList.map st.ev) st) fun r=>some ((st.back r.2).put d r.1):=by
 have e:Hs ⟨d,.call ⟨.value (.func g),args,uF⟩,T,pos,fB,none⟩=some (g,args.toList):=by
  unfold Hs;simp only
  rw[if_pos h]
 unfold gT;rw[if_pos rfl,e];simp only[gv,if_true];cases inl g (args.toList.map st.ev) st<;>rfl
end
theorem bS (st s:St):(st.back s).env=st.env:=rfl
theorem aT (st s:St):(st.back s).heap=s.heap:=rfl
theorem aX (st s:St):(st.back s).aQ=s.aQ:=rfl
theorem yB {P:Program} {fn:Func} {st:St} {e:Ex} {r:ResultVar} {x:AV} (he:e=.ret\/e=.normal) (hr:fn.results.toList=[r]) (h1:lQ P st r=some x):aIW P fn (e,st)=some (x,st):=by
 have h:Ci P fn st=some x:=by
  unfold Ci;rw[hr];exact h1
 rcases he with rfl|rfl<;>simp only[aIW,h,aAo]
theorem A7 {P:Program} {bi:Bool} {b:Code} (Inv:Nat->St->Prop) (Q:Ex->St->Prop)
 (step:∀n st,Inv n st->∃e st',xZ P bi b st=some (e,st')/\((e=.normal/\∃m,m<n/\Inv m st')\/(e≠.normal/\Q e st'))):∀n st,Inv n st->∃e st',xZ P bi (.loop b) st=some (e,st')/\e≠.normal/\Q e st':=by
 intro n;induction n using Nat.strongRecOn with
 | _ n ih =>
   intro st h;obtain⟨e,s1,h1,h2⟩:=step n st h
   rw[UK,h1];rcases h2 with ⟨rfl,m,hm,hi⟩|⟨gJ,hq⟩
   ·exact ih m hm s1 hi
   ·refine⟨e,s1, ?_,gJ,hq⟩
    cases e with
    | normal=>exact absurd rfl gJ
    | _=>rfl
theorem kZ {P:Program} {bi:Bool} {b:Code} {st:St} {β:Type} {k:Ex × St->Option β} {R:β->Prop} (Inv:Nat->St->Prop) (Q:Ex->St->Prop) (n:Nat)
 (step:∀n st,Inv n st->∃e st',xZ P bi b st=some (e,st')/\((e=.normal/\∃m,m<n/\Inv m st')\/(e≠.normal/\Q e st')))
 (start:Inv n st) (rest:∀e st',Q e st'->∃r,k (e,st')=some r/\R r):∃r,cT (xZ P bi (.loop b) st) k=some r/\R r:=by
 obtain⟨e,s1,h1,h2,h3⟩:=A7 Inv Q step n st start
 rw[h1];exact rest e s1 h3
theorem aI5 {P:Program} {bi:Bool} {b:Code} {st st':St} {n:Nat} {Inv:Nat->St->Prop} {Q:Ex->St->Prop} (h:xZ P bi b st=some (.normal,st')) (m:Nat) (hm:m<n) (hi:Inv m st') :
 ∃e st',xZ P bi b st=some (e,st')/\((e=.normal/\∃m,m<n/\Inv m st')\/(e≠.normal/\Q e st')):=⟨_,_,h,.inl ⟨rfl,m,hm,hi⟩⟩
theorem aFj {P:Program} {bi:Bool} {b:Code} {st st':St} {e:Ex} {n:Nat} {Inv:Nat->St->Prop} {Q:Ex->St->Prop} (h:xZ P bi b st=some (e,st')) (he:e≠.normal) (hq:Q e st') :
 ∃e st',xZ P bi b st=some (e,st')/\((e=.normal/\∃m,m<n/\Inv m st')\/(e≠.normal/\Q e st')):=⟨_,_,h,.inr ⟨he,hq⟩⟩
theorem VF {P:Program} {id:Nat} {ops:Array Oper} {d:Bool} {st:St} {l:List (Nat × Nat)} (h:Ext.dyn id ops.size (sW ops)=l) :
 xZ P true (.region id ops d) st=cT (mL P true (aG P) (qH P) ops ops.toList st) fun s=>if qU ops s l then some (.normal,s) else none:=by
 rw[DN];congr 1
 funext s
 rw[h];by_cases hf:qU ops s l
 ·rw[if_pos hf,if_neg];rintro⟨_,hn⟩
  exact hn hf
 ·rw[if_neg hf,if_pos ⟨rfl,hf⟩]
theorem U7 (ops:Array Oper) (s:St):qU ops s []=True:=rfl
theorem A8 (ops:Array Oper) (s:St) (p:Nat × Nat) (l:List (Nat × Nat)):qU ops s (p :: l)=(Zs ops s p/\qU ops s l):=rfl
def VG (s:St) (x y:Option (List Nat)):Prop:=match x,y with|some aS,some bs=>Of s aS bs|_,_=>False
theorem U8 (ops:Array Oper) (s:St) (i j:Nat):Zs ops s (i,j)=VG s ((ops[i]?).bind gY) ((ops[j]?).bind gY):=rfl
theorem aCw (s:St) (a b:Nat):VG s (some [a]) (some [b])=fL (s.env a) (s.env b):=by simp[VG,Of]
theorem aCx (s:St) (a a' b:Nat):VG s (some [a,a']) (some [b])=(fL (s.env a) (s.env b)/\fL (s.env a') (s.env b)):=by simp[VG,Of]
@[congr] theorem aCy {x y x' y':AV} (h:x=x') (h':y=y'):fL x y=fL x' y':=by rw[h,h']
theorem VH (s g o s' g' o':Nat):fL (.ptr s g o) (.ptr s' g' o')=((s,g)≠(s',g')):=rfl
theorem VI (s g o s' g':Nat):fL (.ptr s g o) (.own s' g')=((s,g)≠(s',g')):=rfl
theorem VJ (s g s' g' o':Nat):fL (.own s g) (.ptr s' g' o')=((s,g)≠(s',g')):=rfl
theorem VK (x:Value) (s g o:Nat):fL (.v x) (.ptr s g o)=True:=rfl
theorem VL (x:Value) (s g o:Nat):fL (.ptr s g o) (.v x)=True:=rfl
theorem VM (s g n:Nat) (cs:List AV):fL (.own s g) (.sl n cs)=True:=rfl
theorem VN (s g n:Nat) (cs:List AV):fL (.sl n cs) (.own s g)=True:=rfl
theorem VO (s g o n:Nat) (cs:List AV):fL (.sl n cs) (.ptr s g o)=True:=rfl
theorem VP (s g o n:Nat) (cs:List AV):fL (.ptr s g o) (.sl n cs)=True:=rfl
theorem VQ (n m:Nat) (cs ds:List AV):fL (.sl n cs) (.sl m ds)=True:=rfl
theorem VR (s g:Nat) (x:Value):fL (.own s g) (.v x)=True:=rfl
theorem VT (s g:Nat) (x:Value):fL (.v x) (.own s g)=True:=rfl
theorem VU (x:Value) (n:Nat) (cs:List AV):fL (.v x) (.sl n cs)=True:=rfl
theorem VV (x:Value) (n:Nat) (cs:List AV):fL (.sl n cs) (.v x)=True:=rfl
def aCz (x y:AV):Option AV :=
 match x,y with
 | .v (.int k a),.v (.int _ b)=>some (.v (.int k (if b<a then b else a)))
 | _,_=>none
def aCA (x y:AV):Option AV :=
 match x,y with
 | .v (.int k a),.v (.int _ b)=>some (.v (.int k (if b > a then b else a)))
 | _,_=>none
theorem Ge (k k':IntKind) (a b:Int):aCz (.v (.int k a)) (.v (.int k' b))=some (.v (.int k (if b<a then b else a))):=rfl
theorem Gf (k k':IntKind) (a b:Int):aCA (.v (.int k a)) (.v (.int k' b))=some (.v (.int k (if a<b then b else a))):=rfl
@[congr] theorem aI6 {x y x' y':AV} (h:x=x') (h':y=y'):aCz x y=aCz x' y':=by rw[h,h']
@[congr] theorem aI7 {x y x' y':AV} (h:x=x') (h':y=y'):aCA x y=aCA x' y':=by rw[h,h']
theorem Vw {P:Program} {call:Nat->List AV->Option AV} {ops:Array Oper} {st:St} {d:Option Nat} {T:Nat} {pos:String} {fB:Array Edge} (x y:Operand) (uF:Array Nat) :
 cI P call ops ⟨d,.call ⟨.builtin .min,#[x,y],uF⟩,T,pos,fB,none⟩ st=cT (aCz (st.ev x) (st.ev y)) fun v=>some (st.put d v):=by
 rw[eE];simp only[dU,iT,aCz];cases st.ev x with
 | v a=>cases a with
   | int k a=>cases st.ev y with
     | v b=>cases b<;>rfl
     | _=>rfl
   | _=>rfl
 | _=>rfl
theorem Vx {P:Program} {call:Nat->List AV->Option AV} {ops:Array Oper} {st:St} {d:Option Nat} {T:Nat} {pos:String} {fB:Array Edge} (x y:Operand) (uF:Array Nat) :
 cI P call ops ⟨d,.call ⟨.builtin .max,#[x,y],uF⟩,T,pos,fB,none⟩ st=cT (aCA (st.ev x) (st.ev y)) fun v=>some (st.put d v):=by
 rw[eE];simp only[dU,iT,aCA];cases st.ev x with
 | v a=>cases a with
   | int k a=>cases st.ev y with
     | v b=>cases b<;>rfl
     | _=>rfl
   | _=>rfl
 | _=>rfl
def mvE (call:Nat->List AV->Option AV) (g:Nat) (rest:List AV) (s k d c:Nat) (o:Option oA):Option qZ :=
 match o with
 | some (.row e sz n cs) =>
   if (∀c∈cs,Flat c)/\∀x∈rest,Flat x then
    match call g (.uniq e sz n cs :: rest) with
    | some (.uniq e' sV n' Gp)=>some { dst:=some d,val:=.own d c,dP:=some (s,k,none),new:=some (d,[.row e' sV n' Gp])}
    | some (.eH [.uniq e' sV n' Gp])=>some { dst:=some d,val:=.eH [],dP:=some (s,k,some (.row e' sV n' Gp))}
    | _=>none
   else none
 | _=>none
theorem A9 (call:Nat->List AV->Option AV) (g s k d:Nat) (rest:List AV) (st:St):lP call g (.own s k :: rest) st (some d)=mvE call g rest s k d (st.aQ d) (st.heap s k):=by
 unfold lP mvE;simp only
 cases st.heap s k with
 | none=>rfl
 | some o =>
   cases o with
   | row e sz n cs =>
     simp only
     by_cases hc:(∀c∈cs,Flat c)/\∀x∈rest,Flat x
     ·simp only[if_pos hc];cases call g (.uniq e sz n cs :: rest) with
      | none=>rfl
      | some r =>
        cases r with
        | eH vs =>
          cases vs with
          | nil=>rfl
          | cons x xs =>
            cases x with
            | uniq _ _ _ _=>cases xs<;>rfl
            | _=>rfl
        | _=>rfl
     ·simp only[if_neg hc]
   | _=>rfl
theorem aAZ {call:Nat->List AV->Option AV} {g:Nat} {rest:List AV} {s k d c e sz n e' sV n':Nat} {cs Gp:List AV} (hf:∀c∈cs,Flat c) (hr:∀x∈rest,Flat x) (hc:call g (.uniq e sz n cs :: rest)=some (.uniq e' sV n' Gp)) :
 mvE call g rest s k d c (some (.row e sz n cs))=some { dst:=some d,val:=.own d c,dP:=some (s,k,none),new:=some (d,[.row e' sV n' Gp])}:=by
 unfold mvE;simp only
 rw[if_pos ⟨hf,hr⟩,hc]
@[congr] theorem aLi {call:Nat->List AV->Option AV} {g:Nat} {rest:List AV} {s k d c c':Nat} {o o':Option oA} (h:c=c') (h':o=o'):mvE call g rest s k d c o=mvE call g rest s k d c' o':=by rw[h,h']
theorem ZL {call:Nat->List AV->Option AV} {g d:Nat} {rest:List AV} {st:St} {e sz n:Nat} {cs:List AV} (hr:∀x∈rest,Flat x) (hc:call g (.v (.slice none 0 0) :: rest)=some (.uniq e sz n cs)) :
 lP call g (.v (.slice none 0 0) :: rest) st (some d)=some { dst:=some d,val:=.own d (st.aQ d),new:=some (d,[.row e sz n cs])}:=by
 have hf:∀x∈AV.v (.slice none 0 0) :: rest,Flat x:=by
  intro x hx;rcases mem_cons.1 hx with rfl|hx
  ·exact .v _
  ·exact hr x hx
 have hnf:¬Flat (.uniq e sz n cs):=by intro h;cases h
 unfold lP;simp only[if_pos hf];unfold bH;rw[if_pos hf,hc];simp only[cT];unfold iZ;rw[if_neg hnf];rfl
theorem aAY {P:Program} {fn:Func} {st:St} {e:Ex} {r:ResultVar} {s g ee sz n:Nat} {cs:List AV} (he:e=.ret\/e=.normal) (hr:fn.results.toList=[r]) (h1:lQ P st r=some (.own s g)) (h2:st.heap s g=some (.row ee sz n cs)) (hm:∀c∈cs,iE c) :
 aAX P fn (e,st)=some (.uniq ee sz n cs):=by
 have h:Lf P fn st=some (.uniq ee sz n cs):=by
  unfold Lf;rw[hr];simp only[h1,h2];rw[if_pos hm]
 rcases he with rfl|rfl<;>exact h
theorem mQ (e sz n:Nat) (cs rest:List AV):(St.tU e sz n cs rest).env 0=.own 0 0:=rfl
theorem pA (e sz n:Nat) (cs rest:List AV) (t:Nat):(St.tU e sz n cs rest).env (t+1)=(rest[t]?).getD (.v undef):=rfl
theorem mR (e sz n:Nat) (cs rest:List AV):(St.tU e sz n cs rest).heap 0 0=some (.row e sz n cs):=rfl
theorem mS (e sz n:Nat) (cs rest:List AV):(St.tU e sz n cs rest).aQ 0=1:=rfl
theorem pB (e sz n:Nat) (cs rest:List AV) (s:Nat) (h:s≠0):(St.tU e sz n cs rest).aQ s=0:=if_neg h
end Go.Ab
end
section
namespace Go.Ab
open Classical
variable [Ext]
theorem Rs {P:Program} {a:Code} {st:St} {β:Type} {k:Ex × St->Option β} {R:β->Prop} (Q:Ex->St->Prop) (h:∃e st',Bx P a st=some (e,st')/\Q e st')
 (rest:∀e st',Q e st'->∃r,k (e,st')=some r/\R r):∃r,cT (Bx P a st) k=some r/\R r:=by
 obtain⟨e,s1,h1,h2⟩:=h
 rw[h1];exact rest e s1 h2
theorem Ls {P:Program} {bi:Bool} {a:Code} {st:St} {β:Type} {k:Ex × St->Option β} {R:β->Prop} (Q:Ex->St->Prop) (h:∃e st',xZ P bi a st=some (e,st')/\Q e st')
 (rest:∀e st',Q e st'->∃r,k (e,st')=some r/\R r):∃r,cT (xZ P bi a st) k=some r/\R r:=by
 obtain⟨e,s1,h1,h2⟩:=h
 rw[h1];exact rest e s1 h2
theorem iA {β:Type} {x:Option β} {v:β} (h:∃r,x=some r/\r=v):x=some v:=by
 obtain⟨r,h,rfl⟩:=h;exact h
theorem VW {P:Program} {id:Nat} {ops:Array Oper} {d:Bool} {st:St} :
 xZ P true (.region id ops d) st=cT (mL P true (aG P) (qH P) ops ops.toList st) fun s=>if qU ops s (Ext.dyn id ops.size (sW ops)) then some (.normal,s) else none:=VF rfl
theorem B0 (o:Oper) (l:List Oper):sW (o :: l).toArray=o.dst:=by simp[sW]
section
variable {P:Program} {call:Nat->List AV->Option AV} {inl:Nat->List AV->St->Option (AV × St)} {ops:Array Oper} {st:St} {d:Option Nat} {T:Nat} {pos:String} {fB:Array Edge} {g:Option (Nat × Bool)}
theorem aFk (x:Operand):gT P true call inl ops ⟨d,.move x,T,pos,fB,g⟩ st=cI P call ops ⟨d,.move x,T,pos,fB,g⟩ st:=rfl
theorem U9 (x:Operand):gT P true call inl ops ⟨d,.assign x,T,pos,fB,g⟩ st=cI P call ops ⟨d,.assign x,T,pos,fB,g⟩ st:=rfl
theorem aFl (x y z:Operand):gT P true call inl ops ⟨d,.pick x y z,T,pos,fB,g⟩ st=cI P call ops ⟨d,.pick x y z,T,pos,fB,g⟩ st:=rfl
theorem aCB (S:Nat):gT P true call inl ops ⟨d,.alloc S,T,pos,fB,g⟩ st=cI P call ops ⟨d,.alloc S,T,pos,fB,g⟩ st:=rfl
theorem aI8 (S:Nat) (x:Operand):gT P true call inl ops ⟨d,.box S x,T,pos,fB,g⟩ st=cI P call ops ⟨d,.box S x,T,pos,fB,g⟩ st:=rfl
theorem aCC (S:Nat) (x:Array (Nat × Operand)):gT P true call inl ops ⟨d,.build S x,T,pos,fB,g⟩ st=cI P call ops ⟨d,.build S x,T,pos,fB,g⟩ st:=rfl
theorem GY (S n:Nat) (x:Array (Nat × Operand)):gT P true call inl ops ⟨d,.buildSlice S n x,T,pos,fB,g⟩ st=cI P call ops ⟨d,.buildSlice S n x,T,pos,fB,g⟩ st:=rfl
theorem NS (S:Nat) (x y:Operand):gT P true call inl ops ⟨d,.makeSlice S x y,T,pos,fB,g⟩ st=cI P call ops ⟨d,.makeSlice S x y,T,pos,fB,g⟩ st:=rfl
theorem VX (f:Fn) (x y:Array Operand):gT P true call inl ops ⟨d,.makeFunc f x y,T,pos,fB,g⟩ st=cI P call ops ⟨d,.makeFunc f x y,T,pos,fB,g⟩ st:=rfl
theorem aFm (S:Nat) (x:Operand):gT P true call inl ops ⟨d,.load S x,T,pos,fB,g⟩ st=cI P call ops ⟨d,.load S x,T,pos,fB,g⟩ st:=rfl
theorem aCD (S:Nat) (x y:Operand):gT P true call inl ops ⟨d,.store S x y,T,pos,fB,g⟩ st=cI P call ops ⟨d,.store S x y,T,pos,fB,g⟩ st:=rfl
theorem aCE (o:BinOp) (S S':Nat) (x y:Operand):gT P true call inl ops ⟨d,.binOp o S x y S',T,pos,fB,g⟩ st=cI P call ops ⟨d,.binOp o S x y S',T,pos,fB,g⟩ st:=rfl
theorem aFn (o:UnOp) (S:Nat) (x:Operand):gT P true call inl ops ⟨d,.unOp o S x,T,pos,fB,g⟩ st=cI P call ops ⟨d,.unOp o S x,T,pos,fB,g⟩ st:=rfl
theorem NT (S f:Nat) (x:Operand):gT P true call inl ops ⟨d,.fieldAddr S x f,T,pos,fB,g⟩ st=cI P call ops ⟨d,.fieldAddr S x f,T,pos,fB,g⟩ st:=rfl
theorem aCF (S f:Nat) (x:Operand):gT P true call inl ops ⟨d,.field S x f,T,pos,fB,g⟩ st=cI P call ops ⟨d,.field S x f,T,pos,fB,g⟩ st:=rfl
theorem NU (S:Nat) (x y:Operand):gT P true call inl ops ⟨d,.indexAddr S x y,T,pos,fB,g⟩ st=cI P call ops ⟨d,.indexAddr S x y,T,pos,fB,g⟩ st:=rfl
theorem B4 (S S':Nat) (x:Operand):gT P true call inl ops ⟨d,.convert S S' x,T,pos,fB,g⟩ st=cI P call ops ⟨d,.convert S S' x,T,pos,fB,g⟩ st:=rfl
theorem B5 (x:Operand) (i:Nat):gT P true call inl ops ⟨d,.extract x i,T,pos,fB,g⟩ st=cI P call ops ⟨d,.extract x i,T,pos,fB,g⟩ st:=rfl
theorem aCG (S:Nat) (x:Operand) (a b c:Option Operand):gT P true call inl ops ⟨d,.slice S x a b c,T,pos,fB,g⟩ st=cI P call ops ⟨d,.slice S x a b c,T,pos,fB,g⟩ st:=rfl
theorem B6 (b:Builtin) (x:Array Operand) (y:Array Nat):gT P true call inl ops ⟨d,.call ⟨.builtin b,x,y⟩,T,pos,fB,g⟩ st=cI P call ops ⟨d,.call ⟨.builtin b,x,y⟩,T,pos,fB,g⟩ st:=rfl
theorem aI9 (t:Nat) (x:Array Operand) (y:Array Nat):gT P true call inl ops ⟨d,.call ⟨.value (.tmp t),x,y⟩,T,pos,fB,g⟩ st=cI P call ops ⟨d,.call ⟨.value (.tmp t),x,y⟩,T,pos,fB,g⟩ st:=rfl
theorem aFo (f:Nat) (x:Array Operand) (y:Array Nat) (h:Ext.inl f d=false):gT P true call inl ops ⟨d,.call ⟨.value (.func f),x,y⟩,T,pos,fB,g⟩ st=cI P call ops ⟨d,.call ⟨.value (.func f),x,y⟩,T,pos,fB,g⟩ st:=aCv (by unfold Hs;simp[h])
theorem ZS (f:Nat) (x:Array Operand) (y:Array Nat) (h:Ext.inl f d=true):gT P true call inl ops ⟨d,.call ⟨.value (.func f),x,y⟩,T,pos,fB,none⟩ st=cT (inl f (x.toList.map st.ev) st) fun r=>some ((st.back r.2).put d r.1):=U6 h
theorem aFp (S a:Nat):gY ⟨d,.load S (.tmp a),T,pos,fB,none⟩=some [a]:=rfl
theorem aCH (S a:Nat) (x:Operand):gY ⟨d,.store S (.tmp a) x,T,pos,fB,none⟩=some [a]:=rfl
theorem aCI (S a:Nat) (x:Operand):gY ⟨d,.indexAddr S (.tmp a) x,T,pos,fB,none⟩=some [a]:=rfl
theorem aCJ (S a:Nat) (x y z:Option Operand):gY ⟨d,.slice S (.tmp a) x y z,T,pos,fB,none⟩=some [a]:=rfl
theorem aJa (a:Nat) (y:Array Nat):gY ⟨d,.call ⟨.builtin .len,#[.tmp a],y⟩,T,pos,fB,none⟩=some [a]:=rfl
theorem V0 (a b:Nat) (y:Array Nat):gY ⟨d,.call ⟨.builtin .append,#[.tmp a,.tmp b],y⟩,T,pos,fB,none⟩=some [a,b]:=rfl
theorem aCK (f a:Nat) (b:Operand) (y:Array Nat) (h:Ext.mv f=true):gY ⟨d,.call ⟨.value (.func f),#[.tmp a,b],y⟩,T,pos,fB,none⟩=some [a]:=by simp[gY,h]
end
end Go.Ab
end
