/-
  Part 5 of the proof: an evaluator of programs, its soundness, and what functions of this program compute.
-/
import Derived.Test.YtmcjkemalibacaaGreatK4
set_option linter.all false
set_option maxRecDepth 20000
set_option maxHeartbeats 40000000
section
namespace Go.Ab
open Classical
variable [Ext]
def rd (cs:List AV) (o k:Nat):List AV:=(cs.drop o).take k
def onB {α:Type} (x:AV) (k:Bool→Option α):Option α :=
 match x with
 | .v (.bool b)=>k b
 | _=>none
section
variable (P:Program)
def fD (T:Nat) (cs:List AV) (o:Nat):Option AV :=
 match fL P T with
 | some (true,k)=>if 0<k∧k≤cs.length-o then some (.agg (rd cs o k)) else none
 | some (false,_)=>cs[o]?
 | none=>none
def Ez (st:St) (T:Nat) (x:AV):Option AV :=
 match x with
 | .ip cs o=>fD P T cs o
 | .ptr s g o =>
   match st.heap s g with
   | some (.cells cs)=>fD P T cs o
   | some (.row _ _ _ cs)=>fD P T cs o
   | _=>none
 | _=>none
theorem HG (T:Nat) (cs:List AV) (o:Nat):wX P T (cs.drop o)=fD P T cs o:=by
 unfold wX fD;cases fL P T with
 | none=>rfl
 | some bk =>
   obtain⟨b,k⟩:=bk
   cases b
   ·simp
   ·simp[rd]
theorem Oc (st:St) (T:Nat) (x:AV):cH (pX st x) (wX P T)=Ez P st T x:=by
 cases x<;>simp only[pX,cH,Ez,HG]
 split<;>rename_i h
 ·split at h
  ·rename_i h';cases h;rw[h'];exact HG P T _ _
  ·rename_i h';cases h;rw[h'];exact HG P T _ _
  ·cases h
 ·split at h
  ·cases h
  ·cases h
  ·rename_i h1 h2;split<;>first|rfl|(rename_i h';first|exact absurd h' (h1 _)|exact absurd h' (h2 _ _ _ _))
def Up (st:St) (T:Nat) (a x:AV):Option St:=(pI P st T a x).map fun u=>st.jE u.1 u.2.1 (some u.2.2)
variable {P}
variable {call:Nat→List AV→Option AV} {ops:Array Oper} {st:St} {d:Option Nat} {T:Nat} {pos:String} {eG:Array Edge}
@[congr] theorem aHS {α β:Type} {x y:Option α} {f:α→Option β} (h:x=y):cH x f=cH y f:=by rw[h]
@[congr] theorem aHT {α:Type} {x y:AV} {k:Bool→Option α} (h:x=y):onB x k=onB y k:=by rw[h]
@[congr] theorem aEi {l:List Oper} {s t:St} (h:s=t):Ma P call ops l s=Ma P call ops l t:=by rw[h]
@[congr] theorem aFF {o:Oper} {s t:St} (h:s=t):cB P call ops o s=cB P call ops o t:=by rw[h]
@[congr] theorem aHU {c:Code} {s t:St} (h:s=t):yB P c s=yB P c t:=by rw[h]
theorem cT {α β:Type} (a:α) (f:α→Option β):cH (some a) f=f a:=rfl
theorem LD {α β:Type} (f:α→Option β):cH none f=none:=rfl
theorem S8 {α:Type} (b:Bool) (k:Bool→Option α):onB (.v (.bool b)) k=k b:=rfl
theorem z4:Ma P call ops [] st=some st:=rfl
theorem UF (o:Oper) (l:List Oper):Ma P call ops (o :: l) st=cH (cB P call ops o st) (Ma P call ops l):=rfl
theorem dO (op:Op):cB P call ops ⟨d,op,T,pos,eG,none⟩ st=(dH P call ⟨d,op,T,pos,eG,none⟩ st).map fun e=>e.apply st:=rfl
theorem aBY (x:Operand):cB P call ops ⟨d,.move x,T,pos,eG,none⟩ st=some (st.put d (st.ev x)):=rfl
theorem z5 (x:Operand):cB P call ops ⟨d,.assign x,T,pos,eG,none⟩ st=some (st.put d (st.ev x)):=rfl
theorem aBZ (c a b:Operand):cB P call ops ⟨d,.pick c a b,T,pos,eG,none⟩ st=onB (st.ev c) fun t=>some (st.put d (if t=true then st.ev a else st.ev b)):=by
 rw[dO];simp only[dH,iP];cases st.ev c<;>try rfl
 rename_i x;cases x<;>rfl
theorem S9 (op:BinOp) (S:Nat) (x y:Operand) (yT:Nat):cB P call ops ⟨d,.binOp op S x y yT,T,pos,eG,none⟩ st=cH (gQ P op S (st.ev x) (st.ev y)) fun v=>some (st.put d v):=by
 rw[dO];simp only[dH,iP];cases gQ P op S (st.ev x) (st.ev y)<;>rfl
theorem aB0 (op:UnOp) (S:Nat) (x:Operand):cB P call ops ⟨d,.unOp op S x,T,pos,eG,none⟩ st=cH (unA op (st.ev x)) fun v=>some (st.put d v):=by
 rw[dO];simp only[dH,iP];cases unA op (st.ev x)<;>rfl
def NP (P:Program) (src dst:Nat) (x:AV):Option AV :=
 match x,intKind P dst,intKind P src with
 | .v (.int _ n),some k,some _=>some (.v (.int k (k.wrap n)))
 | _,_,_=>none
theorem UG (src dst:Nat) (x:Operand):cB P call ops ⟨d,.convert src dst x,T,pos,eG,none⟩ st=cH (NP P src dst (st.ev x)) fun v=>some (st.put d v):=by
 rw[dO];simp only[dH,iP];show Option.map _ (Option.map _ (NP P src dst (st.ev x)))=_
 cases NP P src dst (st.ev x)<;>rfl
theorem T3 (S:Nat) (x:Operand) (f:Nat):cB P call ops ⟨d,.field S x f,T,pos,eG,none⟩ st=cH (Kc P S f (st.ev x)) fun v=>some (st.put d v):=by
 rw[dO];simp only[dH,iP];cases Kc P S f (st.ev x)<;>rfl
theorem UH {S f off k:Nat} {cs:List AV} (h:fieldInfo P S f=some (off,false,k)):Kc P S f (.agg cs)=cs[off]?:=by
 simp only[Kc,h]
theorem HH (S:Nat) (x:Operand) (f:Nat):cB P call ops ⟨d,.fieldAddr S x f,T,pos,eG,none⟩ st=cH (aU P S f) fun k=>cH (uL (st.ev x) k) fun v=>some (st.put d v):=by
 rw[dO];simp only[dH,iP];cases aU P S f with
 | none=>rfl
 | some k =>
   simp only[cH];cases uL (st.ev x) k<;>rfl
theorem HI (S:Nat) (x i:Operand):cB P call ops ⟨d,.indexAddr S x i,T,pos,eG,none⟩ st=cH (bB P st S (st.ev x) (st.ev i)) fun v=>some (st.put d v):=by
 rw[dO];simp only[dH,iP];cases bB P st S (st.ev x) (st.ev i)<;>rfl
theorem aB1 (S:Nat) (x:Operand):cB P call ops ⟨d,.load S x,T,pos,eG,none⟩ st=cH (Ez P st S (st.ev x)) fun v=>some (st.put d v):=by
 rw[dO];simp only[dH,iP,Oc];cases Ez P st S (st.ev x)<;>rfl
def dT (x:AV) (i:Nat):Option AV :=
 match x with
 | .eB vs=>vs[i]?
 | _=>none
theorem UI (t:Operand) (i:Nat):cB P call ops ⟨d,.extract t i,T,pos,eG,none⟩ st=cH (dT (st.ev t) i) fun v=>some (st.put d v):=by
 rw[dO];simp only[dH,iP];show Option.map _ (Option.map _ (dT (st.ev t) i))=_
 cases dT (st.ev t) i<;>rfl
theorem T4 (S:Nat) (parts:Array (Nat × Operand)):cB P call ops ⟨d,.build S parts,T,pos,eG,none⟩ st=cH (iO P st S parts.toList) fun v=>some (st.put d v):=by
 rw[dO];simp only[dH,iP];cases iO P st S parts.toList<;>rfl
theorem T5 (S:Nat) (x:Operand) (lo hi:Option Operand):cB P call ops ⟨d,.slice S x lo hi none,T,pos,eG,none⟩ st=cH (cU P st S (st.ev x) lo hi) fun v=>some (st.put d v):=by
 rw[dO];simp only[dH,iP];cases cU P st S (st.ev x) lo hi<;>rfl
theorem T6 (S d:Nat):cB P call ops ⟨some d,.alloc S,T,pos,eG,none⟩ st=cH (dS P S) fun z=>some ((st.new d (.cells (z.map .v))).put (some d) (.ptr d (st.aO d) 0)):=by
 rw[dO];simp only[dH,cH];cases dS P S with
 | none=>rfl
 | some z=>simp only[Option.map_some,kS]
theorem aFG (S d:Nat) (x:Operand):cB P call ops ⟨some d,.box S x,T,pos,eG,none⟩ st=if (st.ev x).jG=true then some ((st.new d (.cells (st.ev x).cells)).put (some d) (.ptr d (st.aO d) 0)) else none:=by
 rw[dO];simp only[dH,cH];split
 ·simp only[Option.map_some,kS]
 ·rfl
theorem T7 (S:Nat) (x y:Operand):cB P call ops ⟨d,.store S x y,T,pos,eG,none⟩ st=cH (Up P st S (st.ev x) (st.ev y)) fun s=>some (s.put d (.v undef)):=by
 rw[dO];simp only[dH,Up];cases pI P st S (st.ev x) (st.ev y)<;>rfl
theorem aB2 (g:Nat) (args:Array Operand) (rL:Array Nat) (h:Ext.mv g=false) (h2:Ext.eat g d=false):cB P call ops ⟨d,.call ⟨.value (.func g),args,rL⟩,T,pos,eG,none⟩ st=cH (aP call g (args.toList.map st.ev) st d) fun e=>some (e.apply st):=by
 rw[dO];simp only[dH,iA,mX,h,h2,Bool.false_eq_true,if_false];cases aP call g (args.toList.map st.ev) st d<;>rfl
theorem T8 (g:Nat) (args:Array Operand) (rL:Array Nat) (h:Ext.mv g=true):cB P call ops ⟨d,.call ⟨.value (.func g),args,rL⟩,T,pos,eG,none⟩ st=cH (kU call g (args.toList.map st.ev) st d) fun e=>some (e.apply st):=by
 rw[dO];simp only[dH,iA,mX,h,if_true];cases kU call g (args.toList.map st.ev) st d<;>rfl
theorem UJ (g:Nat) (args:Array Operand) (rL:Array Nat) (h:Ext.mv g=false) (h2:Ext.eat g d=true):cB P call ops ⟨d,.call ⟨.value (.func g),args,rL⟩,T,pos,eG,none⟩ st=cH (eE call g (args.toList.map st.ev) st d) fun e=>some (e.apply st):=by
 rw[dO];simp only[dH,iA,mX,h,h2,Bool.false_eq_true,if_false,if_true];cases eE call g (args.toList.map st.ev) st d<;>rfl
theorem T9 (t:Nat) (args:Array Operand) (rL:Array Nat) {g:Nat} {oI:List AV} (h:st.env t=.Bp g oI):cB P call ops ⟨d,.call ⟨.value (.tmp t),args,rL⟩,T,pos,eG,none⟩ st=cH (aP call g (args.toList.map st.ev++oI) st d) fun e=>some (e.apply st):=by
 rw[dO];simp only[dH,iA,mX,St.ev,h,EH];show Option.map _ (aP call g (args.toList.map st.ev++oI) st d)=cH (aP call g (args.toList.map st.ev++oI) st d) _
 cases aP call g (args.toList.map st.ev++oI) st d<;>rfl
theorem z6 (S:Nat) (x:Operand) (lo:Option Operand) (hi mx:Operand):cB P call ops ⟨d,.slice S x lo (some hi) (some mx),T,pos,eG,none⟩ st=cH (vE P st S (st.ev x) lo hi mx) fun v=>some (st.put d v):=by
 rw[dO];simp only[dH,iP];cases vE P st S (st.ev x) lo hi mx<;>rfl
theorem z7 (S:Nat) (x i:Operand) (ok:Bool):cB P call ops ⟨d,.lookup S x i ok,T,pos,eG,none⟩ st=cH (Rt P st S (st.ev x) (st.ev i) ok) fun v=>some (st.put d v):=by
 rw[dO];simp only[dH,iP];cases Rt P st S (st.ev x) (st.ev i) ok<;>rfl
theorem UK (S d:Nat):cB P call ops ⟨some d,.makeMap S none,T,pos,eG,none⟩ st=some ((st.new d (.map [])).put (some d) (.mp d (st.aO d))):=by
 rw[dO];simp only[dH,cH,Option.map_some,kS]
theorem HJ (S:Nat) (m x y:Operand):cB P call ops ⟨d,.mapUpdate S m x y,T,pos,eG,none⟩ st=cH (tC P st S (st.ev m) (st.ev x) (st.ev y)) fun u=>some ((st.jE u.1 u.2.1 (some u.2.2)).put d (.v undef)):=by
 rw[dO];simp only[dH];cases tC P st S (st.ev m) (st.ev x) (st.ev y)<;>rfl
theorem NQ (g:Nat) (oI:Array Operand):cB P call ops ⟨d,.makeFunc (.func g) #[] oI,T,pos,eG,none⟩ st=some (st.put d (.Bp g (oI.toList.map st.ev))):=by
 rw[dO];simp only[dH,iP,if_true,Option.map_some];rfl
theorem kE (S n d:Nat) (parts:Array (Nat × Operand)):cB P call ops ⟨some d,.buildSlice S n parts,T,pos,eG,none⟩ st=cH (dK P S) fun t=>cH (dS P t.1) fun z =>
 if (0<n∨parts=#[])∧n * t.2.1≤2 ^ 24∧(parts.toList.all fun p=>(st.ev p.2).jG)=true then
  cH (gJ (fun i=>some (i * t.2.1,t.2.1)) ((List.range n).flatMap fun _=>z.map .v) (parts.toList.map fun p=>(p.1,st.ev p.2))) fun cs =>
   some ((st.new d (.row t.1 t.2.1 n cs)).put (some d) (.own d (st.aO d)))
 else none:=by
 rw[dO];simp only[dH,cH];cases dK P S with
 | none=>rfl
 | some t =>
   simp only
   cases dS P t.1 with
   | none=>rfl
   | some z =>
     simp only
     split
     ·cases gJ (fun i=>some (i * t.2.1,t.2.1)) ((List.range n).flatMap fun _=>z.map .v) (parts.toList.map fun p=>(p.1,st.ev p.2)) with
      | none=>rfl
      | some cs=>simp only[Option.map_some,kS]
     ·rfl
theorem HK (S d:Nat) (l c:Operand) {n:Nat} (hl:st.ev l=.v (.int .i64 n)) (hc:st.ev c=.v (.int .i64 n)):cB P call ops ⟨some d,.makeSlice S l c,T,pos,eG,none⟩ st=cH (dK P S) fun t=>cH (dS P t.1) fun z =>
 if (n:Int) * t.2.2≤140737488355328∧(n:Int)≤maxLen then some ((st.new d (.row t.1 t.2.1 n ((List.range n).flatMap fun _=>z.map .v))).put (some d) (.own d (st.aO d))) else none:=by
 rw[dO];simp only[dH,cH,hl,hc];cases dK P S with
 | none=>rfl
 | some t =>
   simp only
   cases dS P t.1 with
   | none=>rfl
   | some z =>
     simp only[Int.toNat_natCast,Int.natCast_nonneg,true_and];split
     ·simp only[Option.map_some,kS]
     ·rfl
theorem aFH (x:Operand) (S:Nat) (rL:Array Nat) (h:rL=#[S]):cB P call ops ⟨d,.call ⟨.builtin .len,#[x],rL⟩,T,pos,eG,none⟩ st=cH (dK P S) fun _=>cH (aQ st (st.ev x)) fun nc=>some (st.put d (.v (.int .i64 nc.1))):=by
 subst h;rw[dO];simp only[dH,iA];cases dK P S with
 | none=>rfl
 | some t=>cases aQ st (st.ev x) with
   | none=>rfl
   | some nc=>cases nc;rfl
theorem aB3 (x:Operand) (S:Nat):cB P call ops ⟨d,.call ⟨.builtin .len,#[x],#[S]⟩,T,pos,eG,none⟩ st=cH (dK P S) fun _=>cH (aQ st (st.ev x)) fun nc=>some (st.put d (.v (.int .i64 nc.1))):=aFH x S #[S] rfl
theorem EC (s x:Operand) (S d:Nat) (rL:Array Nat) (h:rL=#[S,S]) (hv:Ext.va S d=false) (hp:¬(Ext.pa S d=true∧Fx P st S (st.ev s) (st.ev x))):cB P call ops ⟨some d,.call ⟨.builtin .append,#[s,x],rL⟩,T,pos,eG,none⟩ st=cH (cX P st S (st.ev s) (st.ev x)) fun ur =>
 some (((match ur.1 with|some p=>st.jE p.1 p.2 none|none=>st).new d ur.2).put (some d) (.own d (st.aO d))):=by
 subst h;rw[dO];simp only[dH,iA,cH,if_true,hv,Bool.false_eq_true,if_false];rw[if_neg hp];cases cX P st S (st.ev s) (st.ev x) with
 | none=>rfl
 | some ur =>
   obtain⟨u,r⟩:=ur
   cases u with
   | none=>simp only[Option.map_some,Option.map_none,kS]
   | some p=>simp only[Option.map_some,Qq]
theorem UL (s x:Operand) (S d:Nat) (hv:Ext.va S d=false) (hp:Ext.pa S d=false):cB P call ops ⟨some d,.call ⟨.builtin .append,#[s,x],#[S,S]⟩,T,pos,eG,none⟩ st=cH (cX P st S (st.ev s) (st.ev x)) fun ur =>
 some (((match ur.1 with|some p=>st.jE p.1 p.2 none|none=>st).new d ur.2).put (some d) (.own d (st.aO d))):=EC s x S d #[S,S] rfl hv (by rw[hp];exact fun h=>absurd h.1 (by simp))
theorem U0 (s x:Operand) (S d:Nat) (hv:Ext.va S d=false) (hp:Ext.pa S d=true) (hn:¬(st.ev s=.v (.slice none 0 0)∧(aQ st (st.ev x)).map Prod.fst=some 0)):cB P call ops ⟨some d,.call ⟨.builtin .append,#[s,x],#[S,S]⟩,T,pos,eG,none⟩ st=cH (cX P st S (st.ev s) (st.ev x)) fun ur =>
 some (((match ur.1 with|some p=>st.jE p.1 p.2 none|none=>st).new d ur.2).put (some d) (.own d (st.aO d))):=EC s x S d #[S,S] rfl hv (fun h=>hn ⟨h.2.1,h.2.2.2⟩)
theorem U1 (s x:Operand) (S d:Nat) (hv:Ext.va S d=false) (hp:Ext.pa S d=true) (hi:(dK P S).isSome=true) (h1:st.ev s=.v (.slice none 0 0)) (h2:(aQ st (st.ev x)).map Prod.fst=some 0):cB P call ops ⟨some d,.call ⟨.builtin .append,#[s,x],#[S,S]⟩,T,pos,eG,none⟩ st=some (st.put (some d) (.v (.slice none 0 0))):=by
 rw[dO];simp only[dH,iA,cH,if_true,hv,Bool.false_eq_true,if_false];rw[if_pos ⟨hp,h1,hi,h2⟩];simp only[qR.apply];rfl
theorem TA (s x:Operand) (S d:Nat) (hv:Ext.va S d=true):cB P call ops ⟨some d,.call ⟨.builtin .append,#[s,x],#[S,S]⟩,T,pos,eG,none⟩ st=cH (jZ P st S (st.ev s) (st.ev x)) fun u =>
 some ((st.jE u.1 u.2.1 (some u.2.2.1)).put (some d) (.vw u.1 u.2.1 0 u.2.2.2)):=by
 rw[dO];simp only[dH,iA,cH,if_true,hv];cases jZ P st S (st.ev s) (st.ev x) with
 | none=>rfl
 | some u=>rfl
theorem N9 (x:Operand) (S:Nat):cB P call ops ⟨d,.call ⟨.builtin .clear,#[x],#[S]⟩,T,pos,eG,none⟩ st=cH (tD P st S (st.ev x)) fun u =>
 some ((match u with|some p=>st.jE p.1 p.2.1 (some p.2.2)|none=>st).put d (.eB [])):=by
 rw[dO];simp only[dH,iA];cases tD P st S (st.ev x) with
 | none=>rfl
 | some u=>cases u<;>rfl
theorem U2 (x:Value):st.ev (.const x)=.v x:=rfl
theorem aFI (t:Nat):st.ev (.tmp t)=st.env t:=rfl
theorem aB4 (t d:Nat) (x:AV):(st.put (some d) x).env t=if t=d then x else st.env t:=rfl
theorem HL (t:Nat) (x:AV):(st.put none x).env t=st.env t:=rfl
theorem aB5 (t d:Nat) (e:mI):(st.new d e).env t=st.env t:=rfl
theorem U3 (t s g:Nat) (e:Option mI):(st.jE s g e).env t=st.env t:=rfl
theorem aB6 (t:Nat) (d:Option Nat) (x:AV):(st.put d x).aO t=st.aO t:=by cases d<;>rfl
theorem aB7 (t d:Nat) (e:mI):(st.new d e).aO t=if t=d then st.aO d+1 else st.aO t:=rfl
theorem U4 (t s g:Nat) (e:Option mI):(st.jE s g e).aO t=st.aO t:=rfl
theorem U5 (s g:Nat) (d:Option Nat) (x:AV):(st.put d x).heap s g=st.heap s g:=by cases d<;>rfl
theorem Xc (s g d:Nat) (e:mI):(st.new d e).heap s g=if s=d∧g=st.aO d then some e else st.heap s g:=rfl
theorem Qj (s g s0 g0:Nat) (e:Option mI):(st.jE s0 g0 e).heap s g=if s=s0∧g=g0 then e else st.heap s g:=rfl
theorem U6 (t:Nat) (xs:List AV):(St.init xs).env t=(xs[t]?).getD (.v undef):=rfl
theorem U7 (t:Nat) (xs:List AV):(St.init xs).aO t=0:=rfl
theorem z8 (s g:Nat) (xs:List AV):(St.init xs).heap s g=none:=rfl
theorem U8 (x:AV):st.put none x=st:=rfl
theorem NR (d:Option Nat) (x:AV):({ dst:=d,val:=x }:qR).apply st=st.put d x:=rfl
theorem z9 (d:Option Nat) (x:AV) (n:Nat) (e:mI):({ dst:=d,val:=x,new:=some (n,[e])}:qR).apply st=(st.new n e).put d x:=kS d x n e
theorem A0 (d:Option Nat) (x:AV) (s g:Nat) (e:Option mI):({ dst:=d,val:=x,dJ:=some (s,g,e)}:qR).apply st=(st.jE s g e).put d x:=rfl
theorem HM (d:Option Nat) (x:AV) (s g n:Nat) (z:Option mI) (e:mI):({ dst:=d,val:=x,dJ:=some (s,g,z),new:=some (n,[e])}:qR).apply st=((st.jE s g z).new n e).put d x:=Qq d x s g n z e
theorem bT {g:Nat} {args:List AV} {r:AV} (hf:∀x∈args,Flat x) (h:call g args=some r) (hr:Flat r):aP call g args st d=some { dst:=d,val:=r }:=by
 unfold aP;rw[if_pos hf,h];simp only[cH,iR,if_pos hr]
theorem iW {g:Nat} {args:List AV} {d e sz n:Nat} {cs:List AV} (hf:∀x∈args,Flat x) (h:call g args=some (.uniq e sz n cs)) :
 aP call g args st (some d)=some { dst:=some d,val:=.own d (st.aO d),new:=some (d,[.row e sz n cs])}:=by
 unfold aP;rw[if_pos hf,h];have:¬Flat (.uniq e sz n cs):=by intro h;cases h
 simp only[cH,iR,if_neg this];rfl
end
end Go.Ab
end
section
namespace Go.Ab
open Classical
abbrev cC:=Vector Int 32
abbrev rS:=Vector Int 4
def rV (x:Int):List AV:=[.v (.int .u64 x)]
def pK (x:Int):List AV:=[.v (.int .i64 x)]
def uF (x:Bool):List AV:=[.v (.bool x)]
def aV (r:cC):List AV:=r.toList.map fun x=>.v (.int .u8 x)
def gI (r:rS):List AV:=r.toList.map fun x=>.v (.int .u64 x)
@[simp] theorem aW (x:Int):(rV x).length=1:=rfl
@[simp] theorem aZ (x:Int):(pK x).length=1:=rfl
@[simp] theorem gS (x:Bool):(uF x).length=1:=rfl
@[simp] theorem aL (r:cC):(aV r).length=32:=by simp[aV]
@[simp] theorem dP (r:rS):(gI r).length=4:=by simp[gI]
theorem dW (x:Int):∀y∈rV x,Flat y:=by intro y hy;simp[rV] at hy;subst hy;exact .v _
theorem lS (x:Int):∀y∈pK x,Flat y:=by intro y hy;simp[pK] at hy;subst hy;exact .v _
theorem lW (x:Bool):∀y∈uF x,Flat y:=by intro y hy;simp[uF] at hy;subst hy;exact .v _
theorem dD (x:cC):∀y∈aV x,Flat y:=by intro y hy;obtain⟨z,_,rfl⟩:=List.mem_map.1 hy;exact .v _
theorem iG (x:rS):∀y∈gI x,Flat y:=by intro y hy;obtain⟨z,_,rfl⟩:=List.mem_map.1 hy;exact .v _
theorem NS (x:Int):∀y∈rV x,fF y:=by intro y hy;simp[rV] at hy;subst hy;exact .v _
theorem U9 (x:Int):∀y∈pK x,fF y:=by intro y hy;simp[pK] at hy;subst hy;exact .v _
theorem A1 (x:cC):∀y∈aV x,fF y:=by intro y hy;obtain⟨z,_,rfl⟩:=List.mem_map.1 hy;exact .v _
theorem Lh {α:Type} (c:α→List AV) (z:Nat) (hz:∀a,(c a).length=z):∀(l:List α) (i:Nat) (h:i<l.length),rd (l.flatMap c) (i * z) z=c l[i]
 | [],i,h=>by simp at h
 | a :: l,0,h=>by simp[rd,List.take_append,hz,List.take_of_length_le]
 | a :: l,i+1,h=>by
   have ih:=Lh c z hz l i (by simpa using h)
   simp only[List.flatMap_cons,List.getElem_cons_succ];rw[← ih];simp only[rd];rw[List.drop_append,List.drop_of_length_le (by rw[hz,Nat.succ_mul];omega),hz,Nat.succ_mul]
   simp
theorem pH (a b:cC):aV a=aV b↔a=b:=by
 constructor
 ·intro h;unfold aV at h;have h2:a.toList=b.toList:=by
   have:=congrArg (List.map (fun x:AV=>match x with|.v (.int _ n)=>n|_=>0)) h
   simpa [List.map_map,Function.comp_def] using this
  exact Vector.toList_inj.1 h2
 ·intro h;rw[h]
theorem ED (a b:rS):gI a=gI b↔a=b:=by
 constructor
 ·intro h;unfold gI at h;have h2:a.toList=b.toList:=by
   have:=congrArg (List.map (fun x:AV=>match x with|.v (.int _ n)=>n|_=>0)) h
   simpa [List.map_map,Function.comp_def] using this
  exact Vector.toList_inj.1 h2
 ·intro h;rw[h]
def dJ (cs:List AV) (o:Nat) (xs:List AV) (e:Nat):List AV:=cs.take o++xs++cs.drop e
section
variable {a b xs:List AV} {n o o' e e' k:Nat}
theorem bF (h:xs=b):a++xs=a++b:=by rw[h]
theorem Ej (h:xs=b):xs++a=b++a:=by rw[h]
theorem aY (h:o'=o+n) (ha:a.length=n):rd (a++b) o' k=rd b o k:=by
 subst h;subst ha;simp only[rd];rw[List.drop_append,List.drop_of_length_le (by omega),List.nil_append,show o+a.length-a.length=o by omega]
theorem gH (ha:a.length=n):rd (a++b) 0 n=a:=by
 subst ha;simp[rd]
theorem iQ (ha:a.length=n):rd a 0 n=a:=by
 subst ha;simp[rd]
theorem pS (h:o+k≤a.length):rd (a++b) o k=rd a o k:=by
 simp only[rd];rw[List.drop_append,List.take_append,show o-a.length=0 by omega,show k-(a.drop o).length=0 by simp;omega]
 simp
theorem aG (h:o'=o+n) (ha:a.length=n):(a++b)[o']? = b[o]?:=by
 subst h;subst ha;rw[List.getElem?_append_right (by omega),show o+a.length-a.length=o by omega]
theorem eD (h:o<a.length):(a++b)[o]? = a[o]?:=List.getElem?_append_left h
theorem aC (h:o'=o+n) (h':e'=e+n) (ha:a.length=n):dJ (a++b) o' xs e'=a++dJ b o xs e:=by
 subst h;subst h';subst ha;simp only[dJ];rw[List.take_append,List.take_of_length_le (by omega),List.drop_append,List.drop_of_length_le (by omega),show o+a.length-a.length=o by omega,show e+a.length-a.length=e by omega]
 simp
theorem cD (ha:a.length=n):dJ (a++b) 0 xs n=xs++b:=by
 subst ha;simp[dJ]
theorem eA (ha:a.length=n):dJ a 0 xs n=xs:=by
 subst ha;simp[dJ]
theorem tR (h:o≤e∧e≤a.length):dJ (a++b) o xs e=dJ a o xs e++b:=by
 simp only[dJ];rw[List.take_append,List.drop_append,show o-a.length=0 by omega,show e-a.length=0 by omega]
 simp
end
theorem Od (a b:Int):rV a=rV b↔a=b:=by simp[rV]
theorem NT (a b:Int):pK a=pK b↔a=b:=by simp[pK]
theorem A2 (a b:Bool):uF a=uF b↔a=b:=by simp[uF]
def dI:cC:=Vector.replicate 32 0
def EE:rS:=Vector.replicate 4 0
def sT:List Value:=List.replicate 32 (.int .u8 0)
def Yh:List Value:=List.replicate 4 (.int .u64 0)
theorem jC:sT.map AV.v=aV dI:=by simp[sT,aV,dI]
theorem jD:Yh.map AV.v=gI EE:=by simp[Yh,gI,EE]
def Hh:List Bool:=List.replicate 32 true
def V0:List Bool:=List.replicate 4 true
theorem gT {l m:List Bool}:∀ {xs ys xs' ys':List AV},jY l xs ys→jY m xs' ys'→jY (l++m) (xs++xs') (ys++ys'):=by
 induction l with
 | nil=>intro xs ys xs' ys' h h';cases xs<;>cases ys<;>first|exact h'|exact h.elim
 | cons b l ih =>
   intro xs ys xs' ys' h h'
   cases b
   ·cases xs with
    | nil=>exact h.elim
    | cons x xs=>cases ys with
      | nil=>unfold jY at h;split at h<;>first|exact h.elim|simp_all
      | cons y ys =>
        unfold jY at h;split at h<;>simp_all [jY]
   ·cases xs with
    | nil=>exact h.elim
    | cons x xs=>cases ys with
      | nil=>unfold jY at h;split at h<;>first|exact h.elim|simp_all
      | cons y ys =>
        unfold jY at h;split at h<;>simp_all [jY]
theorem Li (k:IntKind):∀(a b:List Int),a.length=b.length→jY (List.replicate a.length true) (a.map fun x=>.v (.int k x)) (b.map fun x=>.v (.int k x))
 | [],[],_=>trivial
 | [],_ :: _,h=>by simp at h
 | _ :: _,[],h=>by simp at h
 | a :: l,b :: m,h=>⟨rfl,Li k l m (by simpa using h)⟩
theorem mW (a b:cC):jY Hh (aV a) (aV b):=by
 have:=Li .u8 a.toList b.toList (by simp)
 rw[Vector.length_toList] at this;exact this
theorem Yi (a b:rS):jY V0 (gI a) (gI b):=by
 have:=Li .u64 a.toList b.toList (by simp)
 rw[Vector.length_toList] at this;exact this
def NU (P:Program) (T:Nat):Option (List (Nat × Nat)) :=
 match P.underlying T with
 | some (.struct fs)=>if fs.all (fun f=>(P.info? f.type).isSome) then some (fs.toList.map fun f=>(f.offset,P.cellsOf f.type)) else none
 | _=>none
def NV (P:Program) (T:Nat):Option Nat :=
 match P.underlying T with
 | some (.array _ e)=>if (P.info? e).isSome then some (P.cellsOf e) else none
 | _=>none
theorem eM {P:Program} {T:Nat} {l:List (Nat × Nat)} (h:NU P T=some l):placeOf P T=some fun i=>l[i]?:=by
 unfold NU at h;unfold placeOf;split at h
 ·rename_i fs hu;split at h
  ·rename_i Kf;simp only[Option.some.injEq] at h;subst h;simp only[hu,Kf,if_true];congr 1
   funext i
   simp
  ·cases h
 ·cases h
theorem Sq {P:Program} {T k:Nat} (h:NV P T=some k):placeOf P T=some fun i=>some (i * k,k):=by
 unfold NV at h;unfold placeOf;split at h
 ·rename_i n e hu;split at h
  ·rename_i Kf;simp only[Option.some.injEq] at h;subst h;simp only[hu,Kf,if_true]
  ·cases h
 ·cases h
theorem gW {P:Program} {st:St} {T:Nat} {parts:List (Nat × Operand)} {z:List Value} {place:Nat→Option (Nat × Nat)} {c:List AV} (hz:dS P T=some z) (hc:z.map AV.v=c) (hp:placeOf P T=some place) :
 iO P st T parts=if (parts.all fun p=>(st.ev p.2).jG)=true then (gJ place c (parts.map fun p=>(p.1,st.ev p.2))).map .agg else none:=by
 simp only[iO,hz,hp,hc]
theorem KS (place:Nat→Option (Nat × Nat)) (c:List AV):gJ place c []=some c:=rfl
theorem DB (place:Nat→Option (Nat × Nat)) (c:List AV) (i:Nat) (x:AV) (r:List (Nat × AV)):gJ place c ((i,x) :: r)=cH (place i) fun os =>
 if x.cells.length=os.2∧os.1+os.2≤c.length then gJ place (dJ c os.1 x.cells (os.1+os.2)) r else none:=by
 simp only[gJ];cases place i<;>rfl
theorem Cr {P:Program} {T:Nat} {l:List Bool} {xs ys:List AV} {p:Prop} [Decidable p] (hl:eI P 20 T=some l) (ha:cZ P T=true) (hg:P.eqGuardType P.depth T=false) (hf:jY l xs ys) (hp:xs=ys↔p) :
 Bq P T xs ys=some (decide p):=by
 unfold Bq;rw[hl];simp only[ha,hg,hf,and_self,if_true];congr 1
 rw[Bool.eq_iff_iff];simp[hp]
def sQ (P:Program) (T:Nat):Option Nat :=
 match fL P T with
 | some (_,k)=>some k
 | none=>none
theorem A3 {P:Program} {st:St} {T s g o:Nat} {x:AV}:Up P st T (.ptr s g o) x=cH (sQ P T) fun k=>if x.cells.length=k∧x.jG=true then
 (match st.heap s g with
  | some (.cells cs)=>if o+k≤cs.length then some (st.jE s g (some (.cells (dJ cs o x.cells (o+k))))) else none
  | some (.row e sz n cs)=>if o+k≤cs.length then some (st.jE s g (some (.row e sz n (dJ cs o x.cells (o+k))))) else none
  | _=>none) else none:=by
 simp only[Up,pI,sQ];cases fL P T with
 | none=>rfl
 | some bk =>
   obtain⟨b,k⟩:=bk
   simp only[cH];split
   ·split
    ·rename_i h;simp only[h];split<;>rfl
    ·rename_i h;simp only[h];split<;>rfl
    ·rename_i h1 h2;split<;>rename_i h<;>first|rfl|exact absurd h (h1 _)|exact absurd h (h2 _ _ _ _)
   ·rfl
theorem NX (s:cC):rd (aV s) 0 32=aV s:=iQ (aL _)
theorem NY (s x:cC):dJ (aV s) 0 (aV x) 32=aV x:=eA (aL _)
theorem NZ (s:rS):rd (gI s) 0 4=gI s:=iQ (dP _)
theorem OA (s x:rS):dJ (gI s) 0 (gI x) 4=gI x:=eA (dP _)
theorem wrap_i64 (x:Int) (h1:-9223372036854775808≤x) (h2:x≤9223372036854775807):IntKind.i64.wrap x=x:=by
 rw[IntKind.wrap_i64];omega
theorem mK (s g:Nat):¬Flat (.own s g):=by intro h;cases h
theorem Mo (s g o:Nat):¬Flat (.ptr s g o):=by intro h;cases h
theorem dL {st:St} {x:AV} (h:Flat x):eT st x=some x:=by unfold eT;rw[if_pos h]
theorem iY {st:St} {s g e sz n:Nat} {cs:List AV} (h:st.heap s g=some (.row e sz n cs)) (hf:∀c∈cs,Flat c):cI st (.own s g)=some (.sl n cs):=by
 unfold cI;rw[if_neg (mK s g)];simp only[h];rw[if_pos hf]
theorem cE {st:St} {x:AV} (h:Flat x):cI st x=some x:=by unfold cI;rw[if_pos h]
theorem V1 {st:St} {x:AV} (h:Flat x):wQ st x=some x:=by unfold wQ;rw[if_pos h]
theorem Ry {st:St}:∀ {cs:List AV},(∀c∈cs,Flat c)→cF (cs.map (wQ st))=some cs
 | [],_=>rfl
 | c :: cs,h=>by
   rw[List.map_cons,V1 (h c (by simp))]
   have ih:=Ry (st:=st) (cs:=cs) fun d hd=>h d (List.mem_cons_of_mem _ hd)
   simp only[cF,ih,Option.map_some]
theorem MG {st:St} {s g e sz n:Nat} {cs:List AV} (h:st.heap s g=some (.row e sz n cs)) (hf:∀c∈cs,Flat c):eT st (.own s g)=some (.sl n cs):=by
 unfold eT;rw[if_neg (mK s g)];exact iY h hf
section
variable [Ext]
theorem V5 {P:Program} {f:Nat} {fn:Func} {t:Nat} {st:St} {x:AV} {e:Ex} (hk:Ext.pW f=false) (he:e=.ret∨e=.normal) (hr:fn.results.toList=[.tmp t]) (hx:st.env t=x) (hf:Flat x):zK P f fn (e,st)=some x:=by
 have h1:jI P f fn st=some x:=by
  unfold jI;rw[hk,if_neg (by simp)]
  unfold vF;rw[hr];simp only[jR,cH,hx,Ru];cases hf<;>simp only[eT]<;>rw[if_pos]<;>constructor<;>assumption
 rcases he with rfl|rfl<;>exact h1
theorem A4 {P:Program} {f:Nat} {fn:Func} {t T:Nat} {st:St} {y x:AV} {e:Ex} (hk:Ext.pW f=false) (he:e=.ret∨e=.normal) (hr:fn.results.toList=[.cell t T]) (hy:st.env t=y) (hx:Ez P st T y=some x) (hf:Flat x):zK P f fn (e,st)=some x:=by
 have h1:jI P f fn st=some x:=by
  unfold jI;rw[hk,if_neg (by simp)]
  unfold vF;rw[hr];show cH (cH (pX st (st.env t)) (wX P T)) (Ru st)=some x
  rw[hy,Oc,hx];simp only[cH,Ru];cases hf<;>simp only[eT]<;>rw[if_pos]<;>constructor<;>assumption
 rcases he with rfl|rfl<;>exact h1
theorem Wj {P:Program} {f:Nat} {fn:Func} {t:Nat} {st:St} {e:Ex} {s g e' sz n:Nat} {cs:List AV} (hk:Ext.pW f=false) (he:e=.ret∨e=.normal) (hr:fn.results.toList=[.tmp t]) (hx:st.env t=.own s g) (hh:st.heap s g=some (.row e' sz n cs)) (hf:∀c∈cs,Flat c):zK P f fn (e,st)=some (.uniq e' sz n cs):=by
 have h1:jI P f fn st=some (.uniq e' sz n cs):=by
  unfold jI;rw[hk,if_neg (by simp)]
  unfold vF;rw[hr];simp only[jR,cH,hx,Ru,hh];rw[if_pos hf]
 rcases he with rfl|rfl<;>exact h1
theorem UM {P:Program} {f:Nat} {fn:Func} {t T:Nat} {st:St} {e:Ex} {z:AV} {cs:List AV} {y:AV} (hk:Ext.pW f=false) (he:e=.ret∨e=.normal) (hr:fn.results.toList=[.cell t T]) (hz:st.env t=z) (hx:Ez P st T z=some (.agg cs)) (hy:eT st (.agg cs)=some y):zK P f fn (e,st)=some y:=by
 have h1:jI P f fn st=some y:=by
  unfold jI;rw[hk,if_neg (by simp)]
  unfold vF;rw[hr];show cH (cH (pX st (st.env t)) (wX P T)) (Ru st)=some y
  rw[hz,Oc,hx];simp only[cH,Ru,hy]
 rcases he with rfl|rfl<;>exact h1
def bS (P:Program) (st:St) (r:ResultVar):Option AV :=
 match r with
 | .tmp t=>some (st.env t)
 | .cell t T=>Ez P st T (st.env t)
theorem zZ (P:Program) (st:St) (r:ResultVar):jR P st r=bS P st r:=by
 cases r with
 | tmp t=>rfl
 | cell t T=>exact Oc P st T _
theorem V6 {P:Program} {f:Nat} {fn:Func} {st:St} {e:Ex} {r1 r2:ResultVar} {x1 x2 y1 y2:AV} (hk:Ext.pW f=false) (he:e=.ret∨e=.normal) (hr:fn.results.toList=[r1,r2])
 (h1:bS P st r1=some x1) (h2:bS P st r2=some x2) (e1:eT st x1=some y1) (e2:eT st x2=some y2):zK P f fn (e,st)=some (.eB [y1,y2]):=by
 have h:jI P f fn st=some (.eB [y1,y2]):=by
  unfold jI;rw[hk,if_neg (by simp)]
  unfold vF;rw[hr];simp only[List.map_cons,List.map_nil,zZ,h1,h2,cH,Cp e1,Cp e2,cF,Option.map_some]
 rcases he with rfl|rfl<;>exact h
theorem A5 {P:Program} {f:Nat} {fn:Func} {st:St} {e:Ex} {r1 r2:ResultVar} {x1 x2 y1 y2:AV} (hk:Ext.pW f=false) (he:e=.ret∨e=.normal) (hr:fn.results.toList=[r1,r2])
 (h1:bS P st r1=some x1) (h2:bS P st r2=some x2) (e0:eT st x1=none) (e1:Mb st x1=some y1) (e2:eT st x2=some y2):zK P f fn (e,st)=some (.eB [y1,y2]):=by
 have P3:Bt st x1=some y1:=(TM e0).trans e1
 have h:jI P f fn st=some (.eB [y1,y2]):=by
  unfold jI;rw[hk,if_neg (by simp)]
  unfold vF;rw[hr];simp only[List.map_cons,List.map_nil,zZ,h1,h2,cH,P3,Cp e2,cF,Option.map_some]
 rcases he with rfl|rfl<;>exact h
theorem UN {P:Program} {f:Nat} {fn:Func} {st:St} {e:Ex} {r1 r2 r3:ResultVar} {x1 x2 x3 y1 y2 y3:AV} (hk:Ext.pW f=false) (he:e=.ret∨e=.normal) (hr:fn.results.toList=[r1,r2,r3])
 (h1:bS P st r1=some x1) (h2:bS P st r2=some x2) (h3:bS P st r3=some x3) (e1:eT st x1=some y1) (e2:eT st x2=some y2) (e3:eT st x3=some y3):zK P f fn (e,st)=some (.eB [y1,y2,y3]):=by
 have h:jI P f fn st=some (.eB [y1,y2,y3]):=by
  unfold jI;rw[hk,if_neg (by simp)]
  unfold vF;rw[hr];simp only[List.map_cons,List.map_nil,zZ,h1,h2,h3,cH,Cp e1,Cp e2,Cp e3,cF,Option.map_some]
 rcases he with rfl|rfl<;>exact h
end
section
variable [Ext]
theorem A6 {P:Program} (c:Operand) (a b:Code) (st:St):yB P (.cond c a b) st=onB (st.ev c) fun t=>if t=true then yB P a st else yB P b st:=by
 cases h:st.ev c with
 | v x =>
   cases x with
   | bool t=>exact S6 P c a b st h
   | _ =>
     apply Option.ext
     intro r;rw[XZ];constructor
     ·rintro⟨n,m,h'⟩
      cases m with
      | zero=>simp[tW] at h'
      | succ m=>simp[tW,h] at h'
     ·intro h';simp[onB] at h'
 | _ =>
   apply Option.ext
   intro r;rw[XZ];constructor
   ·rintro⟨n,m,h'⟩
    cases m with
    | zero=>simp[tW] at h'
    | succ m=>simp[tW,h] at h'
   ·intro h';simp[onB] at h'
def YA (ops:Array Oper) (j:Nat):Option Nat:=(ops[j]?).bind (·.dst)
def UO {α:Type} (x:AV) (want:Bool) (y n:Option α):Option α :=
 match x with
 | .v (.bool b)=>if b=want then y else n
 | .v _=>n
 | _=>none
def onS {α:Type} (d:Option Nat) (k:Nat→Option α) (n:Option α):Option α :=
 match d with
 | some d=>k d
 | none=>n
@[congr] theorem aFJ {α:Type} {x x':AV} {want:Bool} {y n:Option α} (h:x=x'):UO x want y n=UO x' want y n:=by rw[h]
@[congr] theorem aHW {α:Type} {d d':Option Nat} {k:Nat→Option α} {n:Option α} (h:d=d'):onS d k n=onS d' k n:=by rw[h]
theorem A7 {α:Type} (b:Bool) (y n:Option α):UO (.v (.bool b)) true y n=if b=true then y else n:=rfl
theorem UP {α:Type} (b:Bool) (y n:Option α):UO (.v (.bool b)) false y n=if b=false then y else n:=rfl
theorem UQ {α:Type} (w:Bool) (y n:Option α):UO (.v undef) w y n=n:=rfl
theorem V7 {α:Type} (d:Nat) (k:Nat→Option α) (n:Option α):onS (some d) k n=k d:=rfl
theorem A8 {P:Program} {call:Nat→List AV→Option AV} {ops:Array Oper} {st:St} {d:Option Nat} {T:Nat} {pos:String} {eG:Array Edge} (op:Op) (j:Nat) (want:Bool) :
 cB P call ops ⟨d,op,T,pos,eG,some (j,want)⟩ st=onS (YA ops j) (fun s=>UO (st.env s) want (cB P call ops ⟨d,op,T,pos,eG,none⟩ st) (some (st.put d (.v undef)))) (some (st.put d (.v undef))):=by
 simp only[cB,gv,YA];cases (ops[j]?).bind (·.dst) with
 | none=>simp[onS]
 | some s =>
   simp only[onS];cases st.env s with
   | v x=>cases x<;>simp[UO,dH]<;>rename_i b<;>cases b<;>cases want<;>simp[dH]
   | _=>rfl
end
section
variable {P:Program} {T:Nat} {k k1:IntKind} {a b:Int}
theorem aB8:gQ P .add T (.v (.int k a)) (.v (.int k b))=some (.v (.int k (k.wrap (a+b)))):=by simp[gQ]
theorem aB9:gQ P .sub T (.v (.int k a)) (.v (.int k b))=some (.v (.int k (k.wrap (a-b)))):=by simp[gQ]
theorem aCa:gQ P .mul T (.v (.int k a)) (.v (.int k b))=some (.v (.int k (k.wrap (a * b)))):=by simp[gQ]
theorem aCb:gQ P .and T (.v (.int k a)) (.v (.int k b))=some (.v (.int k (k.wrap (BitVec.ofInt k.bits a &&& BitVec.ofInt k.bits b).toNat))):=by simp[gQ]
theorem aCc:gQ P .eql T (.v (.int k a)) (.v (.int k b))=some (.v (.bool (a == b))):=by simp[gQ]
theorem aCd:gQ P .neq T (.v (.int k a)) (.v (.int k b))=some (.v (.bool (a != b))):=by simp[gQ]
theorem aCe:gQ P .lss T (.v (.int k a)) (.v (.int k b))=some (.v (.bool (decide (a<b)))):=by simp[gQ]
theorem aCf:gQ P .leq T (.v (.int k a)) (.v (.int k b))=some (.v (.bool (decide (a≤b)))):=by simp[gQ]
theorem aCg:gQ P .gtr T (.v (.int k a)) (.v (.int k b))=some (.v (.bool (decide (a > b)))):=by simp[gQ]
theorem aCh:gQ P .geq T (.v (.int k a)) (.v (.int k b))=some (.v (.bool (decide (a≥b)))):=by simp[gQ]
theorem aCi (h:b≠0):gQ P .quo T (.v (.int k a)) (.v (.int k b))=some (.v (.int k (k.wrap (a.tdiv b)))):=by simp[gQ,h]
theorem aCj (h:b≠0):gQ P .rem T (.v (.int k a)) (.v (.int k b))=some (.v (.int k (a.tmod b))):=by simp[gQ,h]
theorem aCk (h:¬b<0):gQ P .shr T (.v (.int k a)) (.v (.int k1 b))=some (.v (.int k (a.fdiv (2 ^ (min b.toNat k.bits))))):=by simp[gQ,h]
theorem aCl (h:¬b<0):gQ P .shl T (.v (.int k a)) (.v (.int k1 b))=some (.v (.int k (k.wrap (a * 2 ^ (min b.toNat k.bits))))):=by simp[gQ,h]
end
theorem HN (s:St) (k:St→Option (Ex × St)):Yg (.normal,s) k=k s:=rfl
theorem A9 (s:St) (k:St→Option (Ex × St)):Yg (.ret,s) k=some (.ret,s):=rfl
theorem UR (i:Nat) (s:St) (k:St→Option (Ex × St)):Yg (.exit i,s) k=some (.exit i,s):=rfl
theorem Vc (r:cC) (i e:Nat) (x:Int) (h:i<32) (he:e=i+1):dJ (aV r) i [.v (.int .u8 x)] e=aV (r.set i x):=by
 subst he;simp only[dJ,aV,Vector.toList_set,List.map_set];rw[List.set_eq_take_append_cons_drop,if_pos (by simp[h])]
 simp
theorem qK (r:rS) (i e:Nat) (x:Int) (h:i<4) (he:e=i+1):dJ (gI r) i [.v (.int .u64 x)] e=gI (r.set i x):=by
 subst he;simp only[dJ,gI,Vector.toList_set,List.map_set];rw[List.set_eq_take_append_cons_drop,if_pos (by simp[h])]
 simp
theorem Ps [Ext] {P:Program} {b:Code} (Inv:Nat→St→Prop) (Q:Ex→St→Prop)
 (step:∀n st,Inv n st→∃e st',yB P b st=some (e,st')∧((e=.normal∧∃m,m<n∧Inv m st')∨(e≠.normal∧Q e st'))):∀n st,Inv n st→∃e st',yB P (.loop b) st=some (e,st')∧e≠.normal∧Q e st':=by
 intro n;induction n using Nat.strongRecOn with
 | _ n ih =>
   intro st h;obtain⟨e,s1,h1,h2⟩:=step n st h
   rw[Gd,h1];rcases h2 with ⟨rfl,m,hm,hi⟩|⟨gN,hq⟩
   ·exact ih m hm s1 hi
   ·refine⟨e,s1, ?_,gN,hq⟩
    cases e with
    | normal=>exact absurd rfl gN
    | _=>rfl
theorem lB [Ext] {P:Program} {b:Code} {st:St} {β:Type} {k:Ex × St→Option β} {r:β} (Inv:Nat→St→Prop) (Q:Ex→St→Prop) (n:Nat)
 (step:∀n st,Inv n st→∃e st',yB P b st=some (e,st')∧((e=.normal∧∃m,m<n∧Inv m st')∨(e≠.normal∧Q e st')))
 (start:Inv n st) (rest:∀e st',Q e st'→k (e,st')=some r):cH (yB P (.loop b) st) k=some r:=by
 obtain⟨e,s1,h1,h2,h3⟩:=Ps Inv Q step n st start
 rw[h1];exact rest e s1 h3
theorem cM [Ext] {P:Program} {b:Code} {st:St} {β:Type} {k:Ex × St→Option β} {R:β→Prop} (Inv:Nat→St→Prop) (Q:Ex→St→Prop) (n:Nat)
 (step:∀n st,Inv n st→∃e st',yB P b st=some (e,st')∧((e=.normal∧∃m,m<n∧Inv m st')∨(e≠.normal∧Q e st')))
 (start:Inv n st) (rest:∀e st',Q e st'→∃r,k (e,st')=some r∧R r):∃r,cH (yB P (.loop b) st) k=some r∧R r:=by
 obtain⟨e,s1,h1,h2,h3⟩:=Ps Inv Q step n st start
 rw[h1];exact rest e s1 h3
theorem mH {α β γ:Type} (x:Option α) (f:α→Option β) (g:β→Option γ):cH (cH x f) g=cH x fun a=>cH (f a) g:=by cases x<;>rfl
theorem oF [Ext] {P:Program} {b:Code} {st st':St} {n:Nat} {Inv:Nat→St→Prop} {Q:Ex→St→Prop} (h:yB P b st=some (.normal,st')) (m:Nat) (hm:m<n) (hi:Inv m st') :
 ∃e st',yB P b st=some (e,st')∧((e=.normal∧∃m,m<n∧Inv m st')∨(e≠.normal∧Q e st')):=⟨_,_,h,.inl ⟨rfl,m,hm,hi⟩⟩
theorem aFK [Ext] {P:Program} {b:Code} {st st':St} {e:Ex} {n:Nat} {Inv:Nat→St→Prop} {Q:Ex→St→Prop} (h:yB P b st=some (e,st')) (he:e≠.normal) (hq:Q e st') :
 ∃e st',yB P b st=some (e,st')∧((e=.normal∧∃m,m<n∧Inv m st')∨(e≠.normal∧Q e st')):=⟨_,_,h,.inr ⟨he,hq⟩⟩
def aJ (l:List Int):List AV:=l.flatMap pK
@[simp] theorem Iq (l:List (Int)):(aJ l).length=l.length * 1:=by
 induction l with
 | nil=>rfl
 | cons x l ih=>simp only[aJ,List.flatMap_cons,List.length_append,aZ,List.length_cons] at *;omega
theorem fG (l:List (Int)):∀x∈aJ l,Flat x:=by
 intro x hx;obtain⟨y,_,hy⟩:=List.mem_flatMap.1 hx
 exact lS y x hy
theorem V8 (l:List (Int)) (i:Nat) (h:i<l.length):rd (aJ l) (i * 1) 1=pK l[i]:=Lh pK 1 (aZ) l i h
def bD (l:List Int):List AV:=l.flatMap rV
@[simp] theorem Qg (l:List (Int)):(bD l).length=l.length * 1:=by
 induction l with
 | nil=>rfl
 | cons x l ih=>simp only[bD,List.flatMap_cons,List.length_append,aW,List.length_cons] at *;omega
theorem gV (l:List (Int)):∀x∈bD l,Flat x:=by
 intro x hx;obtain⟨y,_,hy⟩:=List.mem_flatMap.1 hx
 exact dW y x hy
def eH (l:List cC):List AV:=l.flatMap aV
@[simp] theorem aFL (l:List (cC)):(eH l).length=l.length * 32:=by
 induction l with
 | nil=>rfl
 | cons x l ih=>simp only[eH,List.flatMap_cons,List.length_append,aL,List.length_cons] at *;omega
theorem Gw (l:List (cC)):∀x∈eH l,Flat x:=by
 intro x hx;obtain⟨y,_,hy⟩:=List.mem_flatMap.1 hx
 exact dD y x hy
structure fK where
 aK:Int
 root:cC
def bV (s:fK):List AV:=rV s.aK++(aV s.root)
@[simp] theorem bP (s:fK):(bV s).length=33:=by simp[bV]
theorem dA (s:fK):∀x∈bV s,Flat x:=by
 intro x hx;simp only[bV,List.mem_append,List.mem_singleton] at hx;rcases hx with hx|hx
 ·(exact dW _ _ hx)
 ·(exact dD _ _ hx)
theorem jO (s:fK):(bV s)[0]? = some (.v (.int .u64 s.aK)):=rfl
theorem Bm (s:fK) (x:Int):dJ (bV s) 0 ([.v (.int .u64 x)]) 1=bV { s with aK:=x }:=cD (aW _)
theorem tS (s:fK):rd (bV s) 1 32=aV s.root:=(aY rfl (aW _)).trans (iQ (aL _))
theorem Ek (s:fK) (x:cC):dJ (bV s) 1 (aV x) 33=bV { s with root:=x }:=(aC rfl rfl (aW _)).trans (bF (eA (aL _)))
def gR:fK:=⟨0,dI⟩
def Cb:List Value:=[.int .u64 0]++(sT)
theorem Ae:Cb.map AV.v=bV gR:=by simp only[Cb,List.map_append,List.map_cons,List.map_nil,jC,jD];rfl
def EF:List Bool:=[true]++(Hh)
theorem yW (a b:fK):jY EF (bV a) (bV b):=(gT (show jY [true] [_] [_] from ⟨rfl,trivial⟩) (mW _ _))
theorem pF (a b:fK):bV a=bV b↔a=b:=by
 refine⟨fun h=>?_,fun h=>by rw[h]⟩
 cases a;cases b
 simp only[bV] at h;obtain⟨h0,h⟩:=List.append_inj h (by simp)
 have e0:=(Od _ _).1 h0
 have e1:=(pH _ _).1 h
 subst e0 e1;rfl
theorem OB (s:fK):rd (bV s) 0 33=bV s:=iQ (bP _)
theorem OC (s x:fK):dJ (bV s) 0 (bV x) 33=bV x:=eA (bP _)
structure oP where
 pj:fK
 pf:fK
def eZ (s:oP):List AV:=bV s.pj++(bV s.pf)
@[simp] theorem cJ (s:oP):(eZ s).length=66:=by simp[eZ]
theorem Dv (s:oP):∀x∈eZ s,Flat x:=by
 intro x hx;simp only[eZ,List.mem_append,List.mem_singleton] at hx;rcases hx with hx|hx
 ·(exact dA _ _ hx)
 ·(exact dA _ _ hx)
theorem Oe (s:oP):rd (eZ s) 0 33=bV s.pj:=gH (bP _)
theorem Of (s:oP) (x:fK):dJ (eZ s) 0 (bV x) 33=eZ { s with pj:=x }:=cD (bP _)
theorem wU (s:oP):(eZ s)[0]? = some (.v (.int .u64 s.pj.aK)):=(eD (by rw[bP];decide)).trans (jO _)
theorem yX (s:oP) (x:Int):dJ (eZ s) 0 ([.v (.int .u64 x)]) 1=eZ { s with pj:={ s.pj with aK:=x }}:=(tR (by rw[bP];decide)).trans (Ej (Bm _ x))
theorem Og (s:oP):rd (eZ s) 33 33=bV s.pf:=(aY rfl (bP _)).trans (iQ (bP _))
theorem Oh (s:oP) (x:fK):dJ (eZ s) 33 (bV x) 66=eZ { s with pf:=x }:=(aC rfl rfl (bP _)).trans (bF (eA (bP _)))
theorem wV (s:oP):(eZ s)[33]? = some (.v (.int .u64 s.pf.aK)):=(aG rfl (bP _)).trans (jO _)
def My:oP:=⟨gR,gR⟩
def Oi:List Value:=Cb++(Cb)
theorem Qv:Oi.map AV.v=eZ My:=by simp only[Oi,List.map_append,List.map_cons,List.map_nil,jC,jD,Ae];rfl
def YB:List Bool:=EF++(EF)
theorem HO (a b:oP):jY YB (eZ a) (eZ b):=(gT (yW _ _) (yW _ _))
theorem OD (a b:oP):eZ a=eZ b↔a=b:=by
 refine⟨fun h=>?_,fun h=>by rw[h]⟩
 cases a;cases b
 simp only[eZ] at h;obtain⟨h0,h⟩:=List.append_inj h (by simp)
 have e0:=(pF _ _).1 h0
 have e1:=(pF _ _).1 h
 subst e0 e1;rfl
theorem BD (s:oP):rd (eZ s) 0 66=eZ s:=iQ (cJ _)
theorem BE (s x:oP):dJ (eZ s) 0 (eZ x) 66=eZ x:=eA (cJ _)
structure Block where
 dN:oP
 slot:Int
 root:cC
 parent:cC
 iI:cC
 diff:rS
 Vw:rS
 gP:fK
 fin:fK
 Bd:Bool
def aT (s:Block):List AV:=eZ s.dN++(rV s.slot++(aV s.root++(aV s.parent++(aV s.iI++(gI s.diff++(gI s.Vw++(bV s.gP++(bV s.fin++(uF s.Bd)))))))))
@[simp] theorem bN (s:Block):(aT s).length=238:=by simp[aT]
theorem Aq (s:Block):∀x∈aT s,Flat x:=by
 intro x hx;simp only[aT,List.mem_append,List.mem_singleton] at hx;rcases hx with hx|hx|hx|hx|hx|hx|hx|hx|hx|hx
 ·(exact Dv _ _ hx)
 ·(exact dW _ _ hx)
 ·(exact dD _ _ hx)
 ·(exact dD _ _ hx)
 ·(exact dD _ _ hx)
 ·(exact iG _ _ hx)
 ·(exact iG _ _ hx)
 ·(exact dA _ _ hx)
 ·(exact dA _ _ hx)
 ·(exact lW _ _ hx)
theorem Fa (s:Block):rd (aT s) 0 66=eZ s.dN:=gH (cJ _)
theorem Th (s:Block) (x:oP):dJ (aT s) 0 (eZ x) 66=aT { s with dN:=x }:=cD (cJ _)
theorem yY (s:Block):rd (aT s) 0 33=bV s.dN.pj:=(pS (by rw[cJ];decide)).trans (Oe _)
theorem Lj (s:Block) (x:fK):dJ (aT s) 0 (bV x) 33=aT { s with dN:={ s.dN with pj:=x }}:=(tR (by rw[cJ];decide)).trans (Ej (Of _ x))
theorem rG (s:Block):(aT s)[0]? = some (.v (.int .u64 s.dN.pj.aK)):=(eD (by rw[cJ];decide)).trans (wU _)
theorem Bn (s:Block) (x:Int):dJ (aT s) 0 ([.v (.int .u64 x)]) 1=aT { s with dN:={ s.dN with pj:={ s.dN.pj with aK:=x }} }:=(tR (by rw[cJ];decide)).trans (Ej (yX _ x))
theorem yZ (s:Block):rd (aT s) 33 33=bV s.dN.pf:=(pS (by rw[cJ];decide)).trans (Og _)
theorem Lk (s:Block) (x:fK):dJ (aT s) 33 (bV x) 66=aT { s with dN:={ s.dN with pf:=x }}:=(tR (by rw[cJ];decide)).trans (Ej (Oh _ x))
theorem rH (s:Block):(aT s)[33]? = some (.v (.int .u64 s.dN.pf.aK)):=(eD (by rw[cJ];decide)).trans (wV _)
theorem Hi (s:Block):(aT s)[66]? = some (.v (.int .u64 s.slot)):=(aG rfl (cJ _)).trans (rfl)
theorem BF (s:Block) (x:Int):dJ (aT s) 66 ([.v (.int .u64 x)]) 67=aT { s with slot:=x }:=(aC rfl rfl (cJ _)).trans (bF (cD (aW _)))
theorem Jt (s:Block):rd (aT s) 67 32=aV s.root:=(aY rfl (cJ _)).trans ((aY rfl (aW _)).trans (gH (aL _)))
theorem BG (s:Block) (x:cC):dJ (aT s) 67 (aV x) 99=aT { s with root:=x }:=(aC rfl rfl (cJ _)).trans (bF ((aC rfl rfl (aW _)).trans (bF (cD (aL _)))))
theorem Ti (s:Block):rd (aT s) 99 32=aV s.parent:=(aY rfl (cJ _)).trans ((aY rfl (aW _)).trans ((aY rfl (aL _)).trans (gH (aL _))))
theorem Tj (s:Block) (x:cC):dJ (aT s) 99 (aV x) 131=aT { s with parent:=x }:=(aC rfl rfl (cJ _)).trans (bF ((aC rfl rfl (aW _)).trans (bF ((aC rfl rfl (aL _)).trans (bF (cD (aL _)))))))
theorem Cs (s:Block):rd (aT s) 131 32=aV s.iI:=(aY rfl (cJ _)).trans ((aY rfl (aW _)).trans ((aY rfl (aL _)).trans ((aY rfl (aL _)).trans (gH (aL _)))))
theorem Qw (s:Block) (x:cC):dJ (aT s) 131 (aV x) 163=aT { s with iI:=x }:=(aC rfl rfl (cJ _)).trans (bF ((aC rfl rfl (aW _)).trans (bF ((aC rfl rfl (aL _)).trans (bF ((aC rfl rfl (aL _)).trans (bF (cD (aL _)))))))))
theorem BH (s:Block):rd (aT s) 163 4=gI s.diff:=(aY rfl (cJ _)).trans ((aY rfl (aW _)).trans ((aY rfl (aL _)).trans ((aY rfl (aL _)).trans ((aY rfl (aL _)).trans (gH (dP _))))))
theorem BI (s:Block) (x:rS):dJ (aT s) 163 (gI x) 167=aT { s with diff:=x }:=(aC rfl rfl (cJ _)).trans (bF ((aC rfl rfl (aW _)).trans (bF ((aC rfl rfl (aL _)).trans (bF ((aC rfl rfl (aL _)).trans (bF ((aC rfl rfl (aL _)).trans (bF (cD (dP _)))))))))))
theorem Yj (s:Block):rd (aT s) 167 4=gI s.Vw:=(aY rfl (cJ _)).trans ((aY rfl (aW _)).trans ((aY rfl (aL _)).trans ((aY rfl (aL _)).trans ((aY rfl (aL _)).trans ((aY rfl (dP _)).trans (gH (dP _)))))))
theorem Yk (s:Block) (x:rS):dJ (aT s) 167 (gI x) 171=aT { s with Vw:=x }:=(aC rfl rfl (cJ _)).trans (bF ((aC rfl rfl (aW _)).trans (bF ((aC rfl rfl (aL _)).trans (bF ((aC rfl rfl (aL _)).trans (bF ((aC rfl rfl (aL _)).trans (bF ((aC rfl rfl (dP _)).trans (bF (cD (dP _)))))))))))))
theorem Ju (s:Block):rd (aT s) 171 33=bV s.gP:=(aY rfl (cJ _)).trans ((aY rfl (aW _)).trans ((aY rfl (aL _)).trans ((aY rfl (aL _)).trans ((aY rfl (aL _)).trans ((aY rfl (dP _)).trans ((aY rfl (dP _)).trans (gH (bP _))))))))
theorem BJ (s:Block) (x:fK):dJ (aT s) 171 (bV x) 204=aT { s with gP:=x }:=(aC rfl rfl (cJ _)).trans (bF ((aC rfl rfl (aW _)).trans (bF ((aC rfl rfl (aL _)).trans (bF ((aC rfl rfl (aL _)).trans (bF ((aC rfl rfl (aL _)).trans (bF ((aC rfl rfl (dP _)).trans (bF ((aC rfl rfl (dP _)).trans (bF (cD (bP _)))))))))))))))
theorem Hj (s:Block):(aT s)[171]? = some (.v (.int .u64 s.gP.aK)):=(aG rfl (cJ _)).trans ((aG rfl (aW _)).trans ((aG rfl (aL _)).trans ((aG rfl (aL _)).trans ((aG rfl (aL _)).trans ((aG rfl (dP _)).trans ((aG rfl (dP _)).trans ((eD (by rw[bP];decide)).trans (jO _))))))))
theorem Oj (s:Block):rd (aT s) 204 33=bV s.fin:=(aY rfl (cJ _)).trans ((aY rfl (aW _)).trans ((aY rfl (aL _)).trans ((aY rfl (aL _)).trans ((aY rfl (aL _)).trans ((aY rfl (dP _)).trans ((aY rfl (dP _)).trans ((aY rfl (bP _)).trans (gH (bP _)))))))))
theorem HP (s:Block) (x:fK):dJ (aT s) 204 (bV x) 237=aT { s with fin:=x }:=(aC rfl rfl (cJ _)).trans (bF ((aC rfl rfl (aW _)).trans (bF ((aC rfl rfl (aL _)).trans (bF ((aC rfl rfl (aL _)).trans (bF ((aC rfl rfl (aL _)).trans (bF ((aC rfl rfl (dP _)).trans (bF ((aC rfl rfl (dP _)).trans (bF ((aC rfl rfl (bP _)).trans (bF (cD (bP _)))))))))))))))))
theorem Ja (s:Block):(aT s)[204]? = some (.v (.int .u64 s.fin.aK)):=(aG rfl (cJ _)).trans ((aG rfl (aW _)).trans ((aG rfl (aL _)).trans ((aG rfl (aL _)).trans ((aG rfl (aL _)).trans ((aG rfl (dP _)).trans ((aG rfl (dP _)).trans ((aG rfl (bP _)).trans ((eD (by rw[bP];decide)).trans (jO _)))))))))
theorem Ok (s:Block) (x:cC):dJ (aT s) 205 (aV x) 237=aT { s with fin:={ s.fin with root:=x }}:=(aC rfl rfl (cJ _)).trans (bF ((aC rfl rfl (aW _)).trans (bF ((aC rfl rfl (aL _)).trans (bF ((aC rfl rfl (aL _)).trans (bF ((aC rfl rfl (aL _)).trans (bF ((aC rfl rfl (dP _)).trans (bF ((aC rfl rfl (dP _)).trans (bF ((aC rfl rfl (bP _)).trans (bF ((tR (by rw[bP];decide)).trans (Ej (Ek _ x))))))))))))))))))
theorem Qx (s:Block):(aT s)[237]? = some (.v (.bool s.Bd)):=(aG rfl (cJ _)).trans ((aG rfl (aW _)).trans ((aG rfl (aL _)).trans ((aG rfl (aL _)).trans ((aG rfl (aL _)).trans ((aG rfl (dP _)).trans ((aG rfl (dP _)).trans ((aG rfl (bP _)).trans ((aG rfl (bP _)).trans (rfl)))))))))
theorem Tk (s:Block) (x:Bool):dJ (aT s) 237 ([.v (.bool x)]) 238=aT { s with Bd:=x }:=(aC rfl rfl (cJ _)).trans (bF ((aC rfl rfl (aW _)).trans (bF ((aC rfl rfl (aL _)).trans (bF ((aC rfl rfl (aL _)).trans (bF ((aC rfl rfl (aL _)).trans (bF ((aC rfl rfl (dP _)).trans (bF ((aC rfl rfl (dP _)).trans (bF ((aC rfl rfl (bP _)).trans (bF ((aC rfl rfl (bP _)).trans (bF (eA (gS _)))))))))))))))))))
def eQ:Block:=⟨My,0,dI,dI,dI,EE,EE,gR,gR,false⟩
def Qy:List Value:=Oi++([.int .u64 0]++(sT++(sT++(sT++(Yh++(Yh++(Cb++(Cb++([.bool false])))))))))
theorem Ol:Qy.map AV.v=aT eQ:=by simp only[Qy,List.map_append,List.map_cons,List.map_nil,jC,jD,Qv,Ae];rfl
def US:List Bool:=YB++([true]++(Hh++(Hh++(Hh++(V0++(V0++(EF++(EF++([false])))))))))
theorem Sr (a b:Block):jY US (aT a) (aT b):=(gT (HO _ _) (gT (show jY [true] [_] [_] from ⟨rfl,trivial⟩) (gT (mW _ _) (gT (mW _ _) (gT (mW _ _) (gT (Yi _ _) (gT (Yi _ _) (gT (yW _ _) (gT (yW _ _) (show jY [false] [_] [_] from trivial))))))))))
theorem UT (a b:Block):aT a=aT b↔a=b:=by
 refine⟨fun h=>?_,fun h=>by rw[h]⟩
 cases a;cases b
 simp only[aT] at h;obtain⟨h0,h⟩:=List.append_inj h (by simp)
 obtain⟨h1,h⟩:=List.append_inj h (by simp)
 obtain⟨h2,h⟩:=List.append_inj h (by simp)
 obtain⟨h3,h⟩:=List.append_inj h (by simp)
 obtain⟨h4,h⟩:=List.append_inj h (by simp)
 obtain⟨h5,h⟩:=List.append_inj h (by simp)
 obtain⟨h6,h⟩:=List.append_inj h (by simp)
 obtain⟨h7,h⟩:=List.append_inj h (by simp)
 obtain⟨h8,h⟩:=List.append_inj h (by simp)
 have e0:=(OD _ _).1 h0
 have e1:=(Od _ _).1 h1
 have e2:=(pH _ _).1 h2
 have e3:=(pH _ _).1 h3
 have e4:=(pH _ _).1 h4
 have e5:=(ED _ _).1 h5
 have e6:=(ED _ _).1 h6
 have e7:=(pF _ _).1 h7
 have e8:=(pF _ _).1 h8
 have e9:=(A2 _ _).1 h
 subst e0 e1 e2 e3 e4 e5 e6 e7 e8 e9;rfl
theorem HQ (s:Block):rd (aT s) 0 238=aT s:=iQ (bN _)
theorem HR (s x:Block):dJ (aT s) 0 (aT x) 238=aT x:=eA (bN _)
structure Node where
 block:Block
 up:Int
 status:Int
def fW (s:Node):List AV:=aT s.block++(pK s.up++(pK s.status))
@[simp] theorem uN (s:Node):(fW s).length=240:=by simp[fW]
theorem Kk (s:Node):∀x∈fW s,Flat x:=by
 intro x hx;simp only[fW,List.mem_append,List.mem_singleton] at hx;rcases hx with hx|hx|hx
 ·(exact Aq _ _ hx)
 ·(exact lS _ _ hx)
 ·(exact lS _ _ hx)
theorem BK (s:Node):rd (fW s) 0 238=aT s.block:=gH (bN _)
theorem BL (s:Node) (x:Block):dJ (fW s) 0 (aT x) 238=fW { s with block:=x }:=cD (bN _)
theorem Hk (s:Node):rd (fW s) 0 66=eZ s.block.dN:=(pS (by rw[bN];decide)).trans (Fa _)
theorem Ct (s:Node):rd (fW s) 0 33=bV s.block.dN.pj:=(pS (by rw[bN];decide)).trans (yY _)
theorem vA (s:Node):(fW s)[0]? = some (.v (.int .u64 s.block.dN.pj.aK)):=(eD (by rw[bN];decide)).trans (rG _)
theorem Cu (s:Node):rd (fW s) 33 33=bV s.block.dN.pf:=(pS (by rw[bN];decide)).trans (yZ _)
theorem vB (s:Node):(fW s)[33]? = some (.v (.int .u64 s.block.dN.pf.aK)):=(eD (by rw[bN];decide)).trans (rH _)
theorem Jb (s:Node):(fW s)[66]? = some (.v (.int .u64 s.block.slot)):=(eD (by rw[bN];decide)).trans (Hi _)
theorem Ll (s:Node):rd (fW s) 67 32=aV s.block.root:=(pS (by rw[bN];decide)).trans (Jt _)
theorem Fp (s:Node):rd (fW s) 131 32=aV s.block.iI:=(pS (by rw[bN];decide)).trans (Cs _)
theorem Lm (s:Node):rd (fW s) 171 33=bV s.block.gP:=(pS (by rw[bN];decide)).trans (Ju _)
theorem Om (s:Node):rd (fW s) 204 33=bV s.block.fin:=(pS (by rw[bN];decide)).trans (Oj _)
theorem OE (s:Node):(fW s)[238]? = some (.v (.int .i64 s.up)):=(aG rfl (bN _)).trans (rfl)
theorem UU (s:Node) (x:Int):dJ (fW s) 238 ([.v (.int .i64 x)]) 239=fW { s with up:=x }:=(aC rfl rfl (bN _)).trans (bF (cD (aZ _)))
theorem Et (s:Node):(fW s)[239]? = some (.v (.int .i64 s.status)):=(aG rfl (bN _)).trans ((aG rfl (aZ _)).trans (rfl))
theorem Gf (s:Node) (x:Int):dJ (fW s) 239 ([.v (.int .i64 x)]) 240=fW { s with status:=x }:=(aC rfl rfl (bN _)).trans (bF ((aC rfl rfl (aZ _)).trans (bF (eA (aZ _)))))
def YC:Node:=⟨eQ,0,0⟩
def Yl:List Value:=Qy++([.int .i64 0]++([.int .i64 0]))
theorem HS:Yl.map AV.v=fW YC:=by simp only[Yl,List.map_append,List.map_cons,List.map_nil,jC,jD,Ol];rfl
def aLw:List Bool:=US++([true]++([true]))
theorem RI (a b:Node):jY aLw (fW a) (fW b):=(gT (Sr _ _) (gT (show jY [true] [_] [_] from ⟨rfl,trivial⟩) (show jY [true] [_] [_] from ⟨rfl,trivial⟩)))
theorem OF (s:Node):rd (fW s) 0 240=fW s:=iQ (uN _)
theorem OG (s x:Node):dJ (fW s) 0 (fW x) 240=fW x:=eA (uN _)
def bZ (l:List Node):List AV:=l.flatMap fW
@[simp] theorem Kl (l:List (Node)):(bZ l).length=l.length * 240:=by
 induction l with
 | nil=>rfl
 | cons x l ih=>simp only[bZ,List.flatMap_cons,List.length_append,uN,List.length_cons] at *;omega
theorem jQ (l:List (Node)):∀x∈bZ l,Flat x:=by
 intro x hx;obtain⟨y,_,hy⟩:=List.mem_flatMap.1 hx
 exact Kk y x hy
theorem B0 (l:List (Node)) (i:Nat) (h:i<l.length):rd (bZ l) (i * 240) 240=fW l[i]:=Lh fW 240 (uN) l i h
structure Tree where
 nodes:List Node
def cP (s:Tree):List AV:=[.sl s.nodes.length (bZ s.nodes)]
@[simp] theorem Qz (s:Tree):(cP s).length=1:=by simp[cP]
theorem Xd (s:Tree):∀x∈cP s,Flat x:=by
 intro x hx;simp only[cP,List.mem_append,List.mem_singleton] at hx;(subst hx;exact .sl _ _ (jQ _))
theorem Ym (s:Tree):(cP s)[0]? = some (.sl s.nodes.length (bZ s.nodes)):=rfl
theorem OH (s:Tree):rd (cP s) 0 1=cP s:=iQ (Qz _)
theorem OI (s x:Tree):dJ (cP s) 0 (cP x) 1=cP x:=eA (Qz _)
end Go.Ab
end
section
namespace Go.Ab
open Classical
def wH (e sz by_:Nat) (v:Option (Nat × List AV)):Option (Option (Nat × Nat) × mI) :=
 match v with
 | some (m,news)=>if news.length=m * sz∧m * by_≤140737488355328∧m≤maxLen then some (none,.row e sz m news) else none
 | none=>none
def wS (e sz by_:Nat) (o:Option mI) (s g:Nat) (v:Option (Nat × List AV)):Option (Option (Nat × Nat) × mI) :=
 match o,v with
 | some (.row e' sY n cs),some (m,news)=>if news.length=m * sz∧e'=e∧sY=sz∧(n+m) * by_≤140737488355328∧n+m≤maxLen then some (some (s,g),.row e sz (n+m) (cs++news)) else none
 | _,_=>none
def acE (e sz by_ n:Nat) (cs:List AV) (v:Option (Nat × List AV)):Option (Option (Nat × Nat) × mI) :=
 match v with
 | some (m,news)=>if news.length=m * sz∧cs.length=n * sz∧(n=0∨0<m)∧(n+m) * by_≤140737488355328∧n+m≤maxLen then some (none,.row e sz (n+m) (cs++news)) else none
 | none=>none
section
variable {P:Program} {st:St} {T e sz by_:Nat}
theorem sC (hs:dK P T=some (e,sz,by_)) (x:AV):cX P st T (.v (.slice none 0 0)) x=wH e sz by_ (aQ st x):=by
 simp only[cX,hs,wH];cases aQ st x with
 | none=>rfl
 | some v =>
   obtain⟨m,news⟩:=v
   by_cases h1:news.length=m * sz<;>simp[h1]
theorem sD (hs:dK P T=some (e,sz,by_)) (s g:Nat) (x:AV):cX P st T (.own s g) x=wS e sz by_ (st.heap s g) s g (aQ st x):=by
 simp only[cX,hs,wS];cases aQ st x with
 | none=>cases st.heap s g with
   | none=>rfl
   | some o=>cases o<;>rfl
 | some v =>
   obtain⟨m,news⟩:=v
   cases st.heap s g with
   | none=>by_cases h1:news.length=m * sz<;>simp[h1]
   | some o =>
     cases o with
     | row a b n cs=>by_cases h1:news.length=m * sz<;>simp[h1]
     | _=>by_cases h1:news.length=m * sz<;>simp[h1]
theorem aFN (hs:dK P T=some (e,sz,by_)) (n:Nat) (cs:List AV) (x:AV):cX P st T (.cl n cs) x=acE e sz by_ n cs (aQ st x):=by
 simp only[cX,hs,acE];cases aQ st x with
 | none=>rfl
 | some v =>
   obtain⟨m,news⟩:=v
   by_cases h1:news.length=m * sz<;>simp[h1]
end
def OJ (e sz:Nat) (o:Option mI) (s g:Nat) (i:Int):Option AV :=
 match o with
 | some (.row e' sY n _)=>if 0≤i∧i<n∧e'=e∧sY=sz then some (.ptr s g (i.toNat * sz)) else none
 | _=>none
theorem On {P:Program} {st:St} {T e sz by_:Nat} (hn:jB P T=none) (hs:dK P T=some (e,sz,by_)) (s g:Nat) (k:IntKind) (i:Int):bB P st T (.own s g) (.v (.int k i))=OJ e sz (st.heap s g) s g i:=by
 simp only[bB,hn,hs,OJ];cases st.heap s g with
 | none=>rfl
 | some e=>cases e<;>rfl
theorem aCm (e sz n:Nat) (cs:List AV) (s g:Nat) (i:Int) (h0:0≤i) (h1:i<n):OJ e sz (some (.row e sz n cs)) s g i=some (.ptr s g (i.toNat * sz)):=by
 simp[OJ,h0,h1]
theorem Ra [Ext] {P:Program} {S e sz by_:Nat} {z:List Value} (hs:dK P S=some (e,sz,by_)) (hz:dS P e=some z) {call:Nat→List AV→Option AV} {ops:Array Oper} {st:St} {T:Nat} {pos:String} {eG:Array Edge} (d:Nat) :
 cB P call ops ⟨some d,.buildSlice S 0 #[],T,pos,eG,none⟩ st=some ((st.new d (.row e sz 0 [])).put (some d) (.own d (st.aO d))):=by
 rw[kE,hs];simp[cH,hz,gJ]
def elV {α:Type} (x:AV) (k:Value→Option α) (fb:Option α):Option α :=
 match x with
 | .v y=>if y.oneCell'=true then k y else fb
 | _=>fb
theorem aCo {α:Type} (kk:IntKind) (n:Int) (k:Value→Option α) (fb:Option α):elV (.v (.int kk n)) k fb=k (.int kk n):=rfl
theorem V9 {α:Type} (n:Bool) (k:Value→Option α) (fb:Option α):elV (.v (.bool n)) k fb=k (.bool n):=rfl
@[congr] theorem aHX {α:Type} {x y:AV} {k:Value→Option α} {fb:Option α} (h:x=y):elV x k fb=elV y k fb:=by rw[h]
theorem HT [Ext] {P:Program} {S e by_:Nat} {z:Value} (hs:dK P S=some (e,1,by_)) (hz:dS P e=some [z]) {call:Nat→List AV→Option AV} {ops:Array Oper} {st:St} {T:Nat} {pos:String} {eG:Array Edge} (d:Nat) (x:Operand) :
 cB P call ops ⟨some d,.buildSlice S 1 #[(0,x)],T,pos,eG,none⟩ st=elV (st.ev x) (fun y=>some ((st.new d (.row e 1 1 [.v y])).put (some d) (.own d (st.aO d)))) (cB P call ops ⟨some d,.buildSlice S 1 #[(0,x)],T,pos,eG,none⟩ st):=by
 unfold elV;split
 ·rename_i y h;split
  ·rename_i hy;rw[kE,hs];simp[hz,cH,h,AV.jG,hy,gJ,AV.cells]
  ·rfl
 ·rfl
def F6 {α:Type} (z:Nat) (x:AV) (k:List AV→Option α) (fb:Option α):Option α :=
 match x with
 | .agg cs=>if cs.length=z then k cs else fb
 | _=>fb
theorem aCp {α:Type} (z:Nat) (cs:List AV) (k:List AV→Option α) (fb:Option α) (h:cs.length=z):F6 z (.agg cs) k fb=k cs:=if_pos h
@[congr] theorem aHY {α:Type} {z:Nat} {x y:AV} {k:List AV→Option α} {fb:Option α} (h:x=y):F6 z x k fb=F6 z y k fb:=by rw[h]
theorem El [Ext] {P:Program} {S e sz by_:Nat} {z:List Value} (hs:dK P S=some (e,sz,by_)) (hz:dS P e=some z) (hl:z.length=sz) (hm:sz≤2 ^ 24) {call:Nat→List AV→Option AV} {ops:Array Oper} {st:St} {T:Nat} {pos:String} {eG:Array Edge} (d:Nat) (x:Operand) :
 cB P call ops ⟨some d,.buildSlice S 1 #[(0,x)],T,pos,eG,none⟩ st=F6 sz (st.ev x) (fun cs=>some ((st.new d (.row e sz 1 cs)).put (some d) (.own d (st.aO d)))) (cB P call ops ⟨some d,.buildSlice S 1 #[(0,x)],T,pos,eG,none⟩ st):=by
 unfold F6;split
 ·rename_i cs h;split
  ·rename_i hc;have h2:((List.range 1).flatMap fun _=>z.map AV.v)=z.map AV.v:=by simp[List.range,List.range.loop]
   have hzl:(z.map AV.v).length=sz:=by simpa using hl
   rw[kE,hs];simp only[hz,cH,List.toList_toArray,List.all_cons,List.all_nil,h,AV.jG,Bool.and_self,List.map_cons,List.map_nil,gJ,AV.cells,hc,Nat.zero_mul,Nat.zero_add,List.take_zero,List.nil_append];rw[h2,if_pos (by simpa using hm),if_pos (by simp[hzl])]
   rw[List.drop_of_length_le (by rw[hzl];exact Nat.le_refl _),List.append_nil]
  ·rfl
 ·rfl
theorem Ie {e sz by_ s g n:Nat} {cs:List AV} (hl:cs.length=n * sz) (hb:(n:Int) * by_≤140737488355328) (hm:(n:Int)≤maxLen):wS e sz by_ (some (.row e sz 0 [])) s g (some (n,cs))=some (some (s,g),.row e sz n cs):=by
 simp only[wS];simp only[Nat.zero_add,true_and,List.nil_append];have mZ:n * by_≤140737488355328:=by
  have:((n * by_:Nat):Int)≤140737488355328:=by rw[Int.natCast_mul];exact hb
  omega
 rw[if_pos ⟨hl,mZ,by omega⟩]
end Go.Ab
end
section
namespace Go.Ab
open Classical
variable [Ext]
@[congr] theorem aHZ {P:Program} {bi:Bool} {c:Code} {s t:St} (h:s=t):vT P bi c s=vT P bi c t:=by rw[h]
theorem B4 {P:Program} {bi:Bool} (c:Operand) (a b:Code) (st:St):vT P bi (.cond c a b) st=onB (st.ev c) fun t=>if t=true then vT P bi a st else vT P bi b st:=by
 cases h:st.ev c with
 | v x =>
   cases x with
   | bool t=>exact NN P c a b st h
   | _ =>
     apply Option.ext
     intro r;rw[gG];constructor
     ·rintro⟨n,m,h'⟩
      cases m with
      | zero=>simp[tW] at h'
      | succ m=>simp[tW,h] at h'
     ·intro h';simp[onB] at h'
 | _ =>
   apply Option.ext
   intro r;rw[gG];constructor
   ·rintro⟨n,m,h'⟩
    cases m with
    | zero=>simp[tW] at h'
    | succ m=>simp[tW,h] at h'
   ·intro h';simp[onB] at h'
section
variable {P:Program} {call:Nat→List AV→Option AV} {inl:Nat→List AV→St→Option (AV × St)} {ops:Array Oper} {st:St}
theorem UW:lU P true call inl ops [] st=some st:=rfl
theorem OK (o:Oper) (l:List Oper):lU P true call inl ops (o :: l) st=cH (gK P true call inl ops o st) (lU P true call inl ops l):=rfl
@[congr] theorem aEj {o:Oper} {s t:St} (h:s=t):gK P true call inl ops o s=gK P true call inl ops o t:=by rw[h]
theorem W0 {o:Oper} (h:Er o=none):gK P true call inl ops o st=cB P call ops o st:=by
 unfold gK;rw[if_pos rfl,h]
theorem B5 {d:Option Nat} {g:Nat} {args:Array Operand} {rL:Array Nat} {T:Nat} {pos:String} {eG:Array Edge} (h:Ext.inl g d=true) :
 gK P true call inl ops ⟨d,.call ⟨.value (.func g),args,rL⟩,T,pos,eG,none⟩ st=cH (inl g (args.toList.map st.ev) st) fun r=>some ((st.back r.2).put d r.1):=by
 have e:Er ⟨d,.call ⟨.value (.func g),args,rL⟩,T,pos,eG,none⟩=some (g,args.toList):=by
  unfold Er;simp only
  rw[if_pos h]
 unfold gK;rw[if_pos rfl,e];simp only[gv,if_true];cases inl g (args.toList.map st.ev) st<;>rfl
end
theorem eY (st s:St):(st.back s).env=st.env:=rfl
theorem dG (st s:St):(st.back s).heap=s.heap:=rfl
theorem cA (st s:St):(st.back s).aO=s.aO:=rfl
theorem Wl {P:Program} {fn:Func} {st:St} {e:Ex} {r:ResultVar} {x:AV} (he:e=.ret∨e=.normal) (hr:fn.results.toList=[r]) (h1:jR P st r=some x):aFE P fn (e,st)=some (x,st):=by
 have h:zS P fn st=some x:=by
  unfold zS;rw[hr];exact h1
 rcases he with rfl|rfl<;>simp only[aFE,h,Option.map_some]
theorem UX {P:Program} {bi:Bool} {b:Code} (Inv:Nat→St→Prop) (Q:Ex→St→Prop)
 (step:∀n st,Inv n st→∃e st',vT P bi b st=some (e,st')∧((e=.normal∧∃m,m<n∧Inv m st')∨(e≠.normal∧Q e st'))):∀n st,Inv n st→∃e st',vT P bi (.loop b) st=some (e,st')∧e≠.normal∧Q e st':=by
 intro n;induction n using Nat.strongRecOn with
 | _ n ih =>
   intro st h;obtain⟨e,s1,h1,h2⟩:=step n st h
   rw[NM,h1];rcases h2 with ⟨rfl,m,hm,hi⟩|⟨gN,hq⟩
   ·exact ih m hm s1 hi
   ·refine⟨e,s1, ?_,gN,hq⟩
    cases e with
    | normal=>exact absurd rfl gN
    | _=>rfl
theorem nJ {P:Program} {bi:Bool} {b:Code} {st:St} {β:Type} {k:Ex × St→Option β} {R:β→Prop} (Inv:Nat→St→Prop) (Q:Ex→St→Prop) (n:Nat)
 (step:∀n st,Inv n st→∃e st',vT P bi b st=some (e,st')∧((e=.normal∧∃m,m<n∧Inv m st')∨(e≠.normal∧Q e st')))
 (start:Inv n st) (rest:∀e st',Q e st'→∃r,k (e,st')=some r∧R r):∃r,cH (vT P bi (.loop b) st) k=some r∧R r:=by
 obtain⟨e,s1,h1,h2,h3⟩:=UX Inv Q step n st start
 rw[h1];exact rest e s1 h3
theorem aFO {P:Program} {bi:Bool} {b:Code} {st st':St} {n:Nat} {Inv:Nat→St→Prop} {Q:Ex→St→Prop} (h:vT P bi b st=some (.normal,st')) (m:Nat) (hm:m<n) (hi:Inv m st') :
 ∃e st',vT P bi b st=some (e,st')∧((e=.normal∧∃m,m<n∧Inv m st')∨(e≠.normal∧Q e st')):=⟨_,_,h,.inl ⟨rfl,m,hm,hi⟩⟩
theorem aCq {P:Program} {bi:Bool} {b:Code} {st st':St} {e:Ex} {n:Nat} {Inv:Nat→St→Prop} {Q:Ex→St→Prop} (h:vT P bi b st=some (e,st')) (he:e≠.normal) (hq:Q e st') :
 ∃e st',vT P bi b st=some (e,st')∧((e=.normal∧∃m,m<n∧Inv m st')∨(e≠.normal∧Q e st')):=⟨_,_,h,.inr ⟨he,hq⟩⟩
theorem OL {P:Program} {id:Nat} {ops:Array Oper} {d:Bool} {st:St} {l:List (Nat × Nat)} (h:Ext.dyn id ops.size (rM ops)=l) :
 vT P true (.region id ops d) st=cH (lU P true (aD P) (Cg P) ops ops.toList st) fun s=>if pP ops s l then some (.normal,s) else none:=by
 rw[Yf];congr 1
 funext s
 rw[h];by_cases hf:pP ops s l
 ·rw[if_pos hf,if_neg];rintro⟨_,hn⟩
  exact hn hf
 ·rw[if_neg hf,if_pos ⟨rfl,hf⟩]
theorem B6 (ops:Array Oper) (s:St):pP ops s []=True:=rfl
theorem UY (ops:Array Oper) (s:St) (p:Nat × Nat) (l:List (Nat × Nat)):pP ops s (p :: l)=(Ut ops s p∧pP ops s l):=rfl
def OM (s:St) (x y:Option (List Nat)):Prop:=match x,y with|some aS,some bs=>Kd s aS bs|_,_=>False
theorem B7 (ops:Array Oper) (s:St) (i j:Nat):Ut ops s (i,j)=OM s ((ops[i]?).bind gO) ((ops[j]?).bind gO):=rfl
theorem W1 (s:St) (a b:Nat):OM s (some [a]) (some [b])=fM (s.env a) (s.env b):=by simp[OM,Kd]
theorem W3 (s:St) (a a' b:Nat):OM s (some [a,a']) (some [b])=(fM (s.env a) (s.env b)∧fM (s.env a') (s.env b)):=by simp[OM,Kd]
@[congr] theorem W4 {x y x' y':AV} (h:x=x') (h':y=y'):fM x y=fM x' y':=by rw[h,h']
theorem ON (s g o s' g' o':Nat):fM (.ptr s g o) (.ptr s' g' o')=((s,g)≠(s',g')):=rfl
theorem OO (s g o s' g':Nat):fM (.ptr s g o) (.own s' g')=((s,g)≠(s',g')):=rfl
theorem OP (s g s' g' o':Nat):fM (.own s g) (.ptr s' g' o')=((s,g)≠(s',g')):=rfl
theorem OQ (x:Value) (s g o:Nat):fM (.v x) (.ptr s g o)=True:=rfl
theorem OR (x:Value) (s g o:Nat):fM (.ptr s g o) (.v x)=True:=rfl
theorem OS (s g n:Nat) (cs:List AV):fM (.own s g) (.sl n cs)=True:=rfl
theorem OT (s g n:Nat) (cs:List AV):fM (.sl n cs) (.own s g)=True:=rfl
theorem OU (s g o n:Nat) (cs:List AV):fM (.sl n cs) (.ptr s g o)=True:=rfl
theorem OV (s g o n:Nat) (cs:List AV):fM (.ptr s g o) (.sl n cs)=True:=rfl
theorem OW (n m:Nat) (cs ds:List AV):fM (.sl n cs) (.sl m ds)=True:=rfl
theorem OX (s g:Nat) (x:Value):fM (.own s g) (.v x)=True:=rfl
theorem OY (s g:Nat) (x:Value):fM (.v x) (.own s g)=True:=rfl
theorem OZ (x:Value) (n:Nat) (cs:List AV):fM (.v x) (.sl n cs)=True:=rfl
theorem PA (x:Value) (n:Nat) (cs:List AV):fM (.sl n cs) (.v x)=True:=rfl
def W5 (x y:AV):Option AV :=
 match x,y with
 | .v (.int k a),.v (.int _ b)=>some (.v (.int k (if b<a then b else a)))
 | _,_=>none
def W6 (x y:AV):Option AV :=
 match x,y with
 | .v (.int k a),.v (.int _ b)=>some (.v (.int k (if b > a then b else a)))
 | _,_=>none
theorem W7 (k k':IntKind) (a b:Int):W5 (.v (.int k a)) (.v (.int k' b))=some (.v (.int k (if b<a then b else a))):=rfl
theorem W8 (k k':IntKind) (a b:Int):W6 (.v (.int k a)) (.v (.int k' b))=some (.v (.int k (if a<b then b else a))):=rfl
@[congr] theorem aFP {x y x' y':AV} (h:x=x') (h':y=y'):W5 x y=W5 x' y':=by rw[h,h']
@[congr] theorem aFQ {x y x' y':AV} (h:x=x') (h':y=y'):W6 x y=W6 x' y':=by rw[h,h']
theorem aFR {P:Program} {call:Nat→List AV→Option AV} {ops:Array Oper} {st:St} {d:Option Nat} {T:Nat} {pos:String} {eG:Array Edge} (x y:Operand) (rL:Array Nat) :
 cB P call ops ⟨d,.call ⟨.builtin .min,#[x,y],rL⟩,T,pos,eG,none⟩ st=cH (W5 (st.ev x) (st.ev y)) fun v=>some (st.put d v):=by
 rw[dO];simp only[dH,iA,W5];cases st.ev x with
 | v a=>cases a with
   | int k a=>cases st.ev y with
     | v b=>cases b<;>rfl
     | _=>rfl
   | _=>rfl
 | _=>rfl
theorem aFS {P:Program} {call:Nat→List AV→Option AV} {ops:Array Oper} {st:St} {d:Option Nat} {T:Nat} {pos:String} {eG:Array Edge} (x y:Operand) (rL:Array Nat) :
 cB P call ops ⟨d,.call ⟨.builtin .max,#[x,y],rL⟩,T,pos,eG,none⟩ st=cH (W6 (st.ev x) (st.ev y)) fun v=>some (st.put d v):=by
 rw[dO];simp only[dH,iA,W6];cases st.ev x with
 | v a=>cases a with
   | int k a=>cases st.ev y with
     | v b=>cases b<;>rfl
     | _=>rfl
   | _=>rfl
 | _=>rfl
noncomputable def mvE (call:Nat→List AV→Option AV) (g:Nat) (rest:List AV) (s k d c:Nat) (o:Option mI):Option qR :=
 match o with
 | some (.row e sz n cs) =>
   if (∀c∈cs,Flat c)∧∀x∈rest,Flat x then
    match call g (.uniq e sz n cs :: rest) with
    | some (.uniq e' sY n' Dd)=>some { dst:=some d,val:=.own d c,dJ:=some (s,k,none),new:=some (d,[.row e' sY n' Dd])}
    | some (.eB [.uniq e' sY n' Dd])=>some { dst:=some d,val:=.eB [],dJ:=some (s,k,some (.row e' sY n' Dd))}
    | _=>none
   else none
 | _=>none
theorem UZ (call:Nat→List AV→Option AV) (g s k d:Nat) (rest:List AV) (st:St):kU call g (.own s k :: rest) st (some d)=mvE call g rest s k d (st.aO d) (st.heap s k):=by
 unfold kU mvE;simp only
 cases st.heap s k with
 | none=>rfl
 | some o =>
   cases o with
   | row e sz n cs =>
     simp only
     by_cases hc:(∀c∈cs,Flat c)∧∀x∈rest,Flat x
     ·simp only[if_pos hc];cases call g (.uniq e sz n cs :: rest) with
      | none=>rfl
      | some r =>
        cases r with
        | eB vs =>
          cases vs with
          | nil=>rfl
          | cons x xs =>
            cases x with
            | uniq _ _ _ _=>cases xs<;>rfl
            | _=>rfl
        | _=>rfl
     ·simp only[if_neg hc]
   | _=>rfl
theorem LI {call:Nat→List AV→Option AV} {g:Nat} {rest:List AV} {s k d c e sz n e' sY n':Nat} {cs Dd:List AV} (hf:∀c∈cs,Flat c) (hr:∀x∈rest,Flat x) (hc:call g (.uniq e sz n cs :: rest)=some (.uniq e' sY n' Dd)) :
 mvE call g rest s k d c (some (.row e sz n cs))=some { dst:=some d,val:=.own d c,dJ:=some (s,k,none),new:=some (d,[.row e' sY n' Dd])}:=by
 unfold mvE;simp only
 rw[if_pos ⟨hf,hr⟩,hc]
@[congr] theorem aH0 {call:Nat→List AV→Option AV} {g:Nat} {rest:List AV} {s k d c c':Nat} {o o':Option mI} (h:c=c') (h':o=o'):mvE call g rest s k d c o=mvE call g rest s k d c' o':=by rw[h,h']
theorem SL {call:Nat→List AV→Option AV} {g d:Nat} {rest:List AV} {st:St} {e sz n:Nat} {cs:List AV} (hr:∀x∈rest,Flat x) (hc:call g (.v (.slice none 0 0) :: rest)=some (.uniq e sz n cs)) :
 kU call g (.v (.slice none 0 0) :: rest) st (some d)=some { dst:=some d,val:=.own d (st.aO d),new:=some (d,[.row e sz n cs])}:=by
 have hf:∀x∈AV.v (.slice none 0 0) :: rest,Flat x:=by
  intro x hx;rcases List.mem_cons.1 hx with rfl|hx
  ·exact .v _
  ·exact hr x hx
 have hnf:¬Flat (.uniq e sz n cs):=by intro h;cases h
 unfold kU;simp only[if_pos hf];unfold aP;rw[if_pos hf,hc];simp only[cH];unfold iR;rw[if_neg hnf];rfl
theorem LH {P:Program} {fn:Func} {st:St} {e:Ex} {r:ResultVar} {s g ee sz n:Nat} {cs:List AV} (he:e=.ret∨e=.normal) (hr:fn.results.toList=[r]) (h1:jR P st r=some (.own s g)) (h2:st.heap s g=some (.row ee sz n cs)) (hm:∀c∈cs,fF c) :
 l9 P fn (e,st)=some (.uniq ee sz n cs):=by
 have h:zQ P fn st=some (.uniq ee sz n cs):=by
  unfold zQ;rw[hr];simp only[h1,h2];rw[if_pos hm]
 rcases he with rfl|rfl<;>exact h
theorem aBB {P:Program} {fn:Func} {st:St} {e:Ex} {r:ResultVar} {s g ee sz n k:Nat} {cs:List AV} (he:e=.ret∨e=.normal) (hr:fn.results.toList=[r]) (h1:jR P st r=some (.vw s g 0 k)) (h2:st.heap s g=some (.row ee sz n cs)) (hk:k≤n) (hl:cs.length=n * sz) (hm:∀c∈cs,fF c) :
 l9 P fn (e,st)=some (.uniq ee sz k (cs.take (k * sz))):=by
 have h:zQ P fn st=some (.uniq ee sz k (cs.take (k * sz))):=by
  unfold zQ;rw[hr];simp only[h1,h2];rw[if_pos ⟨hk,hl,hm⟩]
 rcases he with rfl|rfl<;>exact h
theorem iT (e sz n:Nat) (cs rest:List AV):(St.sN e sz n cs rest).env 0=.own 0 0:=rfl
theorem lP (e sz n:Nat) (cs rest:List AV) (t:Nat):(St.sN e sz n cs rest).env (t+1)=(rest[t]?).getD (.v undef):=rfl
theorem iU (e sz n:Nat) (cs rest:List AV):(St.sN e sz n cs rest).heap 0 0=some (.row e sz n cs):=rfl
theorem jW (e sz n:Nat) (cs rest:List AV):(St.sN e sz n cs rest).aO 0=1:=rfl
theorem lR (e sz n:Nat) (cs rest:List AV) (s:Nat) (h:s≠0):(St.sN e sz n cs rest).aO s=0:=if_neg h
end Go.Ab
end
section
namespace Go.Ab
open Classical
variable [Ext]
theorem Nh {P:Program} {a:Code} {st:St} {β:Type} {k:Ex × St→Option β} {R:β→Prop} (Q:Ex→St→Prop) (h:∃e st',yB P a st=some (e,st')∧Q e st')
 (rest:∀e st',Q e st'→∃r,k (e,st')=some r∧R r):∃r,cH (yB P a st) k=some r∧R r:=by
 obtain⟨e,s1,h1,h2⟩:=h
 rw[h1];exact rest e s1 h2
theorem Ip {P:Program} {bi:Bool} {a:Code} {st:St} {β:Type} {k:Ex × St→Option β} {R:β→Prop} (Q:Ex→St→Prop) (h:∃e st',vT P bi a st=some (e,st')∧Q e st')
 (rest:∀e st',Q e st'→∃r,k (e,st')=some r∧R r):∃r,cH (vT P bi a st) k=some r∧R r:=by
 obtain⟨e,s1,h1,h2⟩:=h
 rw[h1];exact rest e s1 h2
theorem lM {β:Type} {x:Option β} {v:β} (h:∃r,x=some r∧r=v):x=some v:=by
 obtain⟨r,h,rfl⟩:=h;exact h
theorem PB {P:Program} {id:Nat} {ops:Array Oper} {d:Bool} {st:St} :
 vT P true (.region id ops d) st=cH (lU P true (aD P) (Cg P) ops ops.toList st) fun s=>if pP ops s (Ext.dyn id ops.size (rM ops)) then some (.normal,s) else none:=OL rfl
theorem VA (o:Oper) (l:List Oper):rM (o :: l).toArray=o.dst:=by simp[rM]
section
variable {P:Program} {call:Nat→List AV→Option AV} {inl:Nat→List AV→St→Option (AV × St)} {ops:Array Oper} {st:St} {d:Option Nat} {T:Nat} {pos:String} {eG:Array Edge} {g:Option (Nat × Bool)}
theorem aCr (x:Operand):gK P true call inl ops ⟨d,.move x,T,pos,eG,g⟩ st=cB P call ops ⟨d,.move x,T,pos,eG,g⟩ st:=rfl
theorem B8 (x:Operand):gK P true call inl ops ⟨d,.assign x,T,pos,eG,g⟩ st=cB P call ops ⟨d,.assign x,T,pos,eG,g⟩ st:=rfl
theorem aCs (x y z:Operand):gK P true call inl ops ⟨d,.pick x y z,T,pos,eG,g⟩ st=cB P call ops ⟨d,.pick x y z,T,pos,eG,g⟩ st:=rfl
theorem W9 (S:Nat):gK P true call inl ops ⟨d,.alloc S,T,pos,eG,g⟩ st=cB P call ops ⟨d,.alloc S,T,pos,eG,g⟩ st:=rfl
theorem aFT (S:Nat) (x:Operand):gK P true call inl ops ⟨d,.box S x,T,pos,eG,g⟩ st=cB P call ops ⟨d,.box S x,T,pos,eG,g⟩ st:=rfl
theorem X0 (S:Nat) (x:Array (Nat × Operand)):gK P true call inl ops ⟨d,.build S x,T,pos,eG,g⟩ st=cB P call ops ⟨d,.build S x,T,pos,eG,g⟩ st:=rfl
theorem BM (S n:Nat) (x:Array (Nat × Operand)):gK P true call inl ops ⟨d,.buildSlice S n x,T,pos,eG,g⟩ st=cB P call ops ⟨d,.buildSlice S n x,T,pos,eG,g⟩ st:=rfl
theorem HU (S:Nat) (x y:Operand):gK P true call inl ops ⟨d,.makeSlice S x y,T,pos,eG,g⟩ st=cB P call ops ⟨d,.makeSlice S x y,T,pos,eG,g⟩ st:=rfl
theorem PC (f:Fn) (x y:Array Operand):gK P true call inl ops ⟨d,.makeFunc f x y,T,pos,eG,g⟩ st=cB P call ops ⟨d,.makeFunc f x y,T,pos,eG,g⟩ st:=rfl
theorem aCt (S:Nat) (x:Operand):gK P true call inl ops ⟨d,.load S x,T,pos,eG,g⟩ st=cB P call ops ⟨d,.load S x,T,pos,eG,g⟩ st:=rfl
theorem X3 (S:Nat) (x y:Operand):gK P true call inl ops ⟨d,.store S x y,T,pos,eG,g⟩ st=cB P call ops ⟨d,.store S x y,T,pos,eG,g⟩ st:=rfl
theorem X4 (o:BinOp) (S S':Nat) (x y:Operand):gK P true call inl ops ⟨d,.binOp o S x y S',T,pos,eG,g⟩ st=cB P call ops ⟨d,.binOp o S x y S',T,pos,eG,g⟩ st:=rfl
theorem aCu (o:UnOp) (S:Nat) (x:Operand):gK P true call inl ops ⟨d,.unOp o S x,T,pos,eG,g⟩ st=cB P call ops ⟨d,.unOp o S x,T,pos,eG,g⟩ st:=rfl
theorem HV (S f:Nat) (x:Operand):gK P true call inl ops ⟨d,.fieldAddr S x f,T,pos,eG,g⟩ st=cB P call ops ⟨d,.fieldAddr S x f,T,pos,eG,g⟩ st:=rfl
theorem X5 (S f:Nat) (x:Operand):gK P true call inl ops ⟨d,.field S x f,T,pos,eG,g⟩ st=cB P call ops ⟨d,.field S x f,T,pos,eG,g⟩ st:=rfl
theorem HW (S:Nat) (x y:Operand):gK P true call inl ops ⟨d,.indexAddr S x y,T,pos,eG,g⟩ st=cB P call ops ⟨d,.indexAddr S x y,T,pos,eG,g⟩ st:=rfl
theorem VB (S S':Nat) (x:Operand):gK P true call inl ops ⟨d,.convert S S' x,T,pos,eG,g⟩ st=cB P call ops ⟨d,.convert S S' x,T,pos,eG,g⟩ st:=rfl
theorem VC (x:Operand) (i:Nat):gK P true call inl ops ⟨d,.extract x i,T,pos,eG,g⟩ st=cB P call ops ⟨d,.extract x i,T,pos,eG,g⟩ st:=rfl
theorem X6 (S:Nat) (x:Operand) (a b c:Option Operand):gK P true call inl ops ⟨d,.slice S x a b c,T,pos,eG,g⟩ st=cB P call ops ⟨d,.slice S x a b c,T,pos,eG,g⟩ st:=rfl
theorem VD (b:Builtin) (x:Array Operand) (y:Array Nat):gK P true call inl ops ⟨d,.call ⟨.builtin b,x,y⟩,T,pos,eG,g⟩ st=cB P call ops ⟨d,.call ⟨.builtin b,x,y⟩,T,pos,eG,g⟩ st:=rfl
theorem aFU (t:Nat) (x:Array Operand) (y:Array Nat):gK P true call inl ops ⟨d,.call ⟨.value (.tmp t),x,y⟩,T,pos,eG,g⟩ st=cB P call ops ⟨d,.call ⟨.value (.tmp t),x,y⟩,T,pos,eG,g⟩ st:=rfl
theorem aCv (f:Nat) (x:Array Operand) (y:Array Nat) (h:Ext.inl f d=false):gK P true call inl ops ⟨d,.call ⟨.value (.func f),x,y⟩,T,pos,eG,g⟩ st=cB P call ops ⟨d,.call ⟨.value (.func f),x,y⟩,T,pos,eG,g⟩ st:=W0 (by unfold Er;simp[h])
theorem SW (f:Nat) (x:Array Operand) (y:Array Nat) (h:Ext.inl f d=true):gK P true call inl ops ⟨d,.call ⟨.value (.func f),x,y⟩,T,pos,eG,none⟩ st=cH (inl f (x.toList.map st.ev) st) fun r=>some ((st.back r.2).put d r.1):=B5 h
theorem aCw (S a:Nat):gO ⟨d,.load S (.tmp a),T,pos,eG,none⟩=some [a]:=rfl
theorem X7 (S a:Nat) (x:Operand):gO ⟨d,.store S (.tmp a) x,T,pos,eG,none⟩=some [a]:=rfl
theorem X8 (S a:Nat) (x:Operand):gO ⟨d,.indexAddr S (.tmp a) x,T,pos,eG,none⟩=some [a]:=rfl
theorem X9 (S a:Nat) (x y z:Option Operand):gO ⟨d,.slice S (.tmp a) x y z,T,pos,eG,none⟩=some [a]:=rfl
theorem aFV (a:Nat) (y:Array Nat):gO ⟨d,.call ⟨.builtin .len,#[.tmp a],y⟩,T,pos,eG,none⟩=some [a]:=rfl
theorem B9 (a b:Nat) (y:Array Nat):gO ⟨d,.call ⟨.builtin .append,#[.tmp a,.tmp b],y⟩,T,pos,eG,none⟩=some [a,b]:=rfl
theorem Y0 (f a:Nat) (b:Operand) (y:Array Nat) (h:Ext.mv f=true):gO ⟨d,.call ⟨.value (.func f),#[.tmp a,b],y⟩,T,pos,eG,none⟩=some [a]:=by simp[gO,h]
end
end Go.Ab
end
