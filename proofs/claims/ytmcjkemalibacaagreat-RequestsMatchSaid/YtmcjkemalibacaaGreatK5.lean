/-
  Part 5 of the proof: an evaluator of programs, its soundness, and what functions of this program compute.
-/
import Derived.Test.YtmcjkemalibacaaGreatK4
set_option linter.all false
set_option maxRecDepth 20000
set_option maxHeartbeats 40000000
section
namespace Go.Ab
open Classical
variable [Ext]
def rd (cs:List AV) (o k:Nat):List AV:=(cs.drop o).take k
def onB {α:Type} (x:AV) (k:Bool→Option α):Option α :=
 match x with
 | .v (.bool b)=>k b
 | _=>none
section
variable (P:Program)
def fD (T:Nat) (cs:List AV) (o:Nat):Option AV :=
 match fK P T with
 | some (true,k)=>if 0<k∧k≤cs.length-o then some (.agg (rd cs o k)) else none
 | some (false,_)=>cs[o]?
 | none=>none
def Fe (st:St) (T:Nat) (x:AV):Option AV :=
 match x with
 | .ip cs o=>fD P T cs o
 | .ptr s g o =>
   match st.heap s g with
   | some (.cells cs)=>fD P T cs o
   | some (.row _ _ _ cs)=>fD P T cs o
   | _=>none
 | _=>none
theorem HD (T:Nat) (cs:List AV) (o:Nat):xE P T (cs.drop o)=fD P T cs o:=by
 unfold xE fD;cases fK P T with
 | none=>rfl
 | some bk =>
   obtain⟨b,k⟩:=bk
   cases b
   ·simp
   ·simp[rd]
theorem Oc (st:St) (T:Nat) (x:AV):cD (qC st x) (xE P T)=Fe P st T x:=by
 cases x<;>simp only[qC,cD,Fe,HD]
 split<;>rename_i h
 ·split at h
  ·rename_i h';cases h;rw[h'];exact HD P T _ _
  ·rename_i h';cases h;rw[h'];exact HD P T _ _
  ·cases h
 ·split at h
  ·cases h
  ·cases h
  ·rename_i h1 h2;split<;>first|rfl|(rename_i h';first|exact absurd h' (h1 _)|exact absurd h' (h2 _ _ _ _))
def Un (st:St) (T:Nat) (a x:AV):Option St:=(pO P st T a x).map fun u=>st.jM u.1 u.2.1 (some u.2.2)
variable {P}
variable {call:Nat→List AV→Option AV} {ops:Array Oper} {st:St} {d:Option Nat} {T:Nat} {pos:String} {eN:Array Edge}
@[congr] theorem aIa {α β:Type} {x y:Option α} {f:α→Option β} (h:x=y):cD x f=cD y f:=by rw[h]
@[congr] theorem aIb {α:Type} {x y:AV} {k:Bool→Option α} (h:x=y):onB x k=onB y k:=by rw[h]
@[congr] theorem aEs {l:List Oper} {s t:St} (h:s=t):Mb P call ops l s=Mb P call ops l t:=by rw[h]
@[congr] theorem aFU {o:Oper} {s t:St} (h:s=t):bZ P call ops o s=bZ P call ops o t:=by rw[h]
@[congr] theorem aIc {c:Code} {s t:St} (h:s=t):yH P c s=yH P c t:=by rw[h]
theorem cU {α β:Type} (a:α) (f:α→Option β):cD (some a) f=f a:=rfl
theorem LD {α β:Type} (f:α→Option β):cD none f=none:=rfl
theorem T9 {α:Type} (b:Bool) (k:Bool→Option α):onB (.v (.bool b)) k=k b:=rfl
theorem z8:Mb P call ops [] st=some st:=rfl
theorem UF (o:Oper) (l:List Oper):Mb P call ops (o :: l) st=cD (bZ P call ops o st) (Mb P call ops l):=rfl
theorem dT (op:Op):bZ P call ops ⟨d,op,T,pos,eN,none⟩ st=(dI P call ⟨d,op,T,pos,eN,none⟩ st).map fun e=>e.apply st:=rfl
theorem aB3 (x:Operand):bZ P call ops ⟨d,.move x,T,pos,eN,none⟩ st=some (st.put d (st.ev x)):=rfl
theorem z9 (x:Operand):bZ P call ops ⟨d,.assign x,T,pos,eN,none⟩ st=some (st.put d (st.ev x)):=rfl
theorem aB4 (c a b:Operand):bZ P call ops ⟨d,.pick c a b,T,pos,eN,none⟩ st=onB (st.ev c) fun t=>some (st.put d (if t=true then st.ev a else st.ev b)):=by
 rw[dT];simp only[dI,iS];cases st.ev c<;>try rfl
 rename_i x;cases x<;>rfl
theorem U0 (op:BinOp) (S:Nat) (x y:Operand) (yT:Nat):bZ P call ops ⟨d,.binOp op S x y yT,T,pos,eN,none⟩ st=cD (fS P op S (st.ev x) (st.ev y)) fun v=>some (st.put d v):=by
 rw[dT];simp only[dI,iS];cases fS P op S (st.ev x) (st.ev y)<;>rfl
theorem aB5 (op:UnOp) (S:Nat) (x:Operand):bZ P call ops ⟨d,.unOp op S x,T,pos,eN,none⟩ st=cD (unA op (st.ev x)) fun v=>some (st.put d v):=by
 rw[dT];simp only[dI,iS];cases unA op (st.ev x)<;>rfl
def NR (P:Program) (src dst:Nat) (x:AV):Option AV :=
 match x,intKind P dst,intKind P src with
 | .v (.int _ n),some k,some _=>some (.v (.int k (k.wrap n)))
 | _,_,_=>none
theorem UG (src dst:Nat) (x:Operand):bZ P call ops ⟨d,.convert src dst x,T,pos,eN,none⟩ st=cD (NR P src dst (st.ev x)) fun v=>some (st.put d v):=by
 rw[dT];simp only[dI,iS];show Option.map _ (Option.map _ (NR P src dst (st.ev x)))=_
 cases NR P src dst (st.ev x)<;>rfl
theorem U1 (S:Nat) (x:Operand) (f:Nat):bZ P call ops ⟨d,.field S x f,T,pos,eN,none⟩ st=cD (Kf P S f (st.ev x)) fun v=>some (st.put d v):=by
 rw[dT];simp only[dI,iS];cases Kf P S f (st.ev x)<;>rfl
theorem UH {S f off k:Nat} {cs:List AV} (h:fieldInfo P S f=some (off,false,k)):Kf P S f (.agg cs)=cs[off]?:=by
 simp only[Kf,h]
theorem HE (S:Nat) (x:Operand) (f:Nat):bZ P call ops ⟨d,.fieldAddr S x f,T,pos,eN,none⟩ st=cD (aV P S f) fun k=>cD (uR (st.ev x) k) fun v=>some (st.put d v):=by
 rw[dT];simp only[dI,iS];cases aV P S f with
 | none=>rfl
 | some k =>
   simp only[cD];cases uR (st.ev x) k<;>rfl
theorem HF (S:Nat) (x i:Operand):bZ P call ops ⟨d,.indexAddr S x i,T,pos,eN,none⟩ st=cD (bD P st S (st.ev x) (st.ev i)) fun v=>some (st.put d v):=by
 rw[dT];simp only[dI,iS];cases bD P st S (st.ev x) (st.ev i)<;>rfl
theorem aB6 (S:Nat) (x:Operand):bZ P call ops ⟨d,.load S x,T,pos,eN,none⟩ st=cD (Fe P st S (st.ev x)) fun v=>some (st.put d v):=by
 rw[dT];simp only[dI,iS,Oc];cases Fe P st S (st.ev x)<;>rfl
def eA (x:AV) (i:Nat):Option AV :=
 match x with
 | .eE vs=>vs[i]?
 | _=>none
theorem UI (t:Operand) (i:Nat):bZ P call ops ⟨d,.extract t i,T,pos,eN,none⟩ st=cD (eA (st.ev t) i) fun v=>some (st.put d v):=by
 rw[dT];simp only[dI,iS];show Option.map _ (Option.map _ (eA (st.ev t) i))=_
 cases eA (st.ev t) i<;>rfl
theorem U2 (S:Nat) (parts:Array (Nat × Operand)):bZ P call ops ⟨d,.build S parts,T,pos,eN,none⟩ st=cD (iR P st S parts.toList) fun v=>some (st.put d v):=by
 rw[dT];simp only[dI,iS];cases iR P st S parts.toList<;>rfl
theorem U3 (S:Nat) (x:Operand) (lo hi:Option Operand):bZ P call ops ⟨d,.slice S x lo hi none,T,pos,eN,none⟩ st=cD (cW P st S (st.ev x) lo hi) fun v=>some (st.put d v):=by
 rw[dT];simp only[dI,iS];cases cW P st S (st.ev x) lo hi<;>rfl
theorem U4 (S d:Nat):bZ P call ops ⟨some d,.alloc S,T,pos,eN,none⟩ st=cD (dZ P S) fun z=>some ((st.new d (.cells (z.map .v))).put (some d) (.ptr d (st.aQ d) 0)):=by
 rw[dT];simp only[dI,cD];cases dZ P S with
 | none=>rfl
 | some z=>simp only[Option.map_some,lF]
theorem aFV (S d:Nat) (x:Operand):bZ P call ops ⟨some d,.box S x,T,pos,eN,none⟩ st=if (st.ev x).jL=true then some ((st.new d (.cells (st.ev x).cells)).put (some d) (.ptr d (st.aQ d) 0)) else none:=by
 rw[dT];simp only[dI,cD];split
 ·simp only[Option.map_some,lF]
 ·rfl
theorem U5 (S:Nat) (x y:Operand):bZ P call ops ⟨d,.store S x y,T,pos,eN,none⟩ st=cD (Un P st S (st.ev x) (st.ev y)) fun s=>some (s.put d (.v undef)):=by
 rw[dT];simp only[dI,Un];cases pO P st S (st.ev x) (st.ev y)<;>rfl
theorem aB7 (g:Nat) (args:Array Operand) (sZ:Array Nat) (h:Ext.mv g=false) (h2:Ext.eat g d=false):bZ P call ops ⟨d,.call ⟨.value (.func g),args,sZ⟩,T,pos,eN,none⟩ st=cD (aN call g (args.toList.map st.ev) st d) fun e=>some (e.apply st):=by
 rw[dT];simp only[dI,iE,nM,h,h2,Bool.false_eq_true,if_false];cases aN call g (args.toList.map st.ev) st d<;>rfl
theorem U6 (g:Nat) (args:Array Operand) (sZ:Array Nat) (h:Ext.mv g=true):bZ P call ops ⟨d,.call ⟨.value (.func g),args,sZ⟩,T,pos,eN,none⟩ st=cD (lH call g (args.toList.map st.ev) st d) fun e=>some (e.apply st):=by
 rw[dT];simp only[dI,iE,nM,h,if_true];cases lH call g (args.toList.map st.ev) st d<;>rfl
theorem UJ (g:Nat) (args:Array Operand) (sZ:Array Nat) (h:Ext.mv g=false) (h2:Ext.eat g d=true):bZ P call ops ⟨d,.call ⟨.value (.func g),args,sZ⟩,T,pos,eN,none⟩ st=cD (fC call g (args.toList.map st.ev) st d) fun e=>some (e.apply st):=by
 rw[dT];simp only[dI,iE,nM,h,h2,Bool.false_eq_true,if_false,if_true];cases fC call g (args.toList.map st.ev) st d<;>rfl
theorem U7 (t:Nat) (args:Array Operand) (sZ:Array Nat) {g:Nat} {oR:List AV} (h:st.env t=.Ev g oR):bZ P call ops ⟨d,.call ⟨.value (.tmp t),args,sZ⟩,T,pos,eN,none⟩ st=cD (aN call g (args.toList.map st.ev++oR) st d) fun e=>some (e.apply st):=by
 rw[dT];simp only[dI,iE,nM,St.ev,h,EG];show Option.map _ (aN call g (args.toList.map st.ev++oR) st d)=cD (aN call g (args.toList.map st.ev++oR) st d) _
 cases aN call g (args.toList.map st.ev++oR) st d<;>rfl
theorem A0 (S:Nat) (x:Operand) (lo:Option Operand) (hi mx:Operand):bZ P call ops ⟨d,.slice S x lo (some hi) (some mx),T,pos,eN,none⟩ st=cD (vN P st S (st.ev x) lo hi mx) fun v=>some (st.put d v):=by
 rw[dT];simp only[dI,iS];cases vN P st S (st.ev x) lo hi mx<;>rfl
theorem A1 (S:Nat) (x i:Operand) (ok:Bool):bZ P call ops ⟨d,.lookup S x i ok,T,pos,eN,none⟩ st=cD (Rs P st S (st.ev x) (st.ev i) ok) fun v=>some (st.put d v):=by
 rw[dT];simp only[dI,iS];cases Rs P st S (st.ev x) (st.ev i) ok<;>rfl
theorem UK (S d:Nat):bZ P call ops ⟨some d,.makeMap S none,T,pos,eN,none⟩ st=some ((st.new d (.map [])).put (some d) (.mp d (st.aQ d))):=by
 rw[dT];simp only[dI,cD,Option.map_some,lF]
theorem HG (S:Nat) (m x y:Operand):bZ P call ops ⟨d,.mapUpdate S m x y,T,pos,eN,none⟩ st=cD (tJ P st S (st.ev m) (st.ev x) (st.ev y)) fun u=>some ((st.jM u.1 u.2.1 (some u.2.2)).put d (.v undef)):=by
 rw[dT];simp only[dI];cases tJ P st S (st.ev m) (st.ev x) (st.ev y)<;>rfl
theorem NS (g:Nat) (oR:Array Operand):bZ P call ops ⟨d,.makeFunc (.func g) #[] oR,T,pos,eN,none⟩ st=some (st.put d (.Ev g (oR.toList.map st.ev))):=by
 rw[dT];simp only[dI,iS,if_true,Option.map_some];rfl
theorem kU (S n d:Nat) (parts:Array (Nat × Operand)):bZ P call ops ⟨some d,.buildSlice S n parts,T,pos,eN,none⟩ st=cD (dL P S) fun t=>cD (dZ P t.1) fun z =>
 if (0<n∨parts=#[])∧n * t.2.1≤2 ^ 24∧(parts.toList.all fun p=>(st.ev p.2).jL)=true then
  cD (gM (fun i=>some (i * t.2.1,t.2.1)) ((List.range n).flatMap fun _=>z.map .v) (parts.toList.map fun p=>(p.1,st.ev p.2))) fun cs =>
   some ((st.new d (.row t.1 t.2.1 n cs)).put (some d) (.own d (st.aQ d)))
 else none:=by
 rw[dT];simp only[dI,cD];cases dL P S with
 | none=>rfl
 | some t =>
   simp only
   cases dZ P t.1 with
   | none=>rfl
   | some z =>
     simp only
     split
     ·cases gM (fun i=>some (i * t.2.1,t.2.1)) ((List.range n).flatMap fun _=>z.map .v) (parts.toList.map fun p=>(p.1,st.ev p.2)) with
      | none=>rfl
      | some cs=>simp only[Option.map_some,lF]
     ·rfl
theorem HH (S d:Nat) (l c:Operand) {n:Nat} (hl:st.ev l=.v (.int .i64 n)) (hc:st.ev c=.v (.int .i64 n)):bZ P call ops ⟨some d,.makeSlice S l c,T,pos,eN,none⟩ st=cD (dL P S) fun t=>cD (dZ P t.1) fun z =>
 if (n:Int) * t.2.2≤140737488355328∧(n:Int)≤maxLen then some ((st.new d (.row t.1 t.2.1 n ((List.range n).flatMap fun _=>z.map .v))).put (some d) (.own d (st.aQ d))) else none:=by
 rw[dT];simp only[dI,cD,hl,hc];cases dL P S with
 | none=>rfl
 | some t =>
   simp only
   cases dZ P t.1 with
   | none=>rfl
   | some z =>
     simp only[Int.toNat_natCast,Int.natCast_nonneg,true_and];split
     ·simp only[Option.map_some,lF]
     ·rfl
theorem aFW (x:Operand) (S:Nat) (sZ:Array Nat) (h:sZ=#[S]):bZ P call ops ⟨d,.call ⟨.builtin .len,#[x],sZ⟩,T,pos,eN,none⟩ st=cD (dL P S) fun _=>cD (aR st (st.ev x)) fun nc=>some (st.put d (.v (.int .i64 nc.1))):=by
 subst h;rw[dT];simp only[dI,iE];cases dL P S with
 | none=>rfl
 | some t=>cases aR st (st.ev x) with
   | none=>rfl
   | some nc=>cases nc;rfl
theorem aB8 (x:Operand) (S:Nat):bZ P call ops ⟨d,.call ⟨.builtin .len,#[x],#[S]⟩,T,pos,eN,none⟩ st=cD (dL P S) fun _=>cD (aR st (st.ev x)) fun nc=>some (st.put d (.v (.int .i64 nc.1))):=aFW x S #[S] rfl
theorem EB (s x:Operand) (S d:Nat) (sZ:Array Nat) (h:sZ=#[S,S]) (hv:Ext.va S d=false) (hp:¬(Ext.pa S d=true∧Gd P st S (st.ev s) (st.ev x))):bZ P call ops ⟨some d,.call ⟨.builtin .append,#[s,x],sZ⟩,T,pos,eN,none⟩ st=cD (dC P st S (st.ev s) (st.ev x)) fun ur =>
 some (((match ur.1 with|some p=>st.jM p.1 p.2 none|none=>st).new d ur.2).put (some d) (.own d (st.aQ d))):=by
 subst h;rw[dT];simp only[dI,iE,cD,if_true,hv,Bool.false_eq_true,if_false];rw[if_neg hp];cases dC P st S (st.ev s) (st.ev x) with
 | none=>rfl
 | some ur =>
   obtain⟨u,r⟩:=ur
   cases u with
   | none=>simp only[Option.map_some,Option.map_none,lF]
   | some p=>simp only[Option.map_some,Qo]
theorem UL (s x:Operand) (S d:Nat) (hv:Ext.va S d=false) (hp:Ext.pa S d=false):bZ P call ops ⟨some d,.call ⟨.builtin .append,#[s,x],#[S,S]⟩,T,pos,eN,none⟩ st=cD (dC P st S (st.ev s) (st.ev x)) fun ur =>
 some (((match ur.1 with|some p=>st.jM p.1 p.2 none|none=>st).new d ur.2).put (some d) (.own d (st.aQ d))):=EB s x S d #[S,S] rfl hv (by rw[hp];exact fun h=>absurd h.1 (by simp))
theorem U8 (s x:Operand) (S d:Nat) (hv:Ext.va S d=false) (hp:Ext.pa S d=true) (hn:¬(st.ev s=.v (.slice none 0 0)∧(aR st (st.ev x)).map Prod.fst=some 0)):bZ P call ops ⟨some d,.call ⟨.builtin .append,#[s,x],#[S,S]⟩,T,pos,eN,none⟩ st=cD (dC P st S (st.ev s) (st.ev x)) fun ur =>
 some (((match ur.1 with|some p=>st.jM p.1 p.2 none|none=>st).new d ur.2).put (some d) (.own d (st.aQ d))):=EB s x S d #[S,S] rfl hv (fun h=>hn ⟨h.2.1,h.2.2.2⟩)
theorem U9 (s x:Operand) (S d:Nat) (hv:Ext.va S d=false) (hp:Ext.pa S d=true) (hi:(dL P S).isSome=true) (h1:st.ev s=.v (.slice none 0 0)) (h2:(aR st (st.ev x)).map Prod.fst=some 0):bZ P call ops ⟨some d,.call ⟨.builtin .append,#[s,x],#[S,S]⟩,T,pos,eN,none⟩ st=some (st.put (some d) (.v (.slice none 0 0))):=by
 rw[dT];simp only[dI,iE,cD,if_true,hv,Bool.false_eq_true,if_false];rw[if_pos ⟨hp,h1,hi,h2⟩];simp only[qT.apply];rfl
theorem TC (s x:Operand) (S d:Nat) (hv:Ext.va S d=true):bZ P call ops ⟨some d,.call ⟨.builtin .append,#[s,x],#[S,S]⟩,T,pos,eN,none⟩ st=cD (kM P st S (st.ev s) (st.ev x)) fun u =>
 some ((st.jM u.1 u.2.1 (some u.2.2.1)).put (some d) (.vw u.1 u.2.1 0 u.2.2.2)):=by
 rw[dT];simp only[dI,iE,cD,if_true,hv];cases kM P st S (st.ev s) (st.ev x) with
 | none=>rfl
 | some u=>rfl
theorem O7 (x:Operand) (S:Nat):bZ P call ops ⟨d,.call ⟨.builtin .clear,#[x],#[S]⟩,T,pos,eN,none⟩ st=cD (tK P st S (st.ev x)) fun u =>
 some ((match u with|some p=>st.jM p.1 p.2.1 (some p.2.2)|none=>st).put d (.eE [])):=by
 rw[dT];simp only[dI,iE];cases tK P st S (st.ev x) with
 | none=>rfl
 | some u=>cases u<;>rfl
theorem V0 (x:Value):st.ev (.const x)=.v x:=rfl
theorem aFX (t:Nat):st.ev (.tmp t)=st.env t:=rfl
theorem aB9 (t d:Nat) (x:AV):(st.put (some d) x).env t=if t=d then x else st.env t:=rfl
theorem HI (t:Nat) (x:AV):(st.put none x).env t=st.env t:=rfl
theorem aCa (t d:Nat) (e:nD):(st.new d e).env t=st.env t:=rfl
theorem V1 (t s g:Nat) (e:Option nD):(st.jM s g e).env t=st.env t:=rfl
theorem aCb (t:Nat) (d:Option Nat) (x:AV):(st.put d x).aQ t=st.aQ t:=by cases d<;>rfl
theorem aCc (t d:Nat) (e:nD):(st.new d e).aQ t=if t=d then st.aQ d+1 else st.aQ t:=rfl
theorem V5 (t s g:Nat) (e:Option nD):(st.jM s g e).aQ t=st.aQ t:=rfl
theorem V6 (s g:Nat) (d:Option Nat) (x:AV):(st.put d x).heap s g=st.heap s g:=by cases d<;>rfl
theorem V7 (s g d:Nat) (e:nD):(st.new d e).heap s g=if s=d∧g=st.aQ d then some e else st.heap s g:=rfl
theorem A2 (s g s0 g0:Nat) (e:Option nD):(st.jM s0 g0 e).heap s g=if s=s0∧g=g0 then e else st.heap s g:=rfl
theorem V8 (t:Nat) (xs:List AV):(St.init xs).env t=(xs[t]?).getD (.v undef):=rfl
theorem V9 (t:Nat) (xs:List AV):(St.init xs).aQ t=0:=rfl
theorem A3 (s g:Nat) (xs:List AV):(St.init xs).heap s g=none:=rfl
theorem W0 (x:AV):st.put none x=st:=rfl
theorem NT (d:Option Nat) (x:AV):({ dst:=d,val:=x }:qT).apply st=st.put d x:=rfl
theorem A4 (d:Option Nat) (x:AV) (n:Nat) (e:nD):({ dst:=d,val:=x,new:=some (n,[e])}:qT).apply st=(st.new n e).put d x:=lF d x n e
theorem A5 (d:Option Nat) (x:AV) (s g:Nat) (e:Option nD):({ dst:=d,val:=x,dJ:=some (s,g,e)}:qT).apply st=(st.jM s g e).put d x:=rfl
theorem HJ (d:Option Nat) (x:AV) (s g n:Nat) (z:Option nD) (e:nD):({ dst:=d,val:=x,dJ:=some (s,g,z),new:=some (n,[e])}:qT).apply st=((st.jM s g z).new n e).put d x:=Qo d x s g n z e
theorem bI {g:Nat} {args:List AV} {r:AV} (hf:∀x∈args,Flat x) (h:call g args=some r) (hr:Flat r):aN call g args st d=some { dst:=d,val:=r }:=by
 unfold aN;rw[if_pos hf,h];simp only[cD,iW,if_pos hr]
theorem jB {g:Nat} {args:List AV} {d e sz n:Nat} {cs:List AV} (hf:∀x∈args,Flat x) (h:call g args=some (.uniq e sz n cs)) :
 aN call g args st (some d)=some { dst:=some d,val:=.own d (st.aQ d),new:=some (d,[.row e sz n cs])}:=by
 unfold aN;rw[if_pos hf,h];have:¬Flat (.uniq e sz n cs):=by intro h;cases h
 simp only[cD,iW,if_neg this];rfl
end
end Go.Ab
end
section
namespace Go.Ab
open Classical
abbrev cM:=Vector Int 32
abbrev qX:=Vector Int 4
def rC (x:Int):List AV:=[.v (.int .u64 x)]
def pE (x:Int):List AV:=[.v (.int .i64 x)]
def uL (x:Bool):List AV:=[.v (.bool x)]
def aZ (r:cM):List AV:=r.toList.map fun x=>.v (.int .u8 x)
def gF (r:qX):List AV:=r.toList.map fun x=>.v (.int .u64 x)
@[simp] theorem aW (x:Int):(rC x).length=1:=rfl
@[simp] theorem bA (x:Int):(pE x).length=1:=rfl
@[simp] theorem gQ (x:Bool):(uL x).length=1:=rfl
@[simp] theorem aO (r:cM):(aZ r).length=32:=by simp[aZ]
@[simp] theorem dU (r:qX):(gF r).length=4:=by simp[gF]
theorem eC (x:Int):∀y∈rC x,Flat y:=by intro y hy;simp[rC] at hy;subst hy;exact .v _
theorem mF (x:Int):∀y∈pE x,Flat y:=by intro y hy;simp[pE] at hy;subst hy;exact .v _
theorem mJ (x:Bool):∀y∈uL x,Flat y:=by intro y hy;simp[uL] at hy;subst hy;exact .v _
theorem dP (x:cM):∀y∈aZ x,Flat y:=by intro y hy;obtain⟨z,_,rfl⟩:=List.mem_map.1 hy;exact .v _
theorem iJ (x:qX):∀y∈gF x,Flat y:=by intro y hy;obtain⟨z,_,rfl⟩:=List.mem_map.1 hy;exact .v _
theorem NU (x:Int):∀y∈rC x,fM y:=by intro y hy;simp[rC] at hy;subst hy;exact .v _
theorem W1 (x:Int):∀y∈pE x,fM y:=by intro y hy;simp[pE] at hy;subst hy;exact .v _
theorem A6 (x:cM):∀y∈aZ x,fM y:=by intro y hy;obtain⟨z,_,rfl⟩:=List.mem_map.1 hy;exact .v _
theorem Lh {α:Type} (c:α→List AV) (z:Nat) (hz:∀a,(c a).length=z):∀(l:List α) (i:Nat) (h:i<l.length),rd (l.flatMap c) (i * z) z=c l[i]
 | [],i,h=>by simp at h
 | a :: l,0,h=>by simp[rd,List.take_append,hz,List.take_of_length_le]
 | a :: l,i+1,h=>by
   have ih:=Lh c z hz l i (by simpa using h)
   simp only[List.flatMap_cons,List.getElem_cons_succ];rw[← ih];simp only[rd];rw[List.drop_append,List.drop_of_length_le (by rw[hz,Nat.succ_mul];omega),hz,Nat.succ_mul]
   simp
theorem oI (a b:cM):aZ a=aZ b↔a=b:=by
 constructor
 ·intro h;unfold aZ at h;have h2:a.toList=b.toList:=by
   have:=congrArg (List.map (fun x:AV=>match x with|.v (.int _ n)=>n|_=>0)) h
   simpa [List.map_map,Function.comp_def] using this
  exact Vector.toList_inj.1 h2
 ·intro h;rw[h]
theorem Qt (a b:qX):gF a=gF b↔a=b:=by
 constructor
 ·intro h;unfold gF at h;have h2:a.toList=b.toList:=by
   have:=congrArg (List.map (fun x:AV=>match x with|.v (.int _ n)=>n|_=>0)) h
   simpa [List.map_map,Function.comp_def] using this
  exact Vector.toList_inj.1 h2
 ·intro h;rw[h]
def dJ (cs:List AV) (o:Nat) (xs:List AV) (e:Nat):List AV:=cs.take o++xs++cs.drop e
section
variable {a b xs:List AV} {n o o' e e' k:Nat}
theorem bF (h:xs=b):a++xs=a++b:=by rw[h]
theorem En (h:xs=b):xs++a=b++a:=by rw[h]
theorem aY (h:o'=o+n) (ha:a.length=n):rd (a++b) o' k=rd b o k:=by
 subst h;subst ha;simp only[rd];rw[List.drop_append,List.drop_of_length_le (by omega),List.nil_append,show o+a.length-a.length=o by omega]
theorem gG (ha:a.length=n):rd (a++b) 0 n=a:=by
 subst ha;simp[rd]
theorem iV (ha:a.length=n):rd a 0 n=a:=by
 subst ha;simp[rd]
theorem pX (h:o+k≤a.length):rd (a++b) o k=rd a o k:=by
 simp only[rd];rw[List.drop_append,List.take_append,show o-a.length=0 by omega,show k-(a.drop o).length=0 by simp;omega]
 simp
theorem aH (h:o'=o+n) (ha:a.length=n):(a++b)[o']? = b[o]?:=by
 subst h;subst ha;rw[List.getElem?_append_right (by omega),show o+a.length-a.length=o by omega]
theorem eM (h:o<a.length):(a++b)[o]? = a[o]?:=List.getElem?_append_left h
theorem aD (h:o'=o+n) (h':e'=e+n) (ha:a.length=n):dJ (a++b) o' xs e'=a++dJ b o xs e:=by
 subst h;subst h';subst ha;simp only[dJ];rw[List.take_append,List.take_of_length_le (by omega),List.drop_append,List.drop_of_length_le (by omega),show o+a.length-a.length=o by omega,show e+a.length-a.length=e by omega]
 simp
theorem cB (ha:a.length=n):dJ (a++b) 0 xs n=xs++b:=by
 subst ha;simp[dJ]
theorem eH (ha:a.length=n):dJ a 0 xs n=xs:=by
 subst ha;simp[dJ]
theorem tY (h:o≤e∧e≤a.length):dJ (a++b) o xs e=dJ a o xs e++b:=by
 simp only[dJ];rw[List.take_append,List.drop_append,show o-a.length=0 by omega,show e-a.length=0 by omega]
 simp
end
theorem Cx (a b:Int):rC a=rC b↔a=b:=by simp[rC]
theorem tZ (a b:Int):pE a=pE b↔a=b:=by simp[pE]
theorem EC (a b:Bool):uL a=uL b↔a=b:=by simp[uL]
def dK:cM:=Vector.replicate 32 0
def ED:qX:=Vector.replicate 4 0
def sW:List Value:=List.replicate 32 (.int .u8 0)
def Yd:List Value:=List.replicate 4 (.int .u64 0)
theorem jG:sW.map AV.v=aZ dK:=by simp[sW,aZ,dK]
theorem jH:Yd.map AV.v=gF ED:=by simp[Yd,gF,ED]
def Ff:List Bool:=List.replicate 32 true
def XZ:List Bool:=List.replicate 4 true
theorem eP {l m:List Bool}:∀ {xs ys xs' ys':List AV},gY l xs ys→gY m xs' ys'→gY (l++m) (xs++xs') (ys++ys'):=by
 induction l with
 | nil=>intro xs ys xs' ys' h h';cases xs<;>cases ys<;>first|exact h'|exact h.elim
 | cons b l ih =>
   intro xs ys xs' ys' h h'
   cases b
   ·cases xs with
    | nil=>exact h.elim
    | cons x xs=>cases ys with
      | nil=>unfold gY at h;split at h<;>first|exact h.elim|simp_all
      | cons y ys =>
        unfold gY at h;split at h<;>simp_all [gY]
   ·cases xs with
    | nil=>exact h.elim
    | cons x xs=>cases ys with
      | nil=>unfold gY at h;split at h<;>first|exact h.elim|simp_all
      | cons y ys =>
        unfold gY at h;split at h<;>simp_all [gY]
theorem Li (k:IntKind):∀(a b:List Int),a.length=b.length→gY (List.replicate a.length true) (a.map fun x=>.v (.int k x)) (b.map fun x=>.v (.int k x))
 | [],[],_=>trivial
 | [],_ :: _,h=>by simp at h
 | _ :: _,[],h=>by simp at h
 | a :: l,b :: m,h=>⟨rfl,Li k l m (by simpa using h)⟩
theorem mL (a b:cM):gY Ff (aZ a) (aZ b):=by
 have:=Li .u8 a.toList b.toList (by simp)
 rw[Vector.length_toList] at this;exact this
theorem Lj (a b:qX):gY XZ (gF a) (gF b):=by
 have:=Li .u64 a.toList b.toList (by simp)
 rw[Vector.length_toList] at this;exact this
def NV (P:Program) (T:Nat):Option (List (Nat × Nat)) :=
 match P.underlying T with
 | some (.struct fs)=>if fs.all (fun f=>(P.info? f.type).isSome) then some (fs.toList.map fun f=>(f.offset,P.cellsOf f.type)) else none
 | _=>none
def NX (P:Program) (T:Nat):Option Nat :=
 match P.underlying T with
 | some (.array _ e)=>if (P.info? e).isSome then some (P.cellsOf e) else none
 | _=>none
theorem eY {P:Program} {T:Nat} {l:List (Nat × Nat)} (h:NV P T=some l):placeOf P T=some fun i=>l[i]?:=by
 unfold NV at h;unfold placeOf;split at h
 ·rename_i fs hu;split at h
  ·rename_i Ki;simp only[Option.some.injEq] at h;subst h;simp only[hu,Ki,if_true];congr 1
   funext i
   simp
  ·cases h
 ·cases h
theorem Sp {P:Program} {T k:Nat} (h:NX P T=some k):placeOf P T=some fun i=>some (i * k,k):=by
 unfold NX at h;unfold placeOf;split at h
 ·rename_i n e hu;split at h
  ·rename_i Ki;simp only[Option.some.injEq] at h;subst h;simp only[hu,Ki,if_true]
  ·cases h
 ·cases h
theorem iA {P:Program} {st:St} {T:Nat} {parts:List (Nat × Operand)} {z:List Value} {place:Nat→Option (Nat × Nat)} {c:List AV} (hz:dZ P T=some z) (hc:z.map AV.v=c) (hp:placeOf P T=some place) :
 iR P st T parts=if (parts.all fun p=>(st.ev p.2).jL)=true then (gM place c (parts.map fun p=>(p.1,st.ev p.2))).map .agg else none:=by
 simp only[iR,hz,hp,hc]
theorem KT (place:Nat→Option (Nat × Nat)) (c:List AV):gM place c []=some c:=rfl
theorem DA (place:Nat→Option (Nat × Nat)) (c:List AV) (i:Nat) (x:AV) (r:List (Nat × AV)):gM place c ((i,x) :: r)=cD (place i) fun os =>
 if x.cells.length=os.2∧os.1+os.2≤c.length then gM place (dJ c os.1 x.cells (os.1+os.2)) r else none:=by
 simp only[gM];cases place i<;>rfl
theorem qR {P:Program} {T:Nat} {l:List Bool} {xs ys:List AV} {p:Prop} [Decidable p] (hl:eX P 20 T=some l) (ha:cZ P T=true) (hg:P.eqGuardType P.depth T=false) (hf:gY l xs ys) (hp:xs=ys↔p) :
 uH P T xs ys=some (decide p):=by
 unfold uH;rw[hl];simp only[ha,hg,hf,and_self,if_true];congr 1
 rw[Bool.eq_iff_iff];simp[hp]
def sU (P:Program) (T:Nat):Option Nat :=
 match fK P T with
 | some (_,k)=>some k
 | none=>none
theorem A7 {P:Program} {st:St} {T s g o:Nat} {x:AV}:Un P st T (.ptr s g o) x=cD (sU P T) fun k=>if x.cells.length=k∧x.jL=true then
 (match st.heap s g with
  | some (.cells cs)=>if o+k≤cs.length then some (st.jM s g (some (.cells (dJ cs o x.cells (o+k))))) else none
  | some (.row e sz n cs)=>if o+k≤cs.length then some (st.jM s g (some (.row e sz n (dJ cs o x.cells (o+k))))) else none
  | _=>none) else none:=by
 simp only[Un,pO,sU];cases fK P T with
 | none=>rfl
 | some bk =>
   obtain⟨b,k⟩:=bk
   simp only[cD];split
   ·split
    ·rename_i h;simp only[h];split<;>rfl
    ·rename_i h;simp only[h];split<;>rfl
    ·rename_i h1 h2;split<;>rename_i h<;>first|rfl|exact absurd h (h1 _)|exact absurd h (h2 _ _ _ _)
   ·rfl
theorem NY (s:cM):rd (aZ s) 0 32=aZ s:=iV (aO _)
theorem NZ (s x:cM):dJ (aZ s) 0 (aZ x) 32=aZ x:=eH (aO _)
theorem OA (s:qX):rd (gF s) 0 4=gF s:=iV (dU _)
theorem OB (s x:qX):dJ (gF s) 0 (gF x) 4=gF x:=eH (dU _)
theorem wrap_i64 (x:Int) (h1:-9223372036854775808≤x) (h2:x≤9223372036854775807):IntKind.i64.wrap x=x:=by
 rw[IntKind.wrap_i64];omega
theorem mT (s g:Nat):¬Flat (.own s g):=by intro h;cases h
theorem Mp (s g o:Nat):¬Flat (.ptr s g o):=by intro h;cases h
theorem dX {st:St} {x:AV} (h:Flat x):fO st x=some x:=by unfold fO;rw[if_pos h]
theorem kK {st:St} {s g e sz n:Nat} {cs:List AV} (h:st.heap s g=some (.row e sz n cs)) (hf:∀c∈cs,Flat c):cY st (.own s g)=some (.sl n cs):=by
 unfold cY;rw[if_neg (mT s g)];simp only[h];rw[if_pos hf]
theorem cX {st:St} {x:AV} (h:Flat x):cY st x=some x:=by unfold cY;rw[if_pos h]
theorem W3 {st:St} {x:AV} (h:Flat x):wW st x=some x:=by unfold wW;rw[if_pos h]
theorem Rw {st:St}:∀ {cs:List AV},(∀c∈cs,Flat c)→cE (cs.map (wW st))=some cs
 | [],_=>rfl
 | c :: cs,h=>by
   rw[List.map_cons,W3 (h c (by simp))]
   have ih:=Rw (st:=st) (cs:=cs) fun d hd=>h d (List.mem_cons_of_mem _ hd)
   simp only[cE,ih,Option.map_some]
theorem P2 {st:St} {s g e sz n:Nat} {cs:List AV} (h:st.heap s g=some (.row e sz n cs)) (hf:∀c∈cs,Flat c):fO st (.own s g)=some (.sl n cs):=by
 unfold fO;rw[if_neg (mT s g)];exact kK h hf
section
variable [Ext]
theorem W4 {P:Program} {f:Nat} {fn:Func} {t:Nat} {st:St} {x:AV} {e:Ex} (hk:Ext.qB f=false) (he:e=.ret∨e=.normal) (hr:fn.results.toList=[.tmp t]) (hx:st.env t=x) (hf:Flat x):zU P f fn (e,st)=some x:=by
 have h1:jN P f fn st=some x:=by
  unfold jN;rw[hk,if_neg (by simp)]
  unfold vO;rw[hr];simp only[jW,cD,hx,Rt];cases hf<;>simp only[fO]<;>rw[if_pos]<;>constructor<;>assumption
 rcases he with rfl|rfl<;>exact h1
theorem A8 {P:Program} {f:Nat} {fn:Func} {t T:Nat} {st:St} {y x:AV} {e:Ex} (hk:Ext.qB f=false) (he:e=.ret∨e=.normal) (hr:fn.results.toList=[.cell t T]) (hy:st.env t=y) (hx:Fe P st T y=some x) (hf:Flat x):zU P f fn (e,st)=some x:=by
 have h1:jN P f fn st=some x:=by
  unfold jN;rw[hk,if_neg (by simp)]
  unfold vO;rw[hr];show cD (cD (qC st (st.env t)) (xE P T)) (Rt st)=some x
  rw[hy,Oc,hx];simp only[cD,Rt];cases hf<;>simp only[fO]<;>rw[if_pos]<;>constructor<;>assumption
 rcases he with rfl|rfl<;>exact h1
theorem Wf {P:Program} {f:Nat} {fn:Func} {t:Nat} {st:St} {e:Ex} {s g e' sz n:Nat} {cs:List AV} (hk:Ext.qB f=false) (he:e=.ret∨e=.normal) (hr:fn.results.toList=[.tmp t]) (hx:st.env t=.own s g) (hh:st.heap s g=some (.row e' sz n cs)) (hf:∀c∈cs,Flat c):zU P f fn (e,st)=some (.uniq e' sz n cs):=by
 have h1:jN P f fn st=some (.uniq e' sz n cs):=by
  unfold jN;rw[hk,if_neg (by simp)]
  unfold vO;rw[hr];simp only[jW,cD,hx,Rt,hh];rw[if_pos hf]
 rcases he with rfl|rfl<;>exact h1
theorem UM {P:Program} {f:Nat} {fn:Func} {t T:Nat} {st:St} {e:Ex} {z:AV} {cs:List AV} {y:AV} (hk:Ext.qB f=false) (he:e=.ret∨e=.normal) (hr:fn.results.toList=[.cell t T]) (hz:st.env t=z) (hx:Fe P st T z=some (.agg cs)) (hy:fO st (.agg cs)=some y):zU P f fn (e,st)=some y:=by
 have h1:jN P f fn st=some y:=by
  unfold jN;rw[hk,if_neg (by simp)]
  unfold vO;rw[hr];show cD (cD (qC st (st.env t)) (xE P T)) (Rt st)=some y
  rw[hz,Oc,hx];simp only[cD,Rt,hy]
 rcases he with rfl|rfl<;>exact h1
def bJ (P:Program) (st:St) (r:ResultVar):Option AV :=
 match r with
 | .tmp t=>some (st.env t)
 | .cell t T=>Fe P st T (st.env t)
theorem Ah (P:Program) (st:St) (r:ResultVar):jW P st r=bJ P st r:=by
 cases r with
 | tmp t=>rfl
 | cell t T=>exact Oc P st T _
theorem W5 {P:Program} {f:Nat} {fn:Func} {st:St} {e:Ex} {r1 r2:ResultVar} {x1 x2 y1 y2:AV} (hk:Ext.qB f=false) (he:e=.ret∨e=.normal) (hr:fn.results.toList=[r1,r2])
 (h1:bJ P st r1=some x1) (h2:bJ P st r2=some x2) (e1:fO st x1=some y1) (e2:fO st x2=some y2):zU P f fn (e,st)=some (.eE [y1,y2]):=by
 have h:jN P f fn st=some (.eE [y1,y2]):=by
  unfold jN;rw[hk,if_neg (by simp)]
  unfold vO;rw[hr];simp only[List.map_cons,List.map_nil,Ah,h1,h2,cD,Cv e1,Cv e2,cE,Option.map_some]
 rcases he with rfl|rfl<;>exact h
theorem A9 {P:Program} {f:Nat} {fn:Func} {st:St} {e:Ex} {r1 r2:ResultVar} {x1 x2 y1 y2:AV} (hk:Ext.qB f=false) (he:e=.ret∨e=.normal) (hr:fn.results.toList=[r1,r2])
 (h1:bJ P st r1=some x1) (h2:bJ P st r2=some x2) (e0:fO st x1=none) (e1:Mc st x1=some y1) (e2:fO st x2=some y2):zU P f fn (e,st)=some (.eE [y1,y2]):=by
 have Q2:Ca st x1=some y1:=(TM e0).trans e1
 have h:jN P f fn st=some (.eE [y1,y2]):=by
  unfold jN;rw[hk,if_neg (by simp)]
  unfold vO;rw[hr];simp only[List.map_cons,List.map_nil,Ah,h1,h2,cD,Q2,Cv e2,cE,Option.map_some]
 rcases he with rfl|rfl<;>exact h
theorem UN {P:Program} {f:Nat} {fn:Func} {st:St} {e:Ex} {r1 r2 r3:ResultVar} {x1 x2 x3 y1 y2 y3:AV} (hk:Ext.qB f=false) (he:e=.ret∨e=.normal) (hr:fn.results.toList=[r1,r2,r3])
 (h1:bJ P st r1=some x1) (h2:bJ P st r2=some x2) (h3:bJ P st r3=some x3) (e1:fO st x1=some y1) (e2:fO st x2=some y2) (e3:fO st x3=some y3):zU P f fn (e,st)=some (.eE [y1,y2,y3]):=by
 have h:jN P f fn st=some (.eE [y1,y2,y3]):=by
  unfold jN;rw[hk,if_neg (by simp)]
  unfold vO;rw[hr];simp only[List.map_cons,List.map_nil,Ah,h1,h2,h3,cD,Cv e1,Cv e2,Cv e3,cE,Option.map_some]
 rcases he with rfl|rfl<;>exact h
end
section
variable [Ext]
theorem B0 {P:Program} (c:Operand) (a b:Code) (st:St):yH P (.cond c a b) st=onB (st.ev c) fun t=>if t=true then yH P a st else yH P b st:=by
 cases h:st.ev c with
 | v x =>
   cases x with
   | bool t=>exact T7 P c a b st h
   | _ =>
     apply Option.ext
     intro r;rw[XY];constructor
     ·rintro⟨n,m,h'⟩
      cases m with
      | zero=>simp[uG] at h'
      | succ m=>simp[uG,h] at h'
     ·intro h';simp[onB] at h'
 | _ =>
   apply Option.ext
   intro r;rw[XY];constructor
   ·rintro⟨n,m,h'⟩
    cases m with
    | zero=>simp[uG] at h'
    | succ m=>simp[uG,h] at h'
   ·intro h';simp[onB] at h'
def YA (ops:Array Oper) (j:Nat):Option Nat:=(ops[j]?).bind (·.dst)
def UO {α:Type} (x:AV) (want:Bool) (y n:Option α):Option α :=
 match x with
 | .v (.bool b)=>if b=want then y else n
 | .v _=>n
 | _=>none
def onS {α:Type} (d:Option Nat) (k:Nat→Option α) (n:Option α):Option α :=
 match d with
 | some d=>k d
 | none=>n
@[congr] theorem aFY {α:Type} {x x':AV} {want:Bool} {y n:Option α} (h:x=x'):UO x want y n=UO x' want y n:=by rw[h]
@[congr] theorem aIe {α:Type} {d d':Option Nat} {k:Nat→Option α} {n:Option α} (h:d=d'):onS d k n=onS d' k n:=by rw[h]
theorem B4 {α:Type} (b:Bool) (y n:Option α):UO (.v (.bool b)) true y n=if b=true then y else n:=rfl
theorem UP {α:Type} (b:Bool) (y n:Option α):UO (.v (.bool b)) false y n=if b=false then y else n:=rfl
theorem UQ {α:Type} (w:Bool) (y n:Option α):UO (.v undef) w y n=n:=rfl
theorem W6 {α:Type} (d:Nat) (k:Nat→Option α) (n:Option α):onS (some d) k n=k d:=rfl
theorem B5 {P:Program} {call:Nat→List AV→Option AV} {ops:Array Oper} {st:St} {d:Option Nat} {T:Nat} {pos:String} {eN:Array Edge} (op:Op) (j:Nat) (want:Bool) :
 bZ P call ops ⟨d,op,T,pos,eN,some (j,want)⟩ st=onS (YA ops j) (fun s=>UO (st.env s) want (bZ P call ops ⟨d,op,T,pos,eN,none⟩ st) (some (st.put d (.v undef)))) (some (st.put d (.v undef))):=by
 simp only[bZ,gv,YA];cases (ops[j]?).bind (·.dst) with
 | none=>simp[onS]
 | some s =>
   simp only[onS];cases st.env s with
   | v x=>cases x<;>simp[UO,dI]<;>rename_i b<;>cases b<;>cases want<;>simp[dI]
   | _=>rfl
end
section
variable {P:Program} {T:Nat} {k k1:IntKind} {a b:Int}
theorem aCd:fS P .add T (.v (.int k a)) (.v (.int k b))=some (.v (.int k (k.wrap (a+b)))):=by simp[fS]
theorem aCe:fS P .sub T (.v (.int k a)) (.v (.int k b))=some (.v (.int k (k.wrap (a-b)))):=by simp[fS]
theorem aCf:fS P .mul T (.v (.int k a)) (.v (.int k b))=some (.v (.int k (k.wrap (a * b)))):=by simp[fS]
theorem aCg:fS P .and T (.v (.int k a)) (.v (.int k b))=some (.v (.int k (k.wrap (BitVec.ofInt k.bits a &&& BitVec.ofInt k.bits b).toNat))):=by simp[fS]
theorem aCh:fS P .eql T (.v (.int k a)) (.v (.int k b))=some (.v (.bool (a == b))):=by simp[fS]
theorem aCi:fS P .neq T (.v (.int k a)) (.v (.int k b))=some (.v (.bool (a != b))):=by simp[fS]
theorem aCj:fS P .lss T (.v (.int k a)) (.v (.int k b))=some (.v (.bool (decide (a<b)))):=by simp[fS]
theorem aCk:fS P .leq T (.v (.int k a)) (.v (.int k b))=some (.v (.bool (decide (a≤b)))):=by simp[fS]
theorem aCl:fS P .gtr T (.v (.int k a)) (.v (.int k b))=some (.v (.bool (decide (a > b)))):=by simp[fS]
theorem aCm:fS P .geq T (.v (.int k a)) (.v (.int k b))=some (.v (.bool (decide (a≥b)))):=by simp[fS]
theorem aCn (h:b≠0):fS P .quo T (.v (.int k a)) (.v (.int k b))=some (.v (.int k (k.wrap (a.tdiv b)))):=by simp[fS,h]
theorem aCo (h:b≠0):fS P .rem T (.v (.int k a)) (.v (.int k b))=some (.v (.int k (a.tmod b))):=by simp[fS,h]
theorem aCp (h:¬b<0):fS P .shr T (.v (.int k a)) (.v (.int k1 b))=some (.v (.int k (a.fdiv (2 ^ (min b.toNat k.bits))))):=by simp[fS,h]
theorem aCq (h:¬b<0):fS P .shl T (.v (.int k a)) (.v (.int k1 b))=some (.v (.int k (k.wrap (a * 2 ^ (min b.toNat k.bits))))):=by simp[fS,h]
end
theorem HK (s:St) (k:St→Option (Ex × St)):Yc (.normal,s) k=k s:=rfl
theorem B6 (s:St) (k:St→Option (Ex × St)):Yc (.ret,s) k=some (.ret,s):=rfl
theorem UR (i:Nat) (s:St) (k:St→Option (Ex × St)):Yc (.exit i,s) k=some (.exit i,s):=rfl
theorem Va (r:cM) (i e:Nat) (x:Int) (h:i<32) (he:e=i+1):dJ (aZ r) i [.v (.int .u8 x)] e=aZ (r.set i x):=by
 subst he;simp only[dJ,aZ,Vector.toList_set,List.map_set];rw[List.set_eq_take_append_cons_drop,if_pos (by simp[h])]
 simp
theorem qM (r:qX) (i e:Nat) (x:Int) (h:i<4) (he:e=i+1):dJ (gF r) i [.v (.int .u64 x)] e=gF (r.set i x):=by
 subst he;simp only[dJ,gF,Vector.toList_set,List.map_set];rw[List.set_eq_take_append_cons_drop,if_pos (by simp[h])]
 simp
theorem Pq [Ext] {P:Program} {b:Code} (Inv:Nat→St→Prop) (Q:Ex→St→Prop)
 (step:∀n st,Inv n st→∃e st',yH P b st=some (e,st')∧((e=.normal∧∃m,m<n∧Inv m st')∨(e≠.normal∧Q e st'))):∀n st,Inv n st→∃e st',yH P (.loop b) st=some (e,st')∧e≠.normal∧Q e st':=by
 intro n;induction n using Nat.strongRecOn with
 | _ n ih =>
   intro st h;obtain⟨e,s1,h1,h2⟩:=step n st h
   rw[Cf,h1];rcases h2 with ⟨rfl,m,hm,hi⟩|⟨gT,hq⟩
   ·exact ih m hm s1 hi
   ·refine⟨e,s1, ?_,gT,hq⟩
    cases e with
    | normal=>exact absurd rfl gT
    | _=>rfl
theorem mH [Ext] {P:Program} {b:Code} {st:St} {β:Type} {k:Ex × St→Option β} {r:β} (Inv:Nat→St→Prop) (Q:Ex→St→Prop) (n:Nat)
 (step:∀n st,Inv n st→∃e st',yH P b st=some (e,st')∧((e=.normal∧∃m,m<n∧Inv m st')∨(e≠.normal∧Q e st')))
 (start:Inv n st) (rest:∀e st',Q e st'→k (e,st')=some r):cD (yH P (.loop b) st) k=some r:=by
 obtain⟨e,s1,h1,h2,h3⟩:=Pq Inv Q step n st start
 rw[h1];exact rest e s1 h3
theorem cH [Ext] {P:Program} {b:Code} {st:St} {β:Type} {k:Ex × St→Option β} {R:β→Prop} (Inv:Nat→St→Prop) (Q:Ex→St→Prop) (n:Nat)
 (step:∀n st,Inv n st→∃e st',yH P b st=some (e,st')∧((e=.normal∧∃m,m<n∧Inv m st')∨(e≠.normal∧Q e st')))
 (start:Inv n st) (rest:∀e st',Q e st'→∃r,k (e,st')=some r∧R r):∃r,cD (yH P (.loop b) st) k=some r∧R r:=by
 obtain⟨e,s1,h1,h2,h3⟩:=Pq Inv Q step n st start
 rw[h1];exact rest e s1 h3
theorem mR {α β γ:Type} (x:Option α) (f:α→Option β) (g:β→Option γ):cD (cD x f) g=cD x fun a=>cD (f a) g:=by cases x<;>rfl
theorem oP [Ext] {P:Program} {b:Code} {st st':St} {n:Nat} {Inv:Nat→St→Prop} {Q:Ex→St→Prop} (h:yH P b st=some (.normal,st')) (m:Nat) (hm:m<n) (hi:Inv m st') :
 ∃e st',yH P b st=some (e,st')∧((e=.normal∧∃m,m<n∧Inv m st')∨(e≠.normal∧Q e st')):=⟨_,_,h,.inl ⟨rfl,m,hm,hi⟩⟩
theorem aFZ [Ext] {P:Program} {b:Code} {st st':St} {e:Ex} {n:Nat} {Inv:Nat→St→Prop} {Q:Ex→St→Prop} (h:yH P b st=some (e,st')) (he:e≠.normal) (hq:Q e st') :
 ∃e st',yH P b st=some (e,st')∧((e=.normal∧∃m,m<n∧Inv m st')∨(e≠.normal∧Q e st')):=⟨_,_,h,.inr ⟨he,hq⟩⟩
def aK (l:List Int):List AV:=l.flatMap pE
@[simp] theorem Iq (l:List (Int)):(aK l).length=l.length * 1:=by
 induction l with
 | nil=>rfl
 | cons x l ih=>simp only[aK,List.flatMap_cons,List.length_append,bA,List.length_cons] at *;omega
theorem gD (l:List (Int)):∀x∈aK l,Flat x:=by
 intro x hx;obtain⟨y,_,hy⟩:=List.mem_flatMap.1 hx
 exact mF y x hy
theorem W7 (l:List (Int)) (i:Nat) (h:i<l.length):rd (aK l) (i * 1) 1=pE l[i]:=Lh pE 1 (bA) l i h
def bC (l:List Int):List AV:=l.flatMap rC
@[simp] theorem Qg (l:List (Int)):(bC l).length=l.length * 1:=by
 induction l with
 | nil=>rfl
 | cons x l ih=>simp only[bC,List.flatMap_cons,List.length_append,aW,List.length_cons] at *;omega
theorem hU (l:List (Int)):∀x∈bC l,Flat x:=by
 intro x hx;obtain⟨y,_,hy⟩:=List.mem_flatMap.1 hx
 exact eC y x hy
def gJ (l:List cM):List AV:=l.flatMap aZ
@[simp] theorem aF0 (l:List (cM)):(gJ l).length=l.length * 32:=by
 induction l with
 | nil=>rfl
 | cons x l ih=>simp only[gJ,List.flatMap_cons,List.length_append,aO,List.length_cons] at *;omega
theorem Sq (l:List (cM)):∀x∈gJ l,Flat x:=by
 intro x hx;obtain⟨y,_,hy⟩:=List.mem_flatMap.1 hx
 exact dP y x hy
structure fR where
 aL:Int
 root:cM
def bY (s:fR):List AV:=rC s.aL++(aZ s.root)
@[simp] theorem bQ (s:fR):(bY s).length=33:=by simp[bY]
theorem dA (s:fR):∀x∈bY s,Flat x:=by
 intro x hx;simp only[bY,List.mem_append,List.mem_singleton] at hx;rcases hx with hx|hx
 ·(exact eC _ _ hx)
 ·(exact dP _ _ hx)
theorem jU (s:fR):(bY s)[0]? = some (.v (.int .u64 s.aL)):=rfl
theorem Bt (s:fR) (x:Int):dJ (bY s) 0 ([.v (.int .u64 x)]) 1=bY { s with aL:=x }:=cB (aW _)
theorem uA (s:fR):rd (bY s) 1 32=aZ s.root:=(aY rfl (aW _)).trans (iV (aO _))
theorem Eo (s:fR) (x:cM):dJ (bY s) 1 (aZ x) 33=bY { s with root:=x }:=(aD rfl rfl (aW _)).trans (bF (eH (aO _)))
def iM:fR:=⟨0,dK⟩
def Ck:List Value:=[.int .u64 0]++(sW)
theorem Al:Ck.map AV.v=bY iM:=by simp only[Ck,List.map_append,List.map_cons,List.map_nil,jG,jH];rfl
def Sr:List Bool:=[true]++(Ff)
theorem sO (a b:fR):gY Sr (bY a) (bY b):=(eP (show gY [true] [_] [_] from ⟨rfl,trivial⟩) (mL _ _))
theorem mQ (a b:fR):bY a=bY b↔a=b:=by
 refine⟨fun h=>?_,fun h=>by rw[h]⟩
 cases a;cases b
 simp only[bY] at h;obtain⟨h0,h⟩:=List.append_inj h (by simp)
 have e0:=(Cx _ _).1 h0
 have e1:=(oI _ _).1 h
 subst e0 e1;rfl
theorem OC (s:fR):rd (bY s) 0 33=bY s:=iV (bQ _)
theorem OD (s x:fR):dJ (bY s) 0 (bY x) 33=bY x:=eH (bQ _)
structure oY where
 pj:fR
 pf:fR
def fI (s:oY):List AV:=bY s.pj++(bY s.pf)
@[simp] theorem cI (s:oY):(fI s).length=66:=by simp[fI]
theorem Dy (s:oY):∀x∈fI s,Flat x:=by
 intro x hx;simp only[fI,List.mem_append,List.mem_singleton] at hx;rcases hx with hx|hx
 ·(exact dA _ _ hx)
 ·(exact dA _ _ hx)
theorem Od (s:oY):rd (fI s) 0 33=bY s.pj:=gG (bQ _)
theorem Oe (s:oY) (x:fR):dJ (fI s) 0 (bY x) 33=fI { s with pj:=x }:=cB (bQ _)
theorem xB (s:oY):(fI s)[0]? = some (.v (.int .u64 s.pj.aL)):=(eM (by rw[bQ];decide)).trans (jU _)
theorem zI (s:oY) (x:Int):dJ (fI s) 0 ([.v (.int .u64 x)]) 1=fI { s with pj:={ s.pj with aL:=x }}:=(tY (by rw[bQ];decide)).trans (En (Bt _ x))
theorem Of (s:oY):rd (fI s) 33 33=bY s.pf:=(aY rfl (bQ _)).trans (iV (bQ _))
theorem Og (s:oY) (x:fR):dJ (fI s) 33 (bY x) 66=fI { s with pf:=x }:=(aD rfl rfl (bQ _)).trans (bF (eH (bQ _)))
theorem xC (s:oY):(fI s)[33]? = some (.v (.int .u64 s.pf.aL)):=(aH rfl (bQ _)).trans (jU _)
def My:oY:=⟨iM,iM⟩
def Oh:List Value:=Ck++(Ck)
theorem Qu:Oh.map AV.v=fI My:=by simp only[Oh,List.map_append,List.map_cons,List.map_nil,jG,jH,Al];rfl
def YB:List Bool:=Sr++(Sr)
theorem HL (a b:oY):gY YB (fI a) (fI b):=(eP (sO _ _) (sO _ _))
theorem OE (a b:oY):fI a=fI b↔a=b:=by
 refine⟨fun h=>?_,fun h=>by rw[h]⟩
 cases a;cases b
 simp only[fI] at h;obtain⟨h0,h⟩:=List.append_inj h (by simp)
 have e0:=(mQ _ _).1 h0
 have e1:=(mQ _ _).1 h
 subst e0 e1;rfl
theorem AZ (s:oY):rd (fI s) 0 66=fI s:=iV (cI _)
theorem BA (s x:oY):dJ (fI s) 0 (fI x) 66=fI x:=eH (cI _)
structure Block where
 dS:oY
 slot:Int
 root:cM
 parent:cM
 iL:cM
 diff:qX
 Vt:qX
 dN:fR
 fin:fR
 Bk:Bool
def aU (s:Block):List AV:=fI s.dS++(rC s.slot++(aZ s.root++(aZ s.parent++(aZ s.iL++(gF s.diff++(gF s.Vt++(bY s.dN++(bY s.fin++(uL s.Bk)))))))))
@[simp] theorem bM (s:Block):(aU s).length=238:=by simp[aU]
theorem Ax (s:Block):∀x∈aU s,Flat x:=by
 intro x hx;simp only[aU,List.mem_append,List.mem_singleton] at hx;rcases hx with hx|hx|hx|hx|hx|hx|hx|hx|hx|hx
 ·(exact Dy _ _ hx)
 ·(exact eC _ _ hx)
 ·(exact dP _ _ hx)
 ·(exact dP _ _ hx)
 ·(exact dP _ _ hx)
 ·(exact iJ _ _ hx)
 ·(exact iJ _ _ hx)
 ·(exact dA _ _ hx)
 ·(exact dA _ _ hx)
 ·(exact mJ _ _ hx)
theorem Fg (s:Block):rd (aU s) 0 66=fI s.dS:=gG (cI _)
theorem Ti (s:Block) (x:oY):dJ (aU s) 0 (fI x) 66=aU { s with dS:=x }:=cB (cI _)
theorem zJ (s:Block):rd (aU s) 0 33=bY s.dS.pj:=(pX (by rw[cI];decide)).trans (Od _)
theorem Lk (s:Block) (x:fR):dJ (aU s) 0 (bY x) 33=aU { s with dS:={ s.dS with pj:=x }}:=(tY (by rw[cI];decide)).trans (En (Oe _ x))
theorem rM (s:Block):(aU s)[0]? = some (.v (.int .u64 s.dS.pj.aL)):=(eM (by rw[cI];decide)).trans (xB _)
theorem Bu (s:Block) (x:Int):dJ (aU s) 0 ([.v (.int .u64 x)]) 1=aU { s with dS:={ s.dS with pj:={ s.dS.pj with aL:=x }} }:=(tY (by rw[cI];decide)).trans (En (zI _ x))
theorem zK (s:Block):rd (aU s) 33 33=bY s.dS.pf:=(pX (by rw[cI];decide)).trans (Of _)
theorem Ll (s:Block) (x:fR):dJ (aU s) 33 (bY x) 66=aU { s with dS:={ s.dS with pf:=x }}:=(tY (by rw[cI];decide)).trans (En (Og _ x))
theorem rO (s:Block):(aU s)[33]? = some (.v (.int .u64 s.dS.pf.aL)):=(eM (by rw[cI];decide)).trans (xC _)
theorem Hi (s:Block):(aU s)[66]? = some (.v (.int .u64 s.slot)):=(aH rfl (cI _)).trans (rfl)
theorem BB (s:Block) (x:Int):dJ (aU s) 66 ([.v (.int .u64 x)]) 67=aU { s with slot:=x }:=(aD rfl rfl (cI _)).trans (bF (cB (aW _)))
theorem Jw (s:Block):rd (aU s) 67 32=aZ s.root:=(aY rfl (cI _)).trans ((aY rfl (aW _)).trans (gG (aO _)))
theorem BC (s:Block) (x:cM):dJ (aU s) 67 (aZ x) 99=aU { s with root:=x }:=(aD rfl rfl (cI _)).trans (bF ((aD rfl rfl (aW _)).trans (bF (cB (aO _)))))
theorem Tj (s:Block):rd (aU s) 99 32=aZ s.parent:=(aY rfl (cI _)).trans ((aY rfl (aW _)).trans ((aY rfl (aO _)).trans (gG (aO _))))
theorem Tk (s:Block) (x:cM):dJ (aU s) 99 (aZ x) 131=aU { s with parent:=x }:=(aD rfl rfl (cI _)).trans (bF ((aD rfl rfl (aW _)).trans (bF ((aD rfl rfl (aO _)).trans (bF (cB (aO _)))))))
theorem Cy (s:Block):rd (aU s) 131 32=aZ s.iL:=(aY rfl (cI _)).trans ((aY rfl (aW _)).trans ((aY rfl (aO _)).trans ((aY rfl (aO _)).trans (gG (aO _)))))
theorem Qv (s:Block) (x:cM):dJ (aU s) 131 (aZ x) 163=aU { s with iL:=x }:=(aD rfl rfl (cI _)).trans (bF ((aD rfl rfl (aW _)).trans (bF ((aD rfl rfl (aO _)).trans (bF ((aD rfl rfl (aO _)).trans (bF (cB (aO _)))))))))
theorem BD (s:Block):rd (aU s) 163 4=gF s.diff:=(aY rfl (cI _)).trans ((aY rfl (aW _)).trans ((aY rfl (aO _)).trans ((aY rfl (aO _)).trans ((aY rfl (aO _)).trans (gG (dU _))))))
theorem BE (s:Block) (x:qX):dJ (aU s) 163 (gF x) 167=aU { s with diff:=x }:=(aD rfl rfl (cI _)).trans (bF ((aD rfl rfl (aW _)).trans (bF ((aD rfl rfl (aO _)).trans (bF ((aD rfl rfl (aO _)).trans (bF ((aD rfl rfl (aO _)).trans (bF (cB (dU _)))))))))))
theorem Ye (s:Block):rd (aU s) 167 4=gF s.Vt:=(aY rfl (cI _)).trans ((aY rfl (aW _)).trans ((aY rfl (aO _)).trans ((aY rfl (aO _)).trans ((aY rfl (aO _)).trans ((aY rfl (dU _)).trans (gG (dU _)))))))
theorem Yf (s:Block) (x:qX):dJ (aU s) 167 (gF x) 171=aU { s with Vt:=x }:=(aD rfl rfl (cI _)).trans (bF ((aD rfl rfl (aW _)).trans (bF ((aD rfl rfl (aO _)).trans (bF ((aD rfl rfl (aO _)).trans (bF ((aD rfl rfl (aO _)).trans (bF ((aD rfl rfl (dU _)).trans (bF (cB (dU _)))))))))))))
theorem Jx (s:Block):rd (aU s) 171 33=bY s.dN:=(aY rfl (cI _)).trans ((aY rfl (aW _)).trans ((aY rfl (aO _)).trans ((aY rfl (aO _)).trans ((aY rfl (aO _)).trans ((aY rfl (dU _)).trans ((aY rfl (dU _)).trans (gG (bQ _))))))))
theorem BF (s:Block) (x:fR):dJ (aU s) 171 (bY x) 204=aU { s with dN:=x }:=(aD rfl rfl (cI _)).trans (bF ((aD rfl rfl (aW _)).trans (bF ((aD rfl rfl (aO _)).trans (bF ((aD rfl rfl (aO _)).trans (bF ((aD rfl rfl (aO _)).trans (bF ((aD rfl rfl (dU _)).trans (bF ((aD rfl rfl (dU _)).trans (bF (cB (bQ _)))))))))))))))
theorem Hj (s:Block):(aU s)[171]? = some (.v (.int .u64 s.dN.aL)):=(aH rfl (cI _)).trans ((aH rfl (aW _)).trans ((aH rfl (aO _)).trans ((aH rfl (aO _)).trans ((aH rfl (aO _)).trans ((aH rfl (dU _)).trans ((aH rfl (dU _)).trans ((eM (by rw[bQ];decide)).trans (jU _))))))))
theorem Oi (s:Block):rd (aU s) 204 33=bY s.fin:=(aY rfl (cI _)).trans ((aY rfl (aW _)).trans ((aY rfl (aO _)).trans ((aY rfl (aO _)).trans ((aY rfl (aO _)).trans ((aY rfl (dU _)).trans ((aY rfl (dU _)).trans ((aY rfl (bQ _)).trans (gG (bQ _)))))))))
theorem HM (s:Block) (x:fR):dJ (aU s) 204 (bY x) 237=aU { s with fin:=x }:=(aD rfl rfl (cI _)).trans (bF ((aD rfl rfl (aW _)).trans (bF ((aD rfl rfl (aO _)).trans (bF ((aD rfl rfl (aO _)).trans (bF ((aD rfl rfl (aO _)).trans (bF ((aD rfl rfl (dU _)).trans (bF ((aD rfl rfl (dU _)).trans (bF ((aD rfl rfl (bQ _)).trans (bF (cB (bQ _)))))))))))))))))
theorem Jd (s:Block):(aU s)[204]? = some (.v (.int .u64 s.fin.aL)):=(aH rfl (cI _)).trans ((aH rfl (aW _)).trans ((aH rfl (aO _)).trans ((aH rfl (aO _)).trans ((aH rfl (aO _)).trans ((aH rfl (dU _)).trans ((aH rfl (dU _)).trans ((aH rfl (bQ _)).trans ((eM (by rw[bQ];decide)).trans (jU _)))))))))
theorem Oj (s:Block) (x:cM):dJ (aU s) 205 (aZ x) 237=aU { s with fin:={ s.fin with root:=x }}:=(aD rfl rfl (cI _)).trans (bF ((aD rfl rfl (aW _)).trans (bF ((aD rfl rfl (aO _)).trans (bF ((aD rfl rfl (aO _)).trans (bF ((aD rfl rfl (aO _)).trans (bF ((aD rfl rfl (dU _)).trans (bF ((aD rfl rfl (dU _)).trans (bF ((aD rfl rfl (bQ _)).trans (bF ((tY (by rw[bQ];decide)).trans (En (Eo _ x))))))))))))))))))
theorem Qw (s:Block):(aU s)[237]? = some (.v (.bool s.Bk)):=(aH rfl (cI _)).trans ((aH rfl (aW _)).trans ((aH rfl (aO _)).trans ((aH rfl (aO _)).trans ((aH rfl (aO _)).trans ((aH rfl (dU _)).trans ((aH rfl (dU _)).trans ((aH rfl (bQ _)).trans ((aH rfl (bQ _)).trans (rfl)))))))))
theorem Tl (s:Block) (x:Bool):dJ (aU s) 237 ([.v (.bool x)]) 238=aU { s with Bk:=x }:=(aD rfl rfl (cI _)).trans (bF ((aD rfl rfl (aW _)).trans (bF ((aD rfl rfl (aO _)).trans (bF ((aD rfl rfl (aO _)).trans (bF ((aD rfl rfl (aO _)).trans (bF ((aD rfl rfl (dU _)).trans (bF ((aD rfl rfl (dU _)).trans (bF ((aD rfl rfl (bQ _)).trans (bF ((aD rfl rfl (bQ _)).trans (bF (eH (gQ _)))))))))))))))))))
def fB:Block:=⟨My,0,dK,dK,dK,ED,ED,iM,iM,false⟩
def Qx:List Value:=Oh++([.int .u64 0]++(sW++(sW++(sW++(Yd++(Yd++(Ck++(Ck++([.bool false])))))))))
theorem Ok:Qx.map AV.v=aU fB:=by simp only[Qx,List.map_append,List.map_cons,List.map_nil,jG,jH,Qu,Al];rfl
def US:List Bool:=YB++([true]++(Ff++(Ff++(Ff++(XZ++(XZ++(Sr++(Sr++([false])))))))))
theorem Ss (a b:Block):gY US (aU a) (aU b):=(eP (HL _ _) (eP (show gY [true] [_] [_] from ⟨rfl,trivial⟩) (eP (mL _ _) (eP (mL _ _) (eP (mL _ _) (eP (Lj _ _) (eP (Lj _ _) (eP (sO _ _) (eP (sO _ _) (show gY [false] [_] [_] from trivial))))))))))
theorem Yg (a b:Block):aU a=aU b↔a=b:=by
 refine⟨fun h=>?_,fun h=>by rw[h]⟩
 cases a;cases b
 simp only[aU] at h;obtain⟨h0,h⟩:=List.append_inj h (by simp)
 obtain⟨h1,h⟩:=List.append_inj h (by simp)
 obtain⟨h2,h⟩:=List.append_inj h (by simp)
 obtain⟨h3,h⟩:=List.append_inj h (by simp)
 obtain⟨h4,h⟩:=List.append_inj h (by simp)
 obtain⟨h5,h⟩:=List.append_inj h (by simp)
 obtain⟨h6,h⟩:=List.append_inj h (by simp)
 obtain⟨h7,h⟩:=List.append_inj h (by simp)
 obtain⟨h8,h⟩:=List.append_inj h (by simp)
 have e0:=(OE _ _).1 h0
 have e1:=(Cx _ _).1 h1
 have e2:=(oI _ _).1 h2
 have e3:=(oI _ _).1 h3
 have e4:=(oI _ _).1 h4
 have e5:=(Qt _ _).1 h5
 have e6:=(Qt _ _).1 h6
 have e7:=(mQ _ _).1 h7
 have e8:=(mQ _ _).1 h8
 have e9:=(EC _ _).1 h
 subst e0 e1 e2 e3 e4 e5 e6 e7 e8 e9;rfl
theorem HN (s:Block):rd (aU s) 0 238=aU s:=iV (bM _)
theorem HO (s x:Block):dJ (aU s) 0 (aU x) 238=aU x:=eH (bM _)
structure Node where
 block:Block
 up:Int
 status:Int
def fJ (s:Node):List AV:=aU s.block++(pE s.up++(pE s.status))
@[simp] theorem uT (s:Node):(fJ s).length=240:=by simp[fJ]
theorem Yh (s:Node):∀x∈fJ s,Flat x:=by
 intro x hx;simp only[fJ,List.mem_append,List.mem_singleton] at hx;rcases hx with hx|hx|hx
 ·(exact Ax _ _ hx)
 ·(exact mF _ _ hx)
 ·(exact mF _ _ hx)
theorem BG (s:Node):rd (fJ s) 0 238=aU s.block:=gG (bM _)
theorem BH (s:Node) (x:Block):dJ (fJ s) 0 (aU x) 238=fJ { s with block:=x }:=cB (bM _)
theorem Hk (s:Node):rd (fJ s) 0 66=fI s.block.dS:=(pX (by rw[bM];decide)).trans (Fg _)
theorem Cz (s:Node):rd (fJ s) 0 33=bY s.block.dS.pj:=(pX (by rw[bM];decide)).trans (zJ _)
theorem vJ (s:Node):(fJ s)[0]? = some (.v (.int .u64 s.block.dS.pj.aL)):=(eM (by rw[bM];decide)).trans (rM _)
theorem Da (s:Node):rd (fJ s) 33 33=bY s.block.dS.pf:=(pX (by rw[bM];decide)).trans (zK _)
theorem vK (s:Node):(fJ s)[33]? = some (.v (.int .u64 s.block.dS.pf.aL)):=(eM (by rw[bM];decide)).trans (rO _)
theorem Je (s:Node):(fJ s)[66]? = some (.v (.int .u64 s.block.slot)):=(eM (by rw[bM];decide)).trans (Hi _)
theorem Lm (s:Node):rd (fJ s) 67 32=aZ s.block.root:=(pX (by rw[bM];decide)).trans (Jw _)
theorem Ft (s:Node):rd (fJ s) 131 32=aZ s.block.iL:=(pX (by rw[bM];decide)).trans (Cy _)
theorem Ln (s:Node):rd (fJ s) 171 33=bY s.block.dN:=(pX (by rw[bM];decide)).trans (Jx _)
theorem Ol (s:Node):rd (fJ s) 204 33=bY s.block.fin:=(pX (by rw[bM];decide)).trans (Oi _)
theorem OF (s:Node):(fJ s)[238]? = some (.v (.int .i64 s.up)):=(aH rfl (bM _)).trans (rfl)
theorem UT (s:Node) (x:Int):dJ (fJ s) 238 ([.v (.int .i64 x)]) 239=fJ { s with up:=x }:=(aD rfl rfl (bM _)).trans (bF (cB (bA _)))
theorem Ez (s:Node):(fJ s)[239]? = some (.v (.int .i64 s.status)):=(aH rfl (bM _)).trans ((aH rfl (bA _)).trans (rfl))
theorem Gi (s:Node) (x:Int):dJ (fJ s) 239 ([.v (.int .i64 x)]) 240=fJ { s with status:=x }:=(aD rfl rfl (bM _)).trans (bF ((aD rfl rfl (bA _)).trans (bF (eH (bA _)))))
def YC:Node:=⟨fB,0,0⟩
def Yi:List Value:=Qx++([.int .i64 0]++([.int .i64 0]))
theorem HP:Yi.map AV.v=fJ YC:=by simp only[Yi,List.map_append,List.map_cons,List.map_nil,jG,jH,Ok];rfl
def aEt:List Bool:=US++([true]++([true]))
theorem Vj (a b:Node):gY aEt (fJ a) (fJ b):=(eP (Ss _ _) (eP (show gY [true] [_] [_] from ⟨rfl,trivial⟩) (show gY [true] [_] [_] from ⟨rfl,trivial⟩)))
theorem B7 (a b:Node):fJ a=fJ b↔a=b:=by
 refine⟨fun h=>?_,fun h=>by rw[h]⟩
 cases a;cases b
 simp only[fJ] at h;obtain⟨h0,h⟩:=List.append_inj h (by simp)
 obtain⟨h1,h⟩:=List.append_inj h (by simp)
 have e0:=(Yg _ _).1 h0
 have e1:=(tZ _ _).1 h1
 have e2:=(tZ _ _).1 h
 subst e0 e1 e2;rfl
theorem OG (s:Node):rd (fJ s) 0 240=fJ s:=iV (uT _)
theorem OH (s x:Node):dJ (fJ s) 0 (fJ x) 240=fJ x:=eH (uT _)
def cC (l:List Node):List AV:=l.flatMap fJ
@[simp] theorem Kn (l:List (Node)):(cC l).length=l.length * 240:=by
 induction l with
 | nil=>rfl
 | cons x l ih=>simp only[cC,List.flatMap_cons,List.length_append,uT,List.length_cons] at *;omega
theorem lB (l:List (Node)):∀x∈cC l,Flat x:=by
 intro x hx;obtain⟨y,_,hy⟩:=List.mem_flatMap.1 hx
 exact Yh y x hy
theorem B8 (l:List (Node)) (i:Nat) (h:i<l.length):rd (cC l) (i * 240) 240=fJ l[i]:=Lh fJ 240 (uT) l i h
structure Tree where
 nodes:List Node
def cP (s:Tree):List AV:=[.sl s.nodes.length (cC s.nodes)]
@[simp] theorem Qy (s:Tree):(cP s).length=1:=by simp[cP]
theorem UU (s:Tree):∀x∈cP s,Flat x:=by
 intro x hx;simp only[cP,List.mem_append,List.mem_singleton] at hx;(subst hx;exact .sl _ _ (lB _))
theorem Yj (s:Tree):(cP s)[0]? = some (.sl s.nodes.length (cC s.nodes)):=rfl
theorem OI (s:Tree):rd (cP s) 0 1=cP s:=iV (Qy _)
theorem OJ (s x:Tree):dJ (cP s) 0 (cP x) 1=cP x:=eH (Qy _)
end Go.Ab
end
section
namespace Go.Ab
open Classical
def xL (e sz by_:Nat) (v:Option (Nat × List AV)):Option (Option (Nat × Nat) × nD) :=
 match v with
 | some (m,news)=>if news.length=m * sz∧m * by_≤140737488355328∧m≤maxLen then some (none,.row e sz m news) else none
 | none=>none
def wZ (e sz by_:Nat) (o:Option nD) (s g:Nat) (v:Option (Nat × List AV)):Option (Option (Nat × Nat) × nD) :=
 match o,v with
 | some (.row e' tF n cs),some (m,news)=>if news.length=m * sz∧e'=e∧tF=sz∧(n+m) * by_≤140737488355328∧n+m≤maxLen then some (some (s,g),.row e sz (n+m) (cs++news)) else none
 | _,_=>none
def acE (e sz by_ n:Nat) (cs:List AV) (v:Option (Nat × List AV)):Option (Option (Nat × Nat) × nD) :=
 match v with
 | some (m,news)=>if news.length=m * sz∧cs.length=n * sz∧(n=0∨0<m)∧(n+m) * by_≤140737488355328∧n+m≤maxLen then some (none,.row e sz (n+m) (cs++news)) else none
 | none=>none
section
variable {P:Program} {st:St} {T e sz by_:Nat}
theorem uB (hs:dL P T=some (e,sz,by_)) (x:AV):dC P st T (.v (.slice none 0 0)) x=xL e sz by_ (aR st x):=by
 simp only[dC,hs,xL];cases aR st x with
 | none=>rfl
 | some v =>
   obtain⟨m,news⟩:=v
   by_cases h1:news.length=m * sz<;>simp[h1]
theorem sD (hs:dL P T=some (e,sz,by_)) (s g:Nat) (x:AV):dC P st T (.own s g) x=wZ e sz by_ (st.heap s g) s g (aR st x):=by
 simp only[dC,hs,wZ];cases aR st x with
 | none=>cases st.heap s g with
   | none=>rfl
   | some o=>cases o<;>rfl
 | some v =>
   obtain⟨m,news⟩:=v
   cases st.heap s g with
   | none=>by_cases h1:news.length=m * sz<;>simp[h1]
   | some o =>
     cases o with
     | row a b n cs=>by_cases h1:news.length=m * sz<;>simp[h1]
     | _=>by_cases h1:news.length=m * sz<;>simp[h1]
theorem aF2 (hs:dL P T=some (e,sz,by_)) (n:Nat) (cs:List AV) (x:AV):dC P st T (.cl n cs) x=acE e sz by_ n cs (aR st x):=by
 simp only[dC,hs,acE];cases aR st x with
 | none=>rfl
 | some v =>
   obtain⟨m,news⟩:=v
   by_cases h1:news.length=m * sz<;>simp[h1]
end
def OK (e sz:Nat) (o:Option nD) (s g:Nat) (i:Int):Option AV :=
 match o with
 | some (.row e' tF n _)=>if 0≤i∧i<n∧e'=e∧tF=sz then some (.ptr s g (i.toNat * sz)) else none
 | _=>none
theorem Om {P:Program} {st:St} {T e sz by_:Nat} (hn:jF P T=none) (hs:dL P T=some (e,sz,by_)) (s g:Nat) (k:IntKind) (i:Int):bD P st T (.own s g) (.v (.int k i))=OK e sz (st.heap s g) s g i:=by
 simp only[bD,hn,hs,OK];cases st.heap s g with
 | none=>rfl
 | some e=>cases e<;>rfl
theorem aCr (e sz n:Nat) (cs:List AV) (s g:Nat) (i:Int) (h0:0≤i) (h1:i<n):OK e sz (some (.row e sz n cs)) s g i=some (.ptr s g (i.toNat * sz)):=by
 simp[OK,h0,h1]
theorem Qz [Ext] {P:Program} {S e sz by_:Nat} {z:List Value} (hs:dL P S=some (e,sz,by_)) (hz:dZ P e=some z) {call:Nat→List AV→Option AV} {ops:Array Oper} {st:St} {T:Nat} {pos:String} {eN:Array Edge} (d:Nat) :
 bZ P call ops ⟨some d,.buildSlice S 0 #[],T,pos,eN,none⟩ st=some ((st.new d (.row e sz 0 [])).put (some d) (.own d (st.aQ d))):=by
 rw[kU,hs];simp[cD,hz,gM]
def elV {α:Type} (x:AV) (k:Value→Option α) (fb:Option α):Option α :=
 match x with
 | .v y=>if y.oneCell'=true then k y else fb
 | _=>fb
theorem aCt {α:Type} (kk:IntKind) (n:Int) (k:Value→Option α) (fb:Option α):elV (.v (.int kk n)) k fb=k (.int kk n):=rfl
theorem W8 {α:Type} (n:Bool) (k:Value→Option α) (fb:Option α):elV (.v (.bool n)) k fb=k (.bool n):=rfl
@[congr] theorem aIf {α:Type} {x y:AV} {k:Value→Option α} {fb:Option α} (h:x=y):elV x k fb=elV y k fb:=by rw[h]
theorem HQ [Ext] {P:Program} {S e by_:Nat} {z:Value} (hs:dL P S=some (e,1,by_)) (hz:dZ P e=some [z]) {call:Nat→List AV→Option AV} {ops:Array Oper} {st:St} {T:Nat} {pos:String} {eN:Array Edge} (d:Nat) (x:Operand) :
 bZ P call ops ⟨some d,.buildSlice S 1 #[(0,x)],T,pos,eN,none⟩ st=elV (st.ev x) (fun y=>some ((st.new d (.row e 1 1 [.v y])).put (some d) (.own d (st.aQ d)))) (bZ P call ops ⟨some d,.buildSlice S 1 #[(0,x)],T,pos,eN,none⟩ st):=by
 unfold elV;split
 ·rename_i y h;split
  ·rename_i hy;rw[kU,hs];simp[hz,cD,h,AV.jL,hy,gM,AV.cells]
  ·rfl
 ·rfl
def G4 {α:Type} (z:Nat) (x:AV) (k:List AV→Option α) (fb:Option α):Option α :=
 match x with
 | .agg cs=>if cs.length=z then k cs else fb
 | _=>fb
theorem aCu {α:Type} (z:Nat) (cs:List AV) (k:List AV→Option α) (fb:Option α) (h:cs.length=z):G4 z (.agg cs) k fb=k cs:=if_pos h
@[congr] theorem aIg {α:Type} {z:Nat} {x y:AV} {k:List AV→Option α} {fb:Option α} (h:x=y):G4 z x k fb=G4 z y k fb:=by rw[h]
theorem Ep [Ext] {P:Program} {S e sz by_:Nat} {z:List Value} (hs:dL P S=some (e,sz,by_)) (hz:dZ P e=some z) (hl:z.length=sz) (hm:sz≤2 ^ 24) {call:Nat→List AV→Option AV} {ops:Array Oper} {st:St} {T:Nat} {pos:String} {eN:Array Edge} (d:Nat) (x:Operand) :
 bZ P call ops ⟨some d,.buildSlice S 1 #[(0,x)],T,pos,eN,none⟩ st=G4 sz (st.ev x) (fun cs=>some ((st.new d (.row e sz 1 cs)).put (some d) (.own d (st.aQ d)))) (bZ P call ops ⟨some d,.buildSlice S 1 #[(0,x)],T,pos,eN,none⟩ st):=by
 unfold G4;split
 ·rename_i cs h;split
  ·rename_i hc;have h2:((List.range 1).flatMap fun _=>z.map AV.v)=z.map AV.v:=by simp[List.range,List.range.loop]
   have hzl:(z.map AV.v).length=sz:=by simpa using hl
   rw[kU,hs];simp only[hz,cD,List.toList_toArray,List.all_cons,List.all_nil,h,AV.jL,Bool.and_self,List.map_cons,List.map_nil,gM,AV.cells,hc,Nat.zero_mul,Nat.zero_add,List.take_zero,List.nil_append];rw[h2,if_pos (by simpa using hm),if_pos (by simp[hzl])]
   rw[List.drop_of_length_le (by rw[hzl];exact Nat.le_refl _),List.append_nil]
  ·rfl
 ·rfl
theorem Ic {e sz by_ s g n:Nat} {cs:List AV} (hl:cs.length=n * sz) (hb:(n:Int) * by_≤140737488355328) (hm:(n:Int)≤maxLen):wZ e sz by_ (some (.row e sz 0 [])) s g (some (n,cs))=some (some (s,g),.row e sz n cs):=by
 simp only[wZ];simp only[Nat.zero_add,true_and,List.nil_append];have nP:n * by_≤140737488355328:=by
  have:((n * by_:Nat):Int)≤140737488355328:=by rw[Int.natCast_mul];exact hb
  omega
 rw[if_pos ⟨hl,nP,by omega⟩]
end Go.Ab
end
section
namespace Go.Ab
open Classical
variable [Ext]
@[congr] theorem aIh {P:Program} {bi:Bool} {c:Code} {s t:St} (h:s=t):wA P bi c s=wA P bi c t:=by rw[h]
theorem B9 {P:Program} {bi:Bool} (c:Operand) (a b:Code) (st:St):wA P bi (.cond c a b) st=onB (st.ev c) fun t=>if t=true then wA P bi a st else wA P bi b st:=by
 cases h:st.ev c with
 | v x =>
   cases x with
   | bool t=>exact NP P c a b st h
   | _ =>
     apply Option.ext
     intro r;rw[gL];constructor
     ·rintro⟨n,m,h'⟩
      cases m with
      | zero=>simp[uG] at h'
      | succ m=>simp[uG,h] at h'
     ·intro h';simp[onB] at h'
 | _ =>
   apply Option.ext
   intro r;rw[gL];constructor
   ·rintro⟨n,m,h'⟩
    cases m with
    | zero=>simp[uG] at h'
    | succ m=>simp[uG,h] at h'
   ·intro h';simp[onB] at h'
section
variable {P:Program} {call:Nat→List AV→Option AV} {inl:Nat→List AV→St→Option (AV × St)} {ops:Array Oper} {st:St}
theorem UW:mG P true call inl ops [] st=some st:=rfl
theorem OL (o:Oper) (l:List Oper):mG P true call inl ops (o :: l) st=cD (gN P true call inl ops o st) (mG P true call inl ops l):=rfl
@[congr] theorem aEu {o:Oper} {s t:St} (h:s=t):gN P true call inl ops o s=gN P true call inl ops o t:=by rw[h]
theorem W9 {o:Oper} (h:Ew o=none):gN P true call inl ops o st=bZ P call ops o st:=by
 unfold gN;rw[if_pos rfl,h]
theorem C0 {d:Option Nat} {g:Nat} {args:Array Operand} {sZ:Array Nat} {T:Nat} {pos:String} {eN:Array Edge} (h:Ext.inl g d=true) :
 gN P true call inl ops ⟨d,.call ⟨.value (.func g),args,sZ⟩,T,pos,eN,none⟩ st=cD (inl g (args.toList.map st.ev) st) fun r=>some ((st.back r.2).put d r.1):=by
 have e:Ew ⟨d,.call ⟨.value (.func g),args,sZ⟩,T,pos,eN,none⟩=some (g,args.toList):=by
  unfold Ew;simp only
  rw[if_pos h]
 unfold gN;rw[if_pos rfl,e];simp only[gv,if_true];cases inl g (args.toList.map st.ev) st<;>rfl
end
theorem fG (st s:St):(st.back s).env=st.env:=rfl
theorem dH (st s:St):(st.back s).heap=s.heap:=rfl
theorem bX (st s:St):(st.back s).aQ=s.aQ:=rfl
theorem Wg {P:Program} {fn:Func} {st:St} {e:Ex} {r:ResultVar} {x:AV} (he:e=.ret∨e=.normal) (hr:fn.results.toList=[r]) (h1:jW P st r=some x):aFT P fn (e,st)=some (x,st):=by
 have h:Ac P fn st=some x:=by
  unfold Ac;rw[hr];exact h1
 rcases he with rfl|rfl<;>simp only[aFT,h,Option.map_some]
theorem UX {P:Program} {bi:Bool} {b:Code} (Inv:Nat→St→Prop) (Q:Ex→St→Prop)
 (step:∀n st,Inv n st→∃e st',wA P bi b st=some (e,st')∧((e=.normal∧∃m,m<n∧Inv m st')∨(e≠.normal∧Q e st'))):∀n st,Inv n st→∃e st',wA P bi (.loop b) st=some (e,st')∧e≠.normal∧Q e st':=by
 intro n;induction n using Nat.strongRecOn with
 | _ n ih =>
   intro st h;obtain⟨e,s1,h1,h2⟩:=step n st h
   rw[Wy,h1];rcases h2 with ⟨rfl,m,hm,hi⟩|⟨gT,hq⟩
   ·exact ih m hm s1 hi
   ·refine⟨e,s1, ?_,gT,hq⟩
    cases e with
    | normal=>exact absurd rfl gT
    | _=>rfl
theorem mC {P:Program} {bi:Bool} {b:Code} {st:St} {β:Type} {k:Ex × St→Option β} {R:β→Prop} (Inv:Nat→St→Prop) (Q:Ex→St→Prop) (n:Nat)
 (step:∀n st,Inv n st→∃e st',wA P bi b st=some (e,st')∧((e=.normal∧∃m,m<n∧Inv m st')∨(e≠.normal∧Q e st')))
 (start:Inv n st) (rest:∀e st',Q e st'→∃r,k (e,st')=some r∧R r):∃r,cD (wA P bi (.loop b) st) k=some r∧R r:=by
 obtain⟨e,s1,h1,h2,h3⟩:=UX Inv Q step n st start
 rw[h1];exact rest e s1 h3
theorem aF3 {P:Program} {bi:Bool} {b:Code} {st st':St} {n:Nat} {Inv:Nat→St→Prop} {Q:Ex→St→Prop} (h:wA P bi b st=some (.normal,st')) (m:Nat) (hm:m<n) (hi:Inv m st') :
 ∃e st',wA P bi b st=some (e,st')∧((e=.normal∧∃m,m<n∧Inv m st')∨(e≠.normal∧Q e st')):=⟨_,_,h,.inl ⟨rfl,m,hm,hi⟩⟩
theorem aCv {P:Program} {bi:Bool} {b:Code} {st st':St} {e:Ex} {n:Nat} {Inv:Nat→St→Prop} {Q:Ex→St→Prop} (h:wA P bi b st=some (e,st')) (he:e≠.normal) (hq:Q e st') :
 ∃e st',wA P bi b st=some (e,st')∧((e=.normal∧∃m,m<n∧Inv m st')∨(e≠.normal∧Q e st')):=⟨_,_,h,.inr ⟨he,hq⟩⟩
theorem OM {P:Program} {id:Nat} {ops:Array Oper} {d:Bool} {st:St} {l:List (Nat × Nat)} (h:Ext.dyn id ops.size (rR ops)=l) :
 wA P true (.region id ops d) st=cD (mG P true (aC P) (Co P) ops ops.toList st) fun s=>if pU ops s l then some (.normal,s) else none:=by
 rw[Yb];congr 1
 funext s
 rw[h];by_cases hf:pU ops s l
 ·rw[if_pos hf,if_neg];rintro⟨_,hn⟩
  exact hn hf
 ·rw[if_neg hf,if_pos ⟨rfl,hf⟩]
theorem C1 (ops:Array Oper) (s:St):pU ops s []=True:=rfl
theorem UY (ops:Array Oper) (s:St) (p:Nat × Nat) (l:List (Nat × Nat)):pU ops s (p :: l)=(Ur ops s p∧pU ops s l):=rfl
def ON (s:St) (x y:Option (List Nat)):Prop:=match x,y with|some aS,some bs=>Kg s aS bs|_,_=>False
theorem C2 (ops:Array Oper) (s:St) (i j:Nat):Ur ops s (i,j)=ON s ((ops[i]?).bind gS) ((ops[j]?).bind gS):=rfl
theorem X0 (s:St) (a b:Nat):ON s (some [a]) (some [b])=fU (s.env a) (s.env b):=by simp[ON,Kg]
theorem X3 (s:St) (a a' b:Nat):ON s (some [a,a']) (some [b])=(fU (s.env a) (s.env b)∧fU (s.env a') (s.env b)):=by simp[ON,Kg]
@[congr] theorem X4 {x y x' y':AV} (h:x=x') (h':y=y'):fU x y=fU x' y':=by rw[h,h']
theorem OO (s g o s' g' o':Nat):fU (.ptr s g o) (.ptr s' g' o')=((s,g)≠(s',g')):=rfl
theorem OP (s g o s' g':Nat):fU (.ptr s g o) (.own s' g')=((s,g)≠(s',g')):=rfl
theorem OQ (s g s' g' o':Nat):fU (.own s g) (.ptr s' g' o')=((s,g)≠(s',g')):=rfl
theorem OR (x:Value) (s g o:Nat):fU (.v x) (.ptr s g o)=True:=rfl
theorem OS (x:Value) (s g o:Nat):fU (.ptr s g o) (.v x)=True:=rfl
theorem OT (s g n:Nat) (cs:List AV):fU (.own s g) (.sl n cs)=True:=rfl
theorem OU (s g n:Nat) (cs:List AV):fU (.sl n cs) (.own s g)=True:=rfl
theorem OV (s g o n:Nat) (cs:List AV):fU (.sl n cs) (.ptr s g o)=True:=rfl
theorem OW (s g o n:Nat) (cs:List AV):fU (.ptr s g o) (.sl n cs)=True:=rfl
theorem OX (n m:Nat) (cs ds:List AV):fU (.sl n cs) (.sl m ds)=True:=rfl
theorem OY (s g:Nat) (x:Value):fU (.own s g) (.v x)=True:=rfl
theorem OZ (s g:Nat) (x:Value):fU (.v x) (.own s g)=True:=rfl
theorem PA (x:Value) (n:Nat) (cs:List AV):fU (.v x) (.sl n cs)=True:=rfl
theorem PB (x:Value) (n:Nat) (cs:List AV):fU (.sl n cs) (.v x)=True:=rfl
def X5 (x y:AV):Option AV :=
 match x,y with
 | .v (.int k a),.v (.int _ b)=>some (.v (.int k (if b<a then b else a)))
 | _,_=>none
def X6 (x y:AV):Option AV :=
 match x,y with
 | .v (.int k a),.v (.int _ b)=>some (.v (.int k (if b > a then b else a)))
 | _,_=>none
theorem X7 (k k':IntKind) (a b:Int):X5 (.v (.int k a)) (.v (.int k' b))=some (.v (.int k (if b<a then b else a))):=rfl
theorem X8 (k k':IntKind) (a b:Int):X6 (.v (.int k a)) (.v (.int k' b))=some (.v (.int k (if a<b then b else a))):=rfl
@[congr] theorem aF4 {x y x' y':AV} (h:x=x') (h':y=y'):X5 x y=X5 x' y':=by rw[h,h']
@[congr] theorem aF5 {x y x' y':AV} (h:x=x') (h':y=y'):X6 x y=X6 x' y':=by rw[h,h']
theorem aF6 {P:Program} {call:Nat→List AV→Option AV} {ops:Array Oper} {st:St} {d:Option Nat} {T:Nat} {pos:String} {eN:Array Edge} (x y:Operand) (sZ:Array Nat) :
 bZ P call ops ⟨d,.call ⟨.builtin .min,#[x,y],sZ⟩,T,pos,eN,none⟩ st=cD (X5 (st.ev x) (st.ev y)) fun v=>some (st.put d v):=by
 rw[dT];simp only[dI,iE,X5];cases st.ev x with
 | v a=>cases a with
   | int k a=>cases st.ev y with
     | v b=>cases b<;>rfl
     | _=>rfl
   | _=>rfl
 | _=>rfl
theorem aF7 {P:Program} {call:Nat→List AV→Option AV} {ops:Array Oper} {st:St} {d:Option Nat} {T:Nat} {pos:String} {eN:Array Edge} (x y:Operand) (sZ:Array Nat) :
 bZ P call ops ⟨d,.call ⟨.builtin .max,#[x,y],sZ⟩,T,pos,eN,none⟩ st=cD (X6 (st.ev x) (st.ev y)) fun v=>some (st.put d v):=by
 rw[dT];simp only[dI,iE,X6];cases st.ev x with
 | v a=>cases a with
   | int k a=>cases st.ev y with
     | v b=>cases b<;>rfl
     | _=>rfl
   | _=>rfl
 | _=>rfl
noncomputable def mvE (call:Nat→List AV→Option AV) (g:Nat) (rest:List AV) (s k d c:Nat) (o:Option nD):Option qT :=
 match o with
 | some (.row e sz n cs) =>
   if (∀c∈cs,Flat c)∧∀x∈rest,Flat x then
    match call g (.uniq e sz n cs :: rest) with
    | some (.uniq e' tF n' Dj)=>some { dst:=some d,val:=.own d c,dJ:=some (s,k,none),new:=some (d,[.row e' tF n' Dj])}
    | some (.eE [.uniq e' tF n' Dj])=>some { dst:=some d,val:=.eE [],dJ:=some (s,k,some (.row e' tF n' Dj))}
    | _=>none
   else none
 | _=>none
theorem UZ (call:Nat→List AV→Option AV) (g s k d:Nat) (rest:List AV) (st:St):lH call g (.own s k :: rest) st (some d)=mvE call g rest s k d (st.aQ d) (st.heap s k):=by
 unfold lH mvE;simp only
 cases st.heap s k with
 | none=>rfl
 | some o =>
   cases o with
   | row e sz n cs =>
     simp only
     by_cases hc:(∀c∈cs,Flat c)∧∀x∈rest,Flat x
     ·simp only[if_pos hc];cases call g (.uniq e sz n cs :: rest) with
      | none=>rfl
      | some r =>
        cases r with
        | eE vs =>
          cases vs with
          | nil=>rfl
          | cons x xs =>
            cases x with
            | uniq _ _ _ _=>cases xs<;>rfl
            | _=>rfl
        | _=>rfl
     ·simp only[if_neg hc]
   | _=>rfl
theorem LI {call:Nat→List AV→Option AV} {g:Nat} {rest:List AV} {s k d c e sz n e' tF n':Nat} {cs Dj:List AV} (hf:∀c∈cs,Flat c) (hr:∀x∈rest,Flat x) (hc:call g (.uniq e sz n cs :: rest)=some (.uniq e' tF n' Dj)) :
 mvE call g rest s k d c (some (.row e sz n cs))=some { dst:=some d,val:=.own d c,dJ:=some (s,k,none),new:=some (d,[.row e' tF n' Dj])}:=by
 unfold mvE;simp only
 rw[if_pos ⟨hf,hr⟩,hc]
@[congr] theorem aIi {call:Nat→List AV→Option AV} {g:Nat} {rest:List AV} {s k d c c':Nat} {o o':Option nD} (h:c=c') (h':o=o'):mvE call g rest s k d c o=mvE call g rest s k d c' o':=by rw[h,h']
theorem SN {call:Nat→List AV→Option AV} {g d:Nat} {rest:List AV} {st:St} {e sz n:Nat} {cs:List AV} (hr:∀x∈rest,Flat x) (hc:call g (.v (.slice none 0 0) :: rest)=some (.uniq e sz n cs)) :
 lH call g (.v (.slice none 0 0) :: rest) st (some d)=some { dst:=some d,val:=.own d (st.aQ d),new:=some (d,[.row e sz n cs])}:=by
 have hf:∀x∈AV.v (.slice none 0 0) :: rest,Flat x:=by
  intro x hx;rcases List.mem_cons.1 hx with rfl|hx
  ·exact .v _
  ·exact hr x hx
 have hnf:¬Flat (.uniq e sz n cs):=by intro h;cases h
 unfold lH;simp only[if_pos hf];unfold aN;rw[if_pos hf,hc];simp only[cD];unfold iW;rw[if_neg hnf];rfl
theorem LH {P:Program} {fn:Func} {st:St} {e:Ex} {r:ResultVar} {s g ee sz n:Nat} {cs:List AV} (he:e=.ret∨e=.normal) (hr:fn.results.toList=[r]) (h1:jW P st r=some (.own s g)) (h2:st.heap s g=some (.row ee sz n cs)) (hm:∀c∈cs,fM c) :
 n8 P fn (e,st)=some (.uniq ee sz n cs):=by
 have h:Aa P fn st=some (.uniq ee sz n cs):=by
  unfold Aa;rw[hr];simp only[h1,h2];rw[if_pos hm]
 rcases he with rfl|rfl<;>exact h
theorem aBG {P:Program} {fn:Func} {st:St} {e:Ex} {r:ResultVar} {s g ee sz n k:Nat} {cs:List AV} (he:e=.ret∨e=.normal) (hr:fn.results.toList=[r]) (h1:jW P st r=some (.vw s g 0 k)) (h2:st.heap s g=some (.row ee sz n cs)) (hk:k≤n) (hl:cs.length=n * sz) (hm:∀c∈cs,fM c) :
 n8 P fn (e,st)=some (.uniq ee sz k (cs.take (k * sz))):=by
 have h:Aa P fn st=some (.uniq ee sz k (cs.take (k * sz))):=by
  unfold Aa;rw[hr];simp only[h1,h2];rw[if_pos ⟨hk,hl,hm⟩]
 rcases he with rfl|rfl<;>exact h
theorem iX (e sz n:Nat) (cs rest:List AV):(St.sQ e sz n cs rest).env 0=.own 0 0:=rfl
theorem mD (e sz n:Nat) (cs rest:List AV) (t:Nat):(St.sQ e sz n cs rest).env (t+1)=(rest[t]?).getD (.v undef):=rfl
theorem iY (e sz n:Nat) (cs rest:List AV):(St.sQ e sz n cs rest).heap 0 0=some (.row e sz n cs):=rfl
theorem kH (e sz n:Nat) (cs rest:List AV):(St.sQ e sz n cs rest).aQ 0=1:=rfl
theorem mE (e sz n:Nat) (cs rest:List AV) (s:Nat) (h:s≠0):(St.sQ e sz n cs rest).aQ s=0:=if_neg h
end Go.Ab
end
section
namespace Go.Ab
open Classical
variable [Ext]
theorem Nh {P:Program} {a:Code} {st:St} {β:Type} {k:Ex × St→Option β} {R:β→Prop} (Q:Ex→St→Prop) (h:∃e st',yH P a st=some (e,st')∧Q e st')
 (rest:∀e st',Q e st'→∃r,k (e,st')=some r∧R r):∃r,cD (yH P a st) k=some r∧R r:=by
 obtain⟨e,s1,h1,h2⟩:=h
 rw[h1];exact rest e s1 h2
theorem Ip {P:Program} {bi:Bool} {a:Code} {st:St} {β:Type} {k:Ex × St→Option β} {R:β→Prop} (Q:Ex→St→Prop) (h:∃e st',wA P bi a st=some (e,st')∧Q e st')
 (rest:∀e st',Q e st'→∃r,k (e,st')=some r∧R r):∃r,cD (wA P bi a st) k=some r∧R r:=by
 obtain⟨e,s1,h1,h2⟩:=h
 rw[h1];exact rest e s1 h2
theorem jR {β:Type} {x:Option β} {v:β} (h:∃r,x=some r∧r=v):x=some v:=by
 obtain⟨r,h,rfl⟩:=h;exact h
theorem PC {P:Program} {id:Nat} {ops:Array Oper} {d:Bool} {st:St} :
 wA P true (.region id ops d) st=cD (mG P true (aC P) (Co P) ops ops.toList st) fun s=>if pU ops s (Ext.dyn id ops.size (rR ops)) then some (.normal,s) else none:=OM rfl
theorem VA (o:Oper) (l:List Oper):rR (o :: l).toArray=o.dst:=by simp[rR]
section
variable {P:Program} {call:Nat→List AV→Option AV} {inl:Nat→List AV→St→Option (AV × St)} {ops:Array Oper} {st:St} {d:Option Nat} {T:Nat} {pos:String} {eN:Array Edge} {g:Option (Nat × Bool)}
theorem aCw (x:Operand):gN P true call inl ops ⟨d,.move x,T,pos,eN,g⟩ st=bZ P call ops ⟨d,.move x,T,pos,eN,g⟩ st:=rfl
theorem C3 (x:Operand):gN P true call inl ops ⟨d,.assign x,T,pos,eN,g⟩ st=bZ P call ops ⟨d,.assign x,T,pos,eN,g⟩ st:=rfl
theorem aCx (x y z:Operand):gN P true call inl ops ⟨d,.pick x y z,T,pos,eN,g⟩ st=bZ P call ops ⟨d,.pick x y z,T,pos,eN,g⟩ st:=rfl
theorem X9 (S:Nat):gN P true call inl ops ⟨d,.alloc S,T,pos,eN,g⟩ st=bZ P call ops ⟨d,.alloc S,T,pos,eN,g⟩ st:=rfl
theorem aF8 (S:Nat) (x:Operand):gN P true call inl ops ⟨d,.box S x,T,pos,eN,g⟩ st=bZ P call ops ⟨d,.box S x,T,pos,eN,g⟩ st:=rfl
theorem Y0 (S:Nat) (x:Array (Nat × Operand)):gN P true call inl ops ⟨d,.build S x,T,pos,eN,g⟩ st=bZ P call ops ⟨d,.build S x,T,pos,eN,g⟩ st:=rfl
theorem BI (S n:Nat) (x:Array (Nat × Operand)):gN P true call inl ops ⟨d,.buildSlice S n x,T,pos,eN,g⟩ st=bZ P call ops ⟨d,.buildSlice S n x,T,pos,eN,g⟩ st:=rfl
theorem HR (S:Nat) (x y:Operand):gN P true call inl ops ⟨d,.makeSlice S x y,T,pos,eN,g⟩ st=bZ P call ops ⟨d,.makeSlice S x y,T,pos,eN,g⟩ st:=rfl
theorem PD (f:Fn) (x y:Array Operand):gN P true call inl ops ⟨d,.makeFunc f x y,T,pos,eN,g⟩ st=bZ P call ops ⟨d,.makeFunc f x y,T,pos,eN,g⟩ st:=rfl
theorem aCy (S:Nat) (x:Operand):gN P true call inl ops ⟨d,.load S x,T,pos,eN,g⟩ st=bZ P call ops ⟨d,.load S x,T,pos,eN,g⟩ st:=rfl
theorem Y1 (S:Nat) (x y:Operand):gN P true call inl ops ⟨d,.store S x y,T,pos,eN,g⟩ st=bZ P call ops ⟨d,.store S x y,T,pos,eN,g⟩ st:=rfl
theorem Y2 (o:BinOp) (S S':Nat) (x y:Operand):gN P true call inl ops ⟨d,.binOp o S x y S',T,pos,eN,g⟩ st=bZ P call ops ⟨d,.binOp o S x y S',T,pos,eN,g⟩ st:=rfl
theorem aCz (o:UnOp) (S:Nat) (x:Operand):gN P true call inl ops ⟨d,.unOp o S x,T,pos,eN,g⟩ st=bZ P call ops ⟨d,.unOp o S x,T,pos,eN,g⟩ st:=rfl
theorem HS (S f:Nat) (x:Operand):gN P true call inl ops ⟨d,.fieldAddr S x f,T,pos,eN,g⟩ st=bZ P call ops ⟨d,.fieldAddr S x f,T,pos,eN,g⟩ st:=rfl
theorem Y3 (S f:Nat) (x:Operand):gN P true call inl ops ⟨d,.field S x f,T,pos,eN,g⟩ st=bZ P call ops ⟨d,.field S x f,T,pos,eN,g⟩ st:=rfl
theorem HT (S:Nat) (x y:Operand):gN P true call inl ops ⟨d,.indexAddr S x y,T,pos,eN,g⟩ st=bZ P call ops ⟨d,.indexAddr S x y,T,pos,eN,g⟩ st:=rfl
theorem VB (S S':Nat) (x:Operand):gN P true call inl ops ⟨d,.convert S S' x,T,pos,eN,g⟩ st=bZ P call ops ⟨d,.convert S S' x,T,pos,eN,g⟩ st:=rfl
theorem VC (x:Operand) (i:Nat):gN P true call inl ops ⟨d,.extract x i,T,pos,eN,g⟩ st=bZ P call ops ⟨d,.extract x i,T,pos,eN,g⟩ st:=rfl
theorem Y4 (S:Nat) (x:Operand) (a b c:Option Operand):gN P true call inl ops ⟨d,.slice S x a b c,T,pos,eN,g⟩ st=bZ P call ops ⟨d,.slice S x a b c,T,pos,eN,g⟩ st:=rfl
theorem VD (b:Builtin) (x:Array Operand) (y:Array Nat):gN P true call inl ops ⟨d,.call ⟨.builtin b,x,y⟩,T,pos,eN,g⟩ st=bZ P call ops ⟨d,.call ⟨.builtin b,x,y⟩,T,pos,eN,g⟩ st:=rfl
theorem aF9 (t:Nat) (x:Array Operand) (y:Array Nat):gN P true call inl ops ⟨d,.call ⟨.value (.tmp t),x,y⟩,T,pos,eN,g⟩ st=bZ P call ops ⟨d,.call ⟨.value (.tmp t),x,y⟩,T,pos,eN,g⟩ st:=rfl
theorem aCA (f:Nat) (x:Array Operand) (y:Array Nat) (h:Ext.inl f d=false):gN P true call inl ops ⟨d,.call ⟨.value (.func f),x,y⟩,T,pos,eN,g⟩ st=bZ P call ops ⟨d,.call ⟨.value (.func f),x,y⟩,T,pos,eN,g⟩ st:=W9 (by unfold Ew;simp[h])
theorem SY (f:Nat) (x:Array Operand) (y:Array Nat) (h:Ext.inl f d=true):gN P true call inl ops ⟨d,.call ⟨.value (.func f),x,y⟩,T,pos,eN,none⟩ st=cD (inl f (x.toList.map st.ev) st) fun r=>some ((st.back r.2).put d r.1):=C0 h
theorem aCB (S a:Nat):gS ⟨d,.load S (.tmp a),T,pos,eN,none⟩=some [a]:=rfl
theorem Y5 (S a:Nat) (x:Operand):gS ⟨d,.store S (.tmp a) x,T,pos,eN,none⟩=some [a]:=rfl
theorem Y6 (S a:Nat) (x:Operand):gS ⟨d,.indexAddr S (.tmp a) x,T,pos,eN,none⟩=some [a]:=rfl
theorem Y7 (S a:Nat) (x y z:Option Operand):gS ⟨d,.slice S (.tmp a) x y z,T,pos,eN,none⟩=some [a]:=rfl
theorem aGa (a:Nat) (y:Array Nat):gS ⟨d,.call ⟨.builtin .len,#[.tmp a],y⟩,T,pos,eN,none⟩=some [a]:=rfl
theorem C4 (a b:Nat) (y:Array Nat):gS ⟨d,.call ⟨.builtin .append,#[.tmp a,.tmp b],y⟩,T,pos,eN,none⟩=some [a,b]:=rfl
theorem Y8 (f a:Nat) (b:Operand) (y:Array Nat) (h:Ext.mv f=true):gS ⟨d,.call ⟨.value (.func f),#[.tmp a,b],y⟩,T,pos,eN,none⟩=some [a]:=by simp[gS,h]
end
end Go.Ab
end
