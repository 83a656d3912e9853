/-
  Part 5 of the proof: an evaluator of programs, its soundness, and what functions of this program compute.
-/
import Derived.Test.YtmcjkemalibacaaGreatK4
set_option linter.all false
set_option maxRecDepth 20000
set_option maxHeartbeats 40000000
section
namespace Go.Ab
open Classical
variable [Ext]
def rd (cs:List AV) (o k:Nat):List AV:=(cs.drop o).take k
def onB {α:Type} (x:AV) (k:Bool→Option α):Option α :=
 match x with
 | .v (.bool b)=>k b
 | _=>none
section
variable (P:Program)
def eK (T:Nat) (cs:List AV) (o:Nat):Option AV :=
 match fO P T with
 | some (true,k)=>if 0<k∧k≤cs.length-o then some (.agg (rd cs o k)) else none
 | some (false,_)=>cs[o]?
 | none=>none
def Ha (st:St) (T:Nat) (x:AV):Option AV :=
 match x with
 | .ip cs o=>eK P T cs o
 | .ptr s g o =>
   match st.heap s g with
   | some (.cells cs)=>eK P T cs o
   | some (.row _ _ _ cs)=>eK P T cs o
   | some (.yD _ _ _ cs)=>eK P T cs o
   | _=>none
 | _=>none
theorem Xn (T:Nat) (cs:List AV) (o:Nat):yE P T (cs.drop o)=eK P T cs o:=by
 unfold yE eK;cases fO P T with
 | none=>rfl
 | some bk =>
   obtain⟨b,k⟩:=bk
   cases b
   ·simp
   ·simp[rd]
theorem Rc (st:St) (T:Nat) (x:AV):cH (qN st x) (yE P T)=Ha P st T x:=by
 cases x<;>simp only[qN,cH,Ha,Xn]
 split<;>rename_i h
 ·split at h
  ·rename_i h';cases h;rw[h'];exact Xn P T _ _
  ·rename_i h';cases h;rw[h'];exact Xn P T _ _
  ·rename_i h';cases h;rw[h'];exact Xn P T _ _
  ·cases h
 ·split at h
  ·cases h
  ·cases h
  ·cases h
  ·rename_i h1 h2 h3;split<;>first|rfl|(rename_i h';first|exact absurd h' (h1 _)|exact absurd h' (h2 _ _ _ _)|exact absurd h' (h3 _ _ _ _))
def Xo (st:St) (T:Nat) (a x:AV):Option St:=(pV P st T a x).map fun u=>st.jA u.1 u.2.1 (some u.2.2)
variable {P}
variable {call:Nat→List AV→Option AV} {ops:Array Oper} {st:St} {d:Option Nat} {T:Nat} {pos:String} {eH:Array Edge}
@[congr] theorem aIS {α β:Type} {x y:Option α} {f:α→Option β} (h:x=y):cH x f=cH y f:=by rw[h]
@[congr] theorem aIT {α:Type} {x y:AV} {k:Bool→Option α} (h:x=y):onB x k=onB y k:=by rw[h]
@[congr] theorem aE5 {l:List Oper} {s t:St} (h:s=t):Oy P call ops l s=Oy P call ops l t:=by rw[h]
@[congr] theorem aGD {o:Oper} {s t:St} (h:s=t):cD P call ops o s=cD P call ops o t:=by rw[h]
@[congr] theorem aIU {c:Code} {s t:St} (h:s=t):yS P c s=yS P c t:=by rw[h]
theorem cK {α β:Type} (a:α) (f:α→Option β):cH (some a) f=f a:=rfl
theorem zW {α β:Type} (f:α→Option β):cH none f=none:=rfl
theorem Ed {α:Type} (b:Bool) (k:Bool→Option α):onB (.v (.bool b)) k=k b:=rfl
theorem zB:Oy P call ops [] st=some st:=rfl
theorem wD (o:Oper) (l:List Oper):Oy P call ops (o :: l) st=cH (cD P call ops o st) (Oy P call ops l):=rfl
theorem dN (op:Op):cD P call ops ⟨d,op,T,pos,eH,none⟩ st=(dG P call ⟨d,op,T,pos,eH,none⟩ st).map fun e=>e.apply st:=rfl
theorem Kq (x:Operand):cD P call ops ⟨d,.move x,T,pos,eH,none⟩ st=some (st.put d (st.ev x)):=rfl
theorem zC (x:Operand):cD P call ops ⟨d,.assign x,T,pos,eH,none⟩ st=some (st.put d (st.ev x)):=rfl
theorem Kr (c a b:Operand):cD P call ops ⟨d,.pick c a b,T,pos,eH,none⟩ st=onB (st.ev c) fun t=>some (st.put d (if t=true then st.ev a else st.ev b)):=by
 rw[dN];simp only[dG,iT];cases st.ev c<;>try rfl
 rename_i x;cases x<;>rfl
theorem Ee (op:BinOp) (S:Nat) (x y:Operand) (yT:Nat):cD P call ops ⟨d,.binOp op S x y yT,T,pos,eH,none⟩ st=cH (gB P op S (st.ev x) (st.ev y)) fun v=>some (st.put d v):=by
 rw[dN];simp only[dG,iT];cases gB P op S (st.ev x) (st.ev y)<;>rfl
theorem aCV (op:UnOp) (S:Nat) (x:Operand):cD P call ops ⟨d,.unOp op S x,T,pos,eH,none⟩ st=cH (unA op (st.ev x)) fun v=>some (st.put d v):=by
 rw[dN];simp only[dG,iT];cases unA op (st.ev x)<;>rfl
def Mn (P:Program) (src dst:Nat) (x:AV):Option AV :=
 match x,intKind P dst,intKind P src with
 | .v (.int _ n),some k,some _=>some (.v (.int k (k.wrap n)))
 | _,_,_=>none
theorem wE (src dst:Nat) (x:Operand):cD P call ops ⟨d,.convert src dst x,T,pos,eH,none⟩ st=cH (Mn P src dst (st.ev x)) fun v=>some (st.put d v):=by
 rw[dN];simp only[dG,iT];show Option.map _ (Option.map _ (Mn P src dst (st.ev x)))=_
 cases Mn P src dst (st.ev x)<;>rfl
theorem Ef (S:Nat) (x:Operand) (f:Nat):cD P call ops ⟨d,.field S x f,T,pos,eH,none⟩ st=cH (Mx P S f (st.ev x)) fun v=>some (st.put d v):=by
 rw[dN];simp only[dG,iT];cases Mx P S f (st.ev x)<;>rfl
theorem XR {S f off k:Nat} {cs:List AV} (h:fieldInfo P S f=some (off,false,k)):Mx P S f (.agg cs)=cs[off]?:=by
 simp only[Mx,h]
theorem KS (S:Nat) (x:Operand) (f:Nat):cD P call ops ⟨d,.fieldAddr S x f,T,pos,eH,none⟩ st=cH (aU P S f) fun k=>cH (vL (st.ev x) k) fun v=>some (st.put d v):=by
 rw[dN];simp only[dG,iT];cases aU P S f with
 | none=>rfl
 | some k =>
   simp only[cH];cases vL (st.ev x) k<;>rfl
theorem KT (S:Nat) (x i:Operand):cD P call ops ⟨d,.indexAddr S x i,T,pos,eH,none⟩ st=cH (bD P st S (st.ev x) (st.ev i)) fun v=>some (st.put d v):=by
 rw[dN];simp only[dG,iT];cases bD P st S (st.ev x) (st.ev i)<;>rfl
theorem aCW (S:Nat) (x:Operand):cD P call ops ⟨d,.load S x,T,pos,eH,none⟩ st=cH (Ha P st S (st.ev x)) fun v=>some (st.put d v):=by
 rw[dN];simp only[dG,iT,Rc];cases Ha P st S (st.ev x)<;>rfl
def dY (x:AV) (i:Nat):Option AV :=
 match x with
 | .eG vs=>vs[i]?
 | _=>none
theorem XS (t:Operand) (i:Nat):cD P call ops ⟨d,.extract t i,T,pos,eH,none⟩ st=cH (dY (st.ev t) i) fun v=>some (st.put d v):=by
 rw[dN];simp only[dG,iT];show Option.map _ (Option.map _ (dY (st.ev t) i))=_
 cases dY (st.ev t) i<;>rfl
theorem aAq (S:Nat) (parts:Array (Nat × Operand)):cD P call ops ⟨d,.build S parts,T,pos,eH,none⟩ st=cH (iS P st S parts.toList) fun v=>some (st.put d v):=by
 rw[dN];simp only[dG,iT];cases iS P st S parts.toList<;>rfl
theorem aAr (S:Nat) (x:Operand) (lo hi:Option Operand):cD P call ops ⟨d,.slice S x lo hi none,T,pos,eH,none⟩ st=cH (cX P st S (st.ev x) lo hi) fun v=>some (st.put d v):=by
 rw[dN];simp only[dG,iT];cases cX P st S (st.ev x) lo hi<;>rfl
theorem aAs (S d:Nat):cD P call ops ⟨some d,.alloc S,T,pos,eH,none⟩ st=cH (dW P S) fun z=>some ((st.new d (.cells (z.map .v))).put (some d) (.ptr d (st.aP d) 0)):=by
 rw[dN];simp only[dG,cH];cases dW P S with
 | none=>rfl
 | some z=>simp only[Option.map_some,lG]
theorem aGE (S d:Nat) (x:Operand):cD P call ops ⟨some d,.box S x,T,pos,eH,none⟩ st=if (st.ev x).jQ=true then some ((st.new d (.cells (st.ev x).cells)).put (some d) (.ptr d (st.aP d) 0)) else none:=by
 rw[dN];simp only[dG,cH];split
 ·simp only[Option.map_some,lG]
 ·rfl
theorem aAt (S:Nat) (x y:Operand):cD P call ops ⟨d,.store S x y,T,pos,eH,none⟩ st=cH (Xo P st S (st.ev x) (st.ev y)) fun s=>some (s.put d (.v undef)):=by
 rw[dN];simp only[dG,Xo];cases pV P st S (st.ev x) (st.ev y)<;>rfl
theorem aCX (g:Nat) (args:Array Operand) (rZ:Array Nat) (h:Ext.mv g=false) (h2:Ext.eat g d=false) (h3:Ext.A3 g d=false:=by rfl):cD P call ops ⟨d,.call ⟨.value (.func g),args,rZ⟩,T,pos,eH,none⟩ st=cH (aM call g (args.toList.map st.ev) st d) fun e=>some (e.apply st):=by
 rw[dN];simp only[dG,gZ,mX,h,h2,h3,Bool.false_eq_true,if_false];cases aM call g (args.toList.map st.ev) st d<;>rfl
theorem G5 (g:Nat) (args:Array Operand) (rZ:Array Nat) (h:Ext.mv g=false) (h2:Ext.eat g d=false) (h3:Ext.A3 g d=true):cD P call ops ⟨d,.call ⟨.value (.func g),args,rZ⟩,T,pos,eH,none⟩ st=cH (nK call g (args.toList.map st.ev) st d) fun e=>some (e.apply st):=by
 rw[dN];simp only[dG,gZ,mX,h,h2,h3,Bool.false_eq_true,if_false,if_true];cases nK call g (args.toList.map st.ev) st d<;>rfl
theorem aAu (g:Nat) (args:Array Operand) (rZ:Array Nat) (h:Ext.mv g=true):cD P call ops ⟨d,.call ⟨.value (.func g),args,rZ⟩,T,pos,eH,none⟩ st=cH (lI call g (args.toList.map st.ev) st d) fun e=>some (e.apply st):=by
 rw[dN];simp only[dG,gZ,mX,h,if_true];cases lI call g (args.toList.map st.ev) st d<;>rfl
theorem XT (g:Nat) (args:Array Operand) (rZ:Array Nat) (h:Ext.mv g=false) (h2:Ext.eat g d=true):cD P call ops ⟨d,.call ⟨.value (.func g),args,rZ⟩,T,pos,eH,none⟩ st=cH (eI call g (args.toList.map st.ev) st d) fun e=>some (e.apply st):=by
 rw[dN];simp only[dG,gZ,mX,h,h2,Bool.false_eq_true,if_false,if_true];cases eI call g (args.toList.map st.ev) st d<;>rfl
theorem aAv (t:Nat) (args:Array Operand) (rZ:Array Nat) {g:Nat} {oY:List AV} (h:st.env t=.Da g oY):cD P call ops ⟨d,.call ⟨.value (.tmp t),args,rZ⟩,T,pos,eH,none⟩ st=cH (aM call g (args.toList.map st.ev++oY) st d) fun e=>some (e.apply st):=by
 rw[dN];simp only[dG,gZ,mX,St.ev,h,HY];show Option.map _ (aM call g (args.toList.map st.ev++oY) st d)=cH (aM call g (args.toList.map st.ev++oY) st d) _
 cases aM call g (args.toList.map st.ev++oY) st d<;>rfl
theorem I4 (S:Nat) (x:Operand) (lo:Option Operand) (hi mx:Operand):cD P call ops ⟨d,.slice S x lo (some hi) (some mx),T,pos,eH,none⟩ st=cH (wM P st S (st.ev x) lo hi mx) fun v=>some (st.put d v):=by
 rw[dN];simp only[dG,iT];cases wM P st S (st.ev x) lo hi mx<;>rfl
theorem I5 (S:Nat) (x i:Operand) (ok:Bool):cD P call ops ⟨d,.lookup S x i ok,T,pos,eH,none⟩ st=cH (Us P st S (st.ev x) (st.ev i) ok) fun v=>some (st.put d v):=by
 rw[dN];simp only[dG,iT];cases Us P st S (st.ev x) (st.ev i) ok<;>rfl
theorem XU (S d:Nat):cD P call ops ⟨some d,.makeMap S none,T,pos,eH,none⟩ st=some ((st.new d (.map [])).put (some d) (.mp d (st.aP d))):=by
 rw[dN];simp only[dG,cH,Option.map_some,lG]
theorem KU (S:Nat) (m x y:Operand):cD P call ops ⟨d,.mapUpdate S m x y,T,pos,eH,none⟩ st=cH (tZ P st S (st.ev m) (st.ev x) (st.ev y)) fun u=>some ((st.jA u.1 u.2.1 (some u.2.2)).put d (.v undef)):=by
 rw[dN];simp only[dG];cases tZ P st S (st.ev m) (st.ev x) (st.ev y)<;>rfl
theorem QY (g:Nat) (oY:Array Operand):cD P call ops ⟨d,.makeFunc (.func g) #[] oY,T,pos,eH,none⟩ st=some (st.put d (.Da g (oY.toList.map st.ev))):=by
 rw[dN];simp only[dG,iT,if_true,Option.map_some];rfl
theorem kX (S n d:Nat) (parts:Array (Nat × Operand)):cD P call ops ⟨some d,.buildSlice S n parts,T,pos,eH,none⟩ st=cH (dL P S) fun t=>cH (dW P t.1) fun z =>
 if (0<n∨parts=#[])∧n * t.2.1≤2 ^ 24∧(parts.toList.all fun p=>(st.ev p.2).jQ)=true then
  cH (gR (fun i=>some (i * t.2.1,t.2.1)) ((List.range n).flatMap fun _=>z.map .v) (parts.toList.map fun p=>(p.1,st.ev p.2))) fun cs =>
   some ((st.new d (.row t.1 t.2.1 n cs)).put (some d) (.own d (st.aP d)))
 else none:=by
 rw[dN];simp only[dG,cH];cases dL P S with
 | none=>rfl
 | some t =>
   simp only
   cases dW P t.1 with
   | none=>rfl
   | some z =>
     simp only
     split
     ·cases gR (fun i=>some (i * t.2.1,t.2.1)) ((List.range n).flatMap fun _=>z.map .v) (parts.toList.map fun p=>(p.1,st.ev p.2)) with
      | none=>rfl
      | some cs=>simp only[Option.map_some,lG]
     ·rfl
theorem KV (S d:Nat) (l c:Operand) {n:Nat} (hl:st.ev l=.v (.int .i64 n)) (hc:st.ev c=.v (.int .i64 n)):cD P call ops ⟨some d,.makeSlice S l c,T,pos,eH,none⟩ st=cH (dL P S) fun t=>cH (dW P t.1) fun z =>
 if (n:Int) * t.2.2≤140737488355328∧(n:Int)≤maxLen then some ((st.new d (.row t.1 t.2.1 n ((List.range n).flatMap fun _=>z.map .v))).put (some d) (.own d (st.aP d))) else none:=by
 rw[dN];simp only[dG,cH,hl,hc];cases dL P S with
 | none=>rfl
 | some t =>
   simp only
   cases dW P t.1 with
   | none=>rfl
   | some z =>
     simp only[Int.toNat_natCast,Int.natCast_nonneg,true_and];split
     ·simp only[Option.map_some,lG]
     ·rfl
theorem aGF (x:Operand) (S:Nat) (rZ:Array Nat) (h:rZ=#[S]):cD P call ops ⟨d,.call ⟨.builtin .len,#[x],rZ⟩,T,pos,eH,none⟩ st=cH (dL P S) fun _=>cH (aQ st (st.ev x)) fun nc=>some (st.put d (.v (.int .i64 nc.1))):=by
 subst h;rw[dN];simp only[dG,gZ];cases dL P S with
 | none=>rfl
 | some t=>cases aQ st (st.ev x) with
   | none=>rfl
   | some nc=>cases nc;rfl
theorem aCY (x:Operand) (S:Nat):cD P call ops ⟨d,.call ⟨.builtin .len,#[x],#[S]⟩,T,pos,eH,none⟩ st=cH (dL P S) fun _=>cH (aQ st (st.ev x)) fun nc=>some (st.put d (.v (.int .i64 nc.1))):=aGF x S #[S] rfl
theorem HS (s x:Operand) (S d:Nat) (rZ:Array Nat) (h:rZ=#[S,S]) (hv:Ext.va S d=false) (hp:¬(Ext.pa S d=true∧Hw P st S (st.ev s) (st.ev x))):cD P call ops ⟨some d,.call ⟨.builtin .append,#[s,x],rZ⟩,T,pos,eH,none⟩ st=cH (cZ P st S (st.ev s) (st.ev x)) fun ur =>
 some (((match ur.1 with|some p=>st.jA p.1 p.2 none|none=>st).new d ur.2).put (some d) (.own d (st.aP d))):=by
 subst h;rw[dN];simp only[dG,gZ,cH,if_true,hv,Bool.false_eq_true,if_false];rw[if_neg hp];cases cZ P st S (st.ev s) (st.ev x) with
 | none=>rfl
 | some ur =>
   obtain⟨u,r⟩:=ur
   cases u with
   | none=>simp only[Option.map_some,Option.map_none,lG]
   | some p=>simp only[Option.map_some,Tn]
theorem BM (s x:Operand) (S d:Nat) (hv:Ext.va S d=false) (hp:Ext.pa S d=false):cD P call ops ⟨some d,.call ⟨.builtin .append,#[s,x],#[S,S]⟩,T,pos,eH,none⟩ st=cH (cZ P st S (st.ev s) (st.ev x)) fun ur =>
 some (((match ur.1 with|some p=>st.jA p.1 p.2 none|none=>st).new d ur.2).put (some d) (.own d (st.aP d))):=HS s x S d #[S,S] rfl hv (by rw[hp];exact fun h=>absurd h.1 (by simp))
theorem aAw (s x:Operand) (S d:Nat) (hv:Ext.va S d=false) (hp:Ext.pa S d=true) (hn:¬(st.ev s=.v (.slice none 0 0)∧(aQ st (st.ev x)).map Prod.fst=some 0)):cD P call ops ⟨some d,.call ⟨.builtin .append,#[s,x],#[S,S]⟩,T,pos,eH,none⟩ st=cH (cZ P st S (st.ev s) (st.ev x)) fun ur =>
 some (((match ur.1 with|some p=>st.jA p.1 p.2 none|none=>st).new d ur.2).put (some d) (.own d (st.aP d))):=HS s x S d #[S,S] rfl hv (fun h=>hn ⟨h.2.1,h.2.2.2⟩)
theorem aAx (s x:Operand) (S d:Nat) (hv:Ext.va S d=false) (hp:Ext.pa S d=true) (hi:(dL P S).isSome=true) (h1:st.ev s=.v (.slice none 0 0)) (h2:(aQ st (st.ev x)).map Prod.fst=some 0):cD P call ops ⟨some d,.call ⟨.builtin .append,#[s,x],#[S,S]⟩,T,pos,eH,none⟩ st=some (st.put (some d) (.v (.slice none 0 0))):=by
 rw[dN];simp only[dG,gZ,cH,if_true,hv,Bool.false_eq_true,if_false];rw[if_pos ⟨hp,h1,hi,h2⟩];simp only[qE.apply];rfl
theorem WM (s x:Operand) (S d:Nat) (hv:Ext.va S d=true):cD P call ops ⟨some d,.call ⟨.builtin .append,#[s,x],#[S,S]⟩,T,pos,eH,none⟩ st=cH (kS P st S (st.ev s) (st.ev x)) fun u =>
 some ((st.jA u.1 u.2.1 (some u.2.2.1)).put (some d) (.vw u.1 u.2.1 0 u.2.2.2)):=by
 rw[dN];simp only[dG,gZ,cH,if_true,hv];cases kS P st S (st.ev s) (st.ev x) with
 | none=>rfl
 | some u=>rfl
theorem W9 (x:Operand) (S:Nat):cD P call ops ⟨d,.call ⟨.builtin .clear,#[x],#[S]⟩,T,pos,eH,none⟩ st=cH (uA P st S (st.ev x)) fun u =>
 some ((match u with|some p=>st.jA p.1 p.2.1 (some p.2.2)|none=>st).put d (.eG [])):=by
 rw[dN];simp only[dG,gZ];cases uA P st S (st.ev x) with
 | none=>rfl
 | some u=>cases u<;>rfl
theorem Eg (x:Value):st.ev (.const x)=.v x:=rfl
theorem Ts (t:Nat):st.ev (.tmp t)=st.env t:=rfl
theorem Kt (t d:Nat) (x:AV):(st.put (some d) x).env t=if t=d then x else st.env t:=rfl
theorem rT (t:Nat) (x:AV):(st.put none x).env t=st.env t:=rfl
theorem Ku (t d:Nat) (e:mV):(st.new d e).env t=st.env t:=rfl
theorem Eh (t s g:Nat) (e:Option mV):(st.jA s g e).env t=st.env t:=rfl
theorem Kv (t:Nat) (d:Option Nat) (x:AV):(st.put d x).aP t=st.aP t:=by cases d<;>rfl
theorem Kw (t d:Nat) (e:mV):(st.new d e).aP t=if t=d then st.aP d+1 else st.aP t:=rfl
theorem Ei (t s g:Nat) (e:Option mV):(st.jA s g e).aP t=st.aP t:=rfl
theorem Ej (s g:Nat) (d:Option Nat) (x:AV):(st.put d x).heap s g=st.heap s g:=by cases d<;>rfl
theorem sV (s g d:Nat) (e:mV):(st.new d e).heap s g=if s=d∧g=st.aP d then some e else st.heap s g:=rfl
theorem pU (s g s0 g0:Nat) (e:Option mV):(st.jA s0 g0 e).heap s g=if s=s0∧g=g0 then e else st.heap s g:=rfl
theorem Ek (t:Nat) (xs:List AV):(St.init xs).env t=(xs[t]?).getD (.v undef):=rfl
theorem El (t:Nat) (xs:List AV):(St.init xs).aP t=0:=rfl
theorem zD (s g:Nat) (xs:List AV):(St.init xs).heap s g=none:=rfl
theorem Em (x:AV):st.put none x=st:=rfl
theorem tT (d:Option Nat) (x:AV):({ dst:=d,val:=x }:qE).apply st=st.put d x:=rfl
theorem I6 (d:Option Nat) (x:AV) (n:Nat) (e:mV):({ dst:=d,val:=x,new:=some (n,[e])}:qE).apply st=(st.new n e).put d x:=lG d x n e
theorem I7 (d:Option Nat) (x:AV) (s g:Nat) (e:Option mV):({ dst:=d,val:=x,dJ:=some (s,g,e)}:qE).apply st=(st.jA s g e).put d x:=rfl
theorem KW (d:Option Nat) (x:AV) (s g n:Nat) (z:Option mV) (e:mV):({ dst:=d,val:=x,dJ:=some (s,g,z),new:=some (n,[e])}:qE).apply st=((st.jA s g z).new n e).put d x:=Tn d x s g n z e
theorem bI {g:Nat} {args:List AV} {r:AV} (hf:∀x∈args,Flat x) (h:call g args=some r) (hr:Flat r):aM call g args st d=some { dst:=d,val:=r }:=by
 unfold aM;rw[if_pos hf,h];simp only[cH,iU,if_pos hr]
theorem jF {g:Nat} {args:List AV} {d e sz n:Nat} {cs:List AV} (hf:∀x∈args,Flat x) (h:call g args=some (.uniq e sz n cs)) :
 aM call g args st (some d)=some { dst:=some d,val:=.own d (st.aP d),new:=some (d,[.row e sz n cs])}:=by
 unfold aM;rw[if_pos hf,h];have:¬Flat (.uniq e sz n cs):=by intro h;cases h
 simp only[cH,iU,if_neg this];rfl
end
end Go.Ab
end
section
namespace Go.Ab
open Classical
abbrev cA:=Vector Int 32
abbrev rL:=Vector Int 4
def sS (x:Int):List AV:=[.v (.int .u64 x)]
def pX (x:Int):List AV:=[.v (.int .i64 x)]
def vF (x:Bool):List AV:=[.v (.bool x)]
def aV (r:cA):List AV:=r.toList.map fun x=>.v (.int .u8 x)
def gF (r:rL):List AV:=r.toList.map fun x=>.v (.int .u64 x)
@[simp] theorem aW (x:Int):(sS x).length=1:=rfl
@[simp] theorem bC (x:Int):(pX x).length=1:=rfl
@[simp] theorem gU (x:Bool):(vF x).length=1:=rfl
@[simp] theorem aL (r:cA):(aV r).length=32:=by simp[aV]
@[simp] theorem dR (r:rL):(gF r).length=4:=by simp[gF]
theorem dZ (x:Int):∀y∈sS x,Flat y:=by intro y hy;simp[sS] at hy;subst hy;exact .v _
theorem mI (x:Int):∀y∈pX x,Flat y:=by intro y hy;simp[pX] at hy;subst hy;exact .v _
theorem mK (x:Bool):∀y∈vF x,Flat y:=by intro y hy;simp[vF] at hy;subst hy;exact .v _
theorem dF (x:cA):∀y∈aV x,Flat y:=by intro y hy;obtain⟨z,_,rfl⟩:=List.mem_map.1 hy;exact .v _
theorem iM (x:rL):∀y∈gF x,Flat y:=by intro y hy;obtain⟨z,_,rfl⟩:=List.mem_map.1 hy;exact .v _
theorem QZ (x:Int):∀y∈sS x,fR y:=by intro y hy;simp[sS] at hy;subst hy;exact .v _
theorem aAy (x:Int):∀y∈pX x,fR y:=by intro y hy;simp[pX] at hy;subst hy;exact .v _
theorem I8 (x:cA):∀y∈aV x,fR y:=by intro y hy;obtain⟨z,_,rfl⟩:=List.mem_map.1 hy;exact .v _
theorem Nz {α:Type} (c:α→List AV) (z:Nat) (hz:∀a,(c a).length=z):∀(l:List α) (i:Nat) (h:i<l.length),rd (l.flatMap c) (i * z) z=c l[i]
 | [],i,h=>by simp at h
 | a :: l,0,h=>by simp[rd,List.take_append,hz,List.take_of_length_le]
 | a :: l,i+1,h=>by
   have ih:=Nz c z hz l i (by simpa using h)
   simp only[List.flatMap_cons,List.getElem_cons_succ];rw[← ih];simp only[rd];rw[List.drop_append,List.drop_of_length_le (by rw[hz,Nat.succ_mul];omega),hz,Nat.succ_mul]
   simp
theorem oQ (a b:cA):aV a=aV b↔a=b:=by
 constructor
 ·intro h;unfold aV at h;have h2:a.toList=b.toList:=by
   have:=congrArg (List.map (fun x:AV=>match x with|.v (.int _ n)=>n|_=>0)) h
   simpa [List.map_map,Function.comp_def] using this
  exact Vector.toList_inj.1 h2
 ·intro h;rw[h]
theorem Tt (a b:rL):gF a=gF b↔a=b:=by
 constructor
 ·intro h;unfold gF at h;have h2:a.toList=b.toList:=by
   have:=congrArg (List.map (fun x:AV=>match x with|.v (.int _ n)=>n|_=>0)) h
   simpa [List.map_map,Function.comp_def] using this
  exact Vector.toList_inj.1 h2
 ·intro h;rw[h]
def dJ (cs:List AV) (o:Nat) (xs:List AV) (e:Nat):List AV:=cs.take o++xs++cs.drop e
section
variable {a b xs:List AV} {n o o' e e' k:Nat}
theorem bH (h:xs=b):a++xs=a++b:=by rw[h]
theorem Gl (h:xs=b):xs++a=b++a:=by rw[h]
theorem aZ (h:o'=o+n) (ha:a.length=n):rd (a++b) o' k=rd b o k:=by
 subst h;subst ha;simp only[rd];rw[List.drop_append,List.drop_of_length_le (by omega),List.nil_append,show o+a.length-a.length=o by omega]
theorem gH (ha:a.length=n):rd (a++b) 0 n=a:=by
 subst ha;simp[rd]
theorem iZ (ha:a.length=n):rd a 0 n=a:=by
 subst ha;simp[rd]
theorem qJ (h:o+k≤a.length):rd (a++b) o k=rd a o k:=by
 simp only[rd];rw[List.drop_append,List.take_append,show o-a.length=0 by omega,show k-(a.drop o).length=0 by simp;omega]
 simp
theorem aG (h:o'=o+n) (ha:a.length=n):(a++b)[o']? = b[o]?:=by
 subst h;subst ha;rw[List.getElem?_append_right (by omega),show o+a.length-a.length=o by omega]
theorem eE (h:o<a.length):(a++b)[o]? = a[o]?:=List.getElem?_append_left h
theorem aD (h:o'=o+n) (h':e'=e+n) (ha:a.length=n):dJ (a++b) o' xs e'=a++dJ b o xs e:=by
 subst h;subst h';subst ha;simp only[dJ];rw[List.take_append,List.take_of_length_le (by omega),List.drop_append,List.drop_of_length_le (by omega),show o+a.length-a.length=o by omega,show e+a.length-a.length=e by omega]
 simp
theorem cJ (ha:a.length=n):dJ (a++b) 0 xs n=xs++b:=by
 subst ha;simp[dJ]
theorem eD (ha:a.length=n):dJ a 0 xs n=xs:=by
 subst ha;simp[dJ]
theorem uQ (h:o≤e∧e≤a.length):dJ (a++b) o xs e=dJ a o xs e++b:=by
 simp only[dJ];rw[List.take_append,List.drop_append,show o-a.length=0 by omega,show e-a.length=0 by omega]
 simp
end
theorem En (a b:Int):sS a=sS b↔a=b:=by simp[sS]
theorem uR (a b:Int):pX a=pX b↔a=b:=by simp[pX]
theorem HT (a b:Bool):vF a=vF b↔a=b:=by simp[vF]
def dE:cA:=Vector.replicate 32 0
def HU:rL:=Vector.replicate 4 0
def tQ:List Value:=List.replicate 32 (.int .u8 0)
def BN:List Value:=List.replicate 4 (.int .u64 0)
theorem jM:tQ.map AV.v=aV dE:=by simp[tQ,aV,dE]
theorem jN:BN.map AV.v=gF HU:=by simp[BN,gF,HU]
def Hb:List Bool:=List.replicate 32 true
def w8:List Bool:=List.replicate 4 true
theorem eP {l m:List Bool}:∀ {xs ys xs' ys':List AV},hU l xs ys→hU m xs' ys'→hU (l++m) (xs++xs') (ys++ys'):=by
 induction l with
 | nil=>intro xs ys xs' ys' h h';cases xs<;>cases ys<;>first|exact h'|exact h.elim
 | cons b l ih =>
   intro xs ys xs' ys' h h'
   cases b
   ·cases xs with
    | nil=>exact h.elim
    | cons x xs=>cases ys with
      | nil=>unfold hU at h;split at h<;>first|exact h.elim|simp_all
      | cons y ys =>
        unfold hU at h;split at h<;>simp_all [hU]
   ·cases xs with
    | nil=>exact h.elim
    | cons x xs=>cases ys with
      | nil=>unfold hU at h;split at h<;>first|exact h.elim|simp_all
      | cons y ys =>
        unfold hU at h;split at h<;>simp_all [hU]
theorem Oa (k:IntKind):∀(a b:List Int),a.length=b.length→hU (List.replicate a.length true) (a.map fun x=>.v (.int k x)) (b.map fun x=>.v (.int k x))
 | [],[],_=>trivial
 | [],_ :: _,h=>by simp at h
 | _ :: _,[],h=>by simp at h
 | a :: l,b :: m,h=>⟨rfl,Oa k l m (by simpa using h)⟩
theorem mM (a b:cA):hU Hb (aV a) (aV b):=by
 have:=Oa .u8 a.toList b.toList (by simp)
 rw[Vector.length_toList] at this;exact this
theorem Ob (a b:rL):hU w8 (gF a) (gF b):=by
 have:=Oa .u64 a.toList b.toList (by simp)
 rw[Vector.length_toList] at this;exact this
def RA (P:Program) (T:Nat):Option (List (Nat × Nat)) :=
 match P.underlying T with
 | some (.struct fs)=>if fs.all (fun f=>(P.info? f.type).isSome) then some (fs.toList.map fun f=>(f.offset,P.cellsOf f.type)) else none
 | _=>none
def RC (P:Program) (T:Nat):Option Nat :=
 match P.underlying T with
 | some (.array _ e)=>if (P.info? e).isSome then some (P.cellsOf e) else none
 | _=>none
theorem fB {P:Program} {T:Nat} {l:List (Nat × Nat)} (h:RA P T=some l):placeOf P T=some fun i=>l[i]?:=by
 unfold RA at h;unfold placeOf;split at h
 ·rename_i fs hu;split at h
  ·rename_i Nv;simp only[Option.some.injEq] at h;subst h;simp only[hu,Nv,if_true];congr 1
   funext i
   simp
  ·cases h
 ·cases h
theorem Vq {P:Program} {T k:Nat} (h:RC P T=some k):placeOf P T=some fun i=>some (i * k,k):=by
 unfold RC at h;unfold placeOf;split at h
 ·rename_i n e hu;split at h
  ·rename_i Nv;simp only[Option.some.injEq] at h;subst h;simp only[hu,Nv,if_true]
  ·cases h
 ·cases h
theorem iD {P:Program} {st:St} {T:Nat} {parts:List (Nat × Operand)} {z:List Value} {place:Nat→Option (Nat × Nat)} {c:List AV} (hz:dW P T=some z) (hc:z.map AV.v=c) (hp:placeOf P T=some place) :
 iS P st T parts=if (parts.all fun p=>(st.ev p.2).jQ)=true then (gR place c (parts.map fun p=>(p.1,st.ev p.2))).map .agg else none:=by
 simp only[iS,hz,hp,hc]
theorem OD (place:Nat→Option (Nat × Nat)) (c:List AV):gR place c []=some c:=rfl
theorem GO (place:Nat→Option (Nat × Nat)) (c:List AV) (i:Nat) (x:AV) (r:List (Nat × AV)):gR place c ((i,x) :: r)=cH (place i) fun os =>
 if x.cells.length=os.2∧os.1+os.2≤c.length then gR place (dJ c os.1 x.cells (os.1+os.2)) r else none:=by
 simp only[gR];cases place i<;>rfl
theorem rE {P:Program} {T:Nat} {l:List Bool} {xs ys:List AV} {p:Prop} [Decidable p] (hl:eZ P 20 T=some l) (ha:dA P T=true) (hg:P.eqGuardType P.depth T=false) (hf:hU l xs ys) (hp:xs=ys↔p) :
 vB P T xs ys=some (decide p):=by
 unfold vB;rw[hl];simp only[ha,hg,hf,and_self,if_true];congr 1
 rw[Bool.eq_iff_iff];simp[hp]
def sY (P:Program) (T:Nat):Option Nat :=
 match fO P T with
 | some (_,k)=>some k
 | none=>none
theorem I9 {P:Program} {st:St} {T s g o:Nat} {x:AV}:Xo P st T (.ptr s g o) x=cH (sY P T) fun k=>if x.cells.length=k∧x.jQ=true then
 (match st.heap s g with
  | some (.cells cs)=>if o+k≤cs.length then some (st.jA s g (some (.cells (dJ cs o x.cells (o+k))))) else none
  | some (.row e sz n cs)=>if o+k≤cs.length then some (st.jA s g (some (.row e sz n (dJ cs o x.cells (o+k))))) else none
  | _=>none) else none:=by
 simp only[Xo,pV,sY];cases fO P T with
 | none=>rfl
 | some bk =>
   obtain⟨b,k⟩:=bk
   simp only[cH];split
   ·split
    ·rename_i h;simp only[h];split<;>rfl
    ·rename_i h;simp only[h];split<;>rfl
    ·rename_i h1 h2;split<;>rename_i h<;>first|rfl|exact absurd h (h1 _)|exact absurd h (h2 _ _ _ _)
   ·rfl
theorem RE (s:cA):rd (aV s) 0 32=aV s:=iZ (aL _)
theorem RF (s x:cA):dJ (aV s) 0 (aV x) 32=aV x:=eD (aL _)
theorem RH (s:rL):rd (gF s) 0 4=gF s:=iZ (dR _)
theorem RI (s x:rL):dJ (gF s) 0 (gF x) 4=gF x:=eD (dR _)
theorem wrap_i64 (x:Int) (h1:-9223372036854775808≤x) (h2:x≤9223372036854775807):IntKind.i64.wrap x=x:=by
 rw[IntKind.wrap_i64];omega
theorem nC (s g:Nat):¬Flat (.own s g):=by intro h;cases h
theorem Pp (s g o:Nat):¬Flat (.ptr s g o):=by intro h;cases h
theorem dM {st:St} {x:AV} (h:Flat x):fG st x=some x:=by unfold fG;rw[if_pos h]
theorem iK {st:St} {s g e sz n:Nat} {cs:List AV} (h:st.heap s g=some (.row e sz n cs)) (hf:∀c∈cs,Flat c):cF st (.own s g)=some (.sl n cs):=by
 unfold cF;rw[if_neg (nC s g)];simp only[h];rw[if_pos hf]
theorem bY {st:St} {x:AV} (h:Flat x):cF st x=some x:=by unfold cF;rw[if_pos h]
theorem aAz {st:St} {x:AV} (h:Flat x):xW st x=some x:=by unfold xW;rw[if_pos h]
theorem Ux {st:St}:∀ {cs:List AV},(∀c∈cs,Flat c)→cM (cs.map (xW st))=some cs
 | [],_=>rfl
 | c :: cs,h=>by
   rw[List.map_cons,aAz (h c (by simp))]
   have ih:=Ux (st:=st) (cs:=cs) fun d hd=>h d (List.mem_cons_of_mem _ hd)
   simp only[cM,ih,Option.map_some]
theorem PL {st:St} {s g e sz n:Nat} {cs:List AV} (h:st.heap s g=some (.row e sz n cs)) (hf:∀c∈cs,Flat c):fG st (.own s g)=some (.sl n cs):=by
 unfold fG;rw[if_neg (nC s g)];exact iK h hf
section
variable [Ext]
theorem RJ {P:Program} {f:Nat} {fn:Func} {t:Nat} {st:St} {x:AV} {e:Ex} (hk:Ext.qM f=false) (he:e=.ret∨e=.normal) (hr:fn.results.toList=[.tmp t]) (hx:st.env t=x) (hf:Flat x):yG P f fn (e,st)=some x:=by
 have h1:iY P f fn st=some x:=by
  unfold iY;rw[hk,if_neg (by simp)]
  unfold wN;rw[hr];simp only[kA,cH,hx,Ut];cases hf<;>simp only[fG]<;>rw[if_pos]<;>constructor<;>assumption
 rcases he with rfl|rfl<;>exact h1
theorem J0 {P:Program} {f:Nat} {fn:Func} {t T:Nat} {st:St} {y x:AV} {e:Ex} (hk:Ext.qM f=false) (he:e=.ret∨e=.normal) (hr:fn.results.toList=[.cell t T]) (hy:st.env t=y) (hx:Ha P st T y=some x) (hf:Flat x):yG P f fn (e,st)=some x:=by
 have h1:iY P f fn st=some x:=by
  unfold iY;rw[hk,if_neg (by simp)]
  unfold wN;rw[hr];show cH (cH (qN st (st.env t)) (yE P T)) (Ut st)=some x
  rw[hy,Rc,hx];simp only[cH,Ut];cases hf<;>simp only[fG]<;>rw[if_pos]<;>constructor<;>assumption
 rcases he with rfl|rfl<;>exact h1
theorem Qf {P:Program} {f:Nat} {fn:Func} {t:Nat} {st:St} {e:Ex} {s g e' sz n:Nat} {cs:List AV} (hk:Ext.qM f=false) (he:e=.ret∨e=.normal) (hr:fn.results.toList=[.tmp t]) (hx:st.env t=.own s g) (hh:st.heap s g=some (.row e' sz n cs)) (hf:∀c∈cs,Flat c):yG P f fn (e,st)=some (.uniq e' sz n cs):=by
 have h1:iY P f fn st=some (.uniq e' sz n cs):=by
  unfold iY;rw[hk,if_neg (by simp)]
  unfold wN;rw[hr];simp only[kA,cH,hx,Ut,hh];rw[if_pos hf]
 rcases he with rfl|rfl<;>exact h1
theorem XV {P:Program} {f:Nat} {fn:Func} {t T:Nat} {st:St} {e:Ex} {z:AV} {cs:List AV} {y:AV} (hk:Ext.qM f=false) (he:e=.ret∨e=.normal) (hr:fn.results.toList=[.cell t T]) (hz:st.env t=z) (hx:Ha P st T z=some (.agg cs)) (hy:fG st (.agg cs)=some y):yG P f fn (e,st)=some y:=by
 have h1:iY P f fn st=some y:=by
  unfold iY;rw[hk,if_neg (by simp)]
  unfold wN;rw[hr];show cH (cH (qN st (st.env t)) (yE P T)) (Ut st)=some y
  rw[hz,Rc,hx];simp only[cH,Ut,hy]
 rcases he with rfl|rfl<;>exact h1
def bT (P:Program) (st:St) (r:ResultVar):Option AV :=
 match r with
 | .tmp t=>some (st.env t)
 | .cell t T=>Ha P st T (st.env t)
theorem Bl (P:Program) (st:St) (r:ResultVar):kA P st r=bT P st r:=by
 cases r with
 | tmp t=>rfl
 | cell t T=>exact Rc P st T _
theorem aAA {P:Program} {f:Nat} {fn:Func} {st:St} {e:Ex} {r1 r2:ResultVar} {x1 x2 y1 y2:AV} (hk:Ext.qM f=false) (he:e=.ret∨e=.normal) (hr:fn.results.toList=[r1,r2])
 (h1:bT P st r1=some x1) (h2:bT P st r2=some x2) (e1:fG st x1=some y1) (e2:fG st x2=some y2):yG P f fn (e,st)=some (.eG [y1,y2]):=by
 have h:iY P f fn st=some (.eG [y1,y2]):=by
  unfold iY;rw[hk,if_neg (by simp)]
  unfold wN;rw[hr];simp only[List.map_cons,List.map_nil,Bl,h1,h2,cH,Dz e1,Dz e2,cM,Option.map_some]
 rcases he with rfl|rfl<;>exact h
theorem J1 {P:Program} {f:Nat} {fn:Func} {st:St} {e:Ex} {r1 r2:ResultVar} {x1 x2 y1 y2:AV} (hk:Ext.qM f=false) (he:e=.ret∨e=.normal) (hr:fn.results.toList=[r1,r2])
 (h1:bT P st r1=some x1) (h2:bT P st r2=some x2) (e0:fG st x1=none) (e1:Oz st x1=some y1) (e2:fG st x2=some y2):yG P f fn (e,st)=some (.eG [y1,y2]):=by
 have Y6:Dd st x1=some y1:=(WZ e0).trans e1
 have h:iY P f fn st=some (.eG [y1,y2]):=by
  unfold iY;rw[hk,if_neg (by simp)]
  unfold wN;rw[hr];simp only[List.map_cons,List.map_nil,Bl,h1,h2,cH,Y6,Dz e2,cM,Option.map_some]
 rcases he with rfl|rfl<;>exact h
theorem XW {P:Program} {f:Nat} {fn:Func} {st:St} {e:Ex} {r1 r2 r3:ResultVar} {x1 x2 x3 y1 y2 y3:AV} (hk:Ext.qM f=false) (he:e=.ret∨e=.normal) (hr:fn.results.toList=[r1,r2,r3])
 (h1:bT P st r1=some x1) (h2:bT P st r2=some x2) (h3:bT P st r3=some x3) (e1:fG st x1=some y1) (e2:fG st x2=some y2) (e3:fG st x3=some y3):yG P f fn (e,st)=some (.eG [y1,y2,y3]):=by
 have h:iY P f fn st=some (.eG [y1,y2,y3]):=by
  unfold iY;rw[hk,if_neg (by simp)]
  unfold wN;rw[hr];simp only[List.map_cons,List.map_nil,Bl,h1,h2,h3,cH,Dz e1,Dz e2,Dz e3,cM,Option.map_some]
 rcases he with rfl|rfl<;>exact h
end
section
variable [Ext]
theorem zF {P:Program} (c:Operand) (a b:Code) (st:St):yS P (.cond c a b) st=onB (st.ev c) fun t=>if t=true then yS P a st else yS P b st:=by
 cases h:st.ev c with
 | v x =>
   cases x with
   | bool t=>exact aAp P c a b st h
   | _ =>
     apply Option.ext
     intro r;rw[v9];constructor
     ·rintro⟨n,m,h'⟩
      cases m with
      | zero=>simp[tY] at h'
      | succ m=>simp[tY,h] at h'
     ·intro h';simp[onB] at h'
 | _ =>
   apply Option.ext
   intro r;rw[v9];constructor
   ·rintro⟨n,m,h'⟩
    cases m with
    | zero=>simp[tY] at h'
    | succ m=>simp[tY,h] at h'
   ·intro h';simp[onB] at h'
def Rd (ops:Array Oper) (j:Nat):Option Nat:=(ops[j]?).bind (·.dst)
def XX {α:Type} (x:AV) (want:Bool) (y n:Option α):Option α :=
 match x with
 | .v (.bool b)=>if b=want then y else n
 | .v _=>n
 | _=>none
def onS {α:Type} (d:Option Nat) (k:Nat→Option α) (n:Option α):Option α :=
 match d with
 | some d=>k d
 | none=>n
@[congr] theorem aGG {α:Type} {x x':AV} {want:Bool} {y n:Option α} (h:x=x'):XX x want y n=XX x' want y n:=by rw[h]
@[congr] theorem aIW {α:Type} {d d':Option Nat} {k:Nat→Option α} {n:Option α} (h:d=d'):onS d k n=onS d' k n:=by rw[h]
theorem zG {α:Type} (b:Bool) (y n:Option α):XX (.v (.bool b)) true y n=if b=true then y else n:=rfl
theorem wF {α:Type} (b:Bool) (y n:Option α):XX (.v (.bool b)) false y n=if b=false then y else n:=rfl
theorem wG {α:Type} (w:Bool) (y n:Option α):XX (.v undef) w y n=n:=rfl
theorem Eo {α:Type} (d:Nat) (k:Nat→Option α) (n:Option α):onS (some d) k n=k d:=rfl
theorem zH {P:Program} {call:Nat→List AV→Option AV} {ops:Array Oper} {st:St} {d:Option Nat} {T:Nat} {pos:String} {eH:Array Edge} (op:Op) (j:Nat) (want:Bool) :
 cD P call ops ⟨d,op,T,pos,eH,some (j,want)⟩ st=onS (Rd ops j) (fun s=>XX (st.env s) want (cD P call ops ⟨d,op,T,pos,eH,none⟩ st) (some (st.put d (.v undef)))) (some (st.put d (.v undef))):=by
 simp only[cD,gv,Rd];cases (ops[j]?).bind (·.dst) with
 | none=>simp[onS]
 | some s =>
   simp only[onS];cases st.env s with
   | v x=>cases x<;>simp[XX,dG]<;>rename_i b<;>cases b<;>cases want<;>simp[dG]
   | _=>rfl
end
section
variable {P:Program} {T:Nat} {k k1:IntKind} {a b:Int}
theorem Kx:gB P .add T (.v (.int k a)) (.v (.int k b))=some (.v (.int k (k.wrap (a+b)))):=by simp[gB]
theorem Ky:gB P .sub T (.v (.int k a)) (.v (.int k b))=some (.v (.int k (k.wrap (a-b)))):=by simp[gB]
theorem Kz:gB P .mul T (.v (.int k a)) (.v (.int k b))=some (.v (.int k (k.wrap (a * b)))):=by simp[gB]
theorem La:gB P .and T (.v (.int k a)) (.v (.int k b))=some (.v (.int k (k.wrap (BitVec.ofInt k.bits a &&& BitVec.ofInt k.bits b).toNat))):=by simp[gB]
theorem Lb:gB P .eql T (.v (.int k a)) (.v (.int k b))=some (.v (.bool (a == b))):=by simp[gB]
theorem Lc:gB P .neq T (.v (.int k a)) (.v (.int k b))=some (.v (.bool (a != b))):=by simp[gB]
theorem Ld:gB P .lss T (.v (.int k a)) (.v (.int k b))=some (.v (.bool (decide (a<b)))):=by simp[gB]
theorem Lf:gB P .leq T (.v (.int k a)) (.v (.int k b))=some (.v (.bool (decide (a≤b)))):=by simp[gB]
theorem Lg:gB P .gtr T (.v (.int k a)) (.v (.int k b))=some (.v (.bool (decide (a > b)))):=by simp[gB]
theorem Lh:gB P .geq T (.v (.int k a)) (.v (.int k b))=some (.v (.bool (decide (a≥b)))):=by simp[gB]
theorem aCZ (h:b≠0):gB P .quo T (.v (.int k a)) (.v (.int k b))=some (.v (.int k (k.wrap (a.tdiv b)))):=by simp[gB,h]
theorem aC0 (h:b≠0):gB P .rem T (.v (.int k a)) (.v (.int k b))=some (.v (.int k (a.tmod b))):=by simp[gB,h]
theorem aC1 (h:¬b<0):gB P .shr T (.v (.int k a)) (.v (.int k1 b))=some (.v (.int k (a.fdiv (2 ^ (min b.toNat k.bits))))):=by simp[gB,h]
theorem aC2 (h:¬b<0):gB P .shl T (.v (.int k a)) (.v (.int k1 b))=some (.v (.int k (k.wrap (a * 2 ^ (min b.toNat k.bits))))):=by simp[gB,h]
end
theorem rU (s:St) (k:St→Option (Ex × St)):BL (.normal,s) k=k s:=rfl
theorem zI (s:St) (k:St→Option (Ex × St)):BL (.ret,s) k=some (.ret,s):=rfl
theorem wH (i:Nat) (s:St) (k:St→Option (Ex × St)):BL (.exit i,s) k=some (.exit i,s):=rfl
theorem Ye (r:cA) (i e:Nat) (x:Int) (h:i<32) (he:e=i+1):dJ (aV r) i [.v (.int .u8 x)] e=aV (r.set i x):=by
 subst he;simp only[dJ,aV,Vector.toList_set,List.map_set];rw[List.set_eq_take_append_cons_drop,if_pos (by simp[h])]
 simp
theorem qZ (r:rL) (i e:Nat) (x:Int) (h:i<4) (he:e=i+1):dJ (gF r) i [.v (.int .u64 x)] e=gF (r.set i x):=by
 subst he;simp only[dJ,gF,Vector.toList_set,List.map_set];rw[List.set_eq_take_append_cons_drop,if_pos (by simp[h])]
 simp
theorem Sn [Ext] {P:Program} {b:Code} (Inv:Nat→St→Prop) (Q:Ex→St→Prop)
 (step:∀n st,Inv n st→∃e st',yS P b st=some (e,st')∧((e=.normal∧∃m,m<n∧Inv m st')∨(e≠.normal∧Q e st'))):∀n st,Inv n st→∃e st',yS P (.loop b) st=some (e,st')∧e≠.normal∧Q e st':=by
 intro n;induction n using Nat.strongRecOn with
 | _ n ih =>
   intro st h;obtain⟨e,s1,h1,h2⟩:=step n st h
   rw[Ib,h1];rcases h2 with ⟨rfl,m,hm,hi⟩|⟨gN,hq⟩
   ·exact ih m hm s1 hi
   ·refine⟨e,s1, ?_,gN,hq⟩
    cases e with
    | normal=>exact absurd rfl gN
    | _=>rfl
theorem lM [Ext] {P:Program} {b:Code} {st:St} {β:Type} {k:Ex × St→Option β} {r:β} (Inv:Nat→St→Prop) (Q:Ex→St→Prop) (n:Nat)
 (step:∀n st,Inv n st→∃e st',yS P b st=some (e,st')∧((e=.normal∧∃m,m<n∧Inv m st')∨(e≠.normal∧Q e st')))
 (start:Inv n st) (rest:∀e st',Q e st'→k (e,st')=some r):cH (yS P (.loop b) st) k=some r:=by
 obtain⟨e,s1,h1,h2,h3⟩:=Sn Inv Q step n st start
 rw[h1];exact rest e s1 h3
theorem cE [Ext] {P:Program} {b:Code} {st:St} {β:Type} {k:Ex × St→Option β} {R:β→Prop} (Inv:Nat→St→Prop) (Q:Ex→St→Prop) (n:Nat)
 (step:∀n st,Inv n st→∃e st',yS P b st=some (e,st')∧((e=.normal∧∃m,m<n∧Inv m st')∨(e≠.normal∧Q e st')))
 (start:Inv n st) (rest:∀e st',Q e st'→∃r,k (e,st')=some r∧R r):∃r,cH (yS P (.loop b) st) k=some r∧R r:=by
 obtain⟨e,s1,h1,h2,h3⟩:=Sn Inv Q step n st start
 rw[h1];exact rest e s1 h3
theorem jJ {α β γ:Type} (x:Option α) (f:α→Option β) (g:β→Option γ):cH (cH x f) g=cH x fun a=>cH (f a) g:=by cases x<;>rfl
theorem oW [Ext] {P:Program} {b:Code} {st st':St} {n:Nat} {Inv:Nat→St→Prop} {Q:Ex→St→Prop} (h:yS P b st=some (.normal,st')) (m:Nat) (hm:m<n) (hi:Inv m st') :
 ∃e st',yS P b st=some (e,st')∧((e=.normal∧∃m,m<n∧Inv m st')∨(e≠.normal∧Q e st')):=⟨_,_,h,.inl ⟨rfl,m,hm,hi⟩⟩
theorem aGH [Ext] {P:Program} {b:Code} {st st':St} {e:Ex} {n:Nat} {Inv:Nat→St→Prop} {Q:Ex→St→Prop} (h:yS P b st=some (e,st')) (he:e≠.normal) (hq:Q e st') :
 ∃e st',yS P b st=some (e,st')∧((e=.normal∧∃m,m<n∧Inv m st')∨(e≠.normal∧Q e st')):=⟨_,_,h,.inr ⟨he,hq⟩⟩
def aJ (l:List Int):List AV:=l.flatMap pX
@[simp] theorem Ki (l:List (Int)):(aJ l).length=l.length * 1:=by
 induction l with
 | nil=>rfl
 | cons x l ih=>simp only[aJ,List.flatMap_cons,List.length_append,bC,List.length_cons] at *;omega
theorem gD (l:List (Int)):∀x∈aJ l,Flat x:=by
 intro x hx;obtain⟨y,_,hy⟩:=List.mem_flatMap.1 hx
 exact mI y x hy
theorem aAB (l:List (Int)) (i:Nat) (h:i<l.length):rd (aJ l) (i * 1) 1=pX l[i]:=Nz pX 1 (bC) l i h
def bE (l:List Int):List AV:=l.flatMap sS
@[simp] theorem Tc (l:List (Int)):(bE l).length=l.length * 1:=by
 induction l with
 | nil=>rfl
 | cons x l ih=>simp only[bE,List.flatMap_cons,List.length_append,aW,List.length_cons] at *;omega
theorem iC (l:List (Int)):∀x∈bE l,Flat x:=by
 intro x hx;obtain⟨y,_,hy⟩:=List.mem_flatMap.1 hx
 exact dZ y x hy
def dV (l:List cA):List AV:=l.flatMap aV
@[simp] theorem aGI (l:List (cA)):(dV l).length=l.length * 32:=by
 induction l with
 | nil=>rfl
 | cons x l ih=>simp only[dV,List.flatMap_cons,List.length_append,aL,List.length_cons] at *;omega
theorem Ca (l:List (cA)):∀x∈dV l,Flat x:=by
 intro x hx;obtain⟨y,_,hy⟩:=List.mem_flatMap.1 hx
 exact dF y x hy
structure fV where
 aK:Int
 root:cA
def bX (s:fV):List AV:=sS s.aK++(aV s.root)
@[simp] theorem bQ (s:fV):(bX s).length=33:=by simp[bX]
theorem dB (s:fV):∀x∈bX s,Flat x:=by
 intro x hx;simp only[bX,List.mem_append,List.mem_singleton] at hx;rcases hx with hx|hx
 ·(exact dZ _ _ hx)
 ·(exact dF _ _ hx)
theorem jX (s:fV):(bX s)[0]? = some (.v (.int .u64 s.aK)):=rfl
theorem Cx (s:fV) (x:Int):dJ (bX s) 0 ([.v (.int .u64 x)]) 1=bX { s with aK:=x }:=cJ (aW _)
theorem uS (s:fV):rd (bX s) 1 32=aV s.root:=(aZ rfl (aW _)).trans (iZ (aL _))
theorem Gm (s:fV) (x:cA):dJ (bX s) 1 (aV x) 33=bX { s with root:=x }:=(aD rfl rfl (aW _)).trans (bH (eD (aL _)))
def gX:fV:=⟨0,dE⟩
def Dl:List Value:=[.int .u64 0]++(tQ)
theorem Bp:Dl.map AV.v=bX gX:=by simp only[Dl,List.map_append,List.map_cons,List.map_nil,jM,jN];rfl
def Vr:List Bool:=[true]++(Hb)
theorem tK (a b:fV):hU Vr (bX a) (bX b):=(eP (show hU [true] [_] [_] from ⟨rfl,trivial⟩) (mM _ _))
theorem mW (a b:fV):bX a=bX b↔a=b:=by
 refine⟨fun h=>?_,fun h=>by rw[h]⟩
 cases a;cases b
 simp only[bX] at h;obtain⟨h0,h⟩:=List.append_inj h (by simp)
 have e0:=(En _ _).1 h0
 have e1:=(oQ _ _).1 h
 subst e0 e1;rfl
theorem RK (s:fV):rd (bX s) 0 33=bX s:=iZ (bQ _)
theorem RL (s x:fV):dJ (bX s) 0 (bX x) 33=bX x:=eD (bQ _)
structure pE where
 pj:fV
 pf:fV
def fM (s:pE):List AV:=bX s.pj++(bX s.pf)
@[simp] theorem cO (s:pE):(fM s).length=66:=by simp[fM]
theorem Fy (s:pE):∀x∈fM s,Flat x:=by
 intro x hx;simp only[fM,List.mem_append,List.mem_singleton] at hx;rcases hx with hx|hx
 ·(exact dB _ _ hx)
 ·(exact dB _ _ hx)
theorem Re (s:pE):rd (fM s) 0 33=bX s.pj:=gH (bQ _)
theorem Rf (s:pE) (x:fV):dJ (fM s) 0 (bX x) 33=fM { s with pj:=x }:=cJ (bQ _)
theorem yA (s:pE):(fM s)[0]? = some (.v (.int .u64 s.pj.aK)):=(eE (by rw[bQ];decide)).trans (jX _)
theorem Ao (s:pE) (x:Int):dJ (fM s) 0 ([.v (.int .u64 x)]) 1=fM { s with pj:={ s.pj with aK:=x }}:=(uQ (by rw[bQ];decide)).trans (Gl (Cx _ x))
theorem Rh (s:pE):rd (fM s) 33 33=bX s.pf:=(aZ rfl (bQ _)).trans (iZ (bQ _))
theorem Ri (s:pE) (x:fV):dJ (fM s) 33 (bX x) 66=fM { s with pf:=x }:=(aD rfl rfl (bQ _)).trans (bH (eD (bQ _)))
theorem yB (s:pE):(fM s)[33]? = some (.v (.int .u64 s.pf.aK)):=(aG rfl (bQ _)).trans (jX _)
def Pz:pE:=⟨gX,gX⟩
def Rj:List Value:=Dl++(Dl)
theorem Tu:Rj.map AV.v=fM Pz:=by simp only[Rj,List.map_append,List.map_cons,List.map_nil,jM,jN,Bp];rfl
def y7:List Bool:=Vr++(Vr)
theorem KX (a b:pE):hU y7 (fM a) (fM b):=(eP (tK _ _) (tK _ _))
theorem RM (a b:pE):fM a=fM b↔a=b:=by
 refine⟨fun h=>?_,fun h=>by rw[h]⟩
 cases a;cases b
 simp only[fM] at h;obtain⟨h0,h⟩:=List.append_inj h (by simp)
 have e0:=(mW _ _).1 h0
 have e1:=(mW _ _).1 h
 subst e0 e1;rfl
theorem EI (s:pE):rd (fM s) 0 66=fM s:=iZ (cO _)
theorem EJ (s x:pE):dJ (fM s) 0 (fM x) 66=fM x:=eD (cO _)
structure Block where
 dQ:pE
 slot:Int
 root:cA
 parent:cA
 iO:cA
 diff:rL
 Yy:rL
 gW:fV
 fin:fV
 Co:Bool
def aT (s:Block):List AV:=fM s.dQ++(sS s.slot++(aV s.root++(aV s.parent++(aV s.iO++(gF s.diff++(gF s.Yy++(bX s.gW++(bX s.fin++(vF s.Co)))))))))
@[simp] theorem bM (s:Block):(aT s).length=238:=by simp[aT]
theorem Cd (s:Block):∀x∈aT s,Flat x:=by
 intro x hx;simp only[aT,List.mem_append,List.mem_singleton] at hx;rcases hx with hx|hx|hx|hx|hx|hx|hx|hx|hx|hx
 ·(exact Fy _ _ hx)
 ·(exact dZ _ _ hx)
 ·(exact dF _ _ hx)
 ·(exact dF _ _ hx)
 ·(exact dF _ _ hx)
 ·(exact iM _ _ hx)
 ·(exact iM _ _ hx)
 ·(exact dB _ _ hx)
 ·(exact dB _ _ hx)
 ·(exact mK _ _ hx)
theorem Hc (s:Block):rd (aT s) 0 66=fM s.dQ:=gH (cO _)
theorem Wh (s:Block) (x:pE):dJ (aT s) 0 (fM x) 66=aT { s with dQ:=x }:=cJ (cO _)
theorem Ap (s:Block):rd (aT s) 0 33=bX s.dQ.pj:=(qJ (by rw[cO];decide)).trans (Re _)
theorem Oc (s:Block) (x:fV):dJ (aT s) 0 (bX x) 33=aT { s with dQ:={ s.dQ with pj:=x }}:=(uQ (by rw[cO];decide)).trans (Gl (Rf _ x))
theorem sB (s:Block):(aT s)[0]? = some (.v (.int .u64 s.dQ.pj.aK)):=(eE (by rw[cO];decide)).trans (yA _)
theorem Cy (s:Block) (x:Int):dJ (aT s) 0 ([.v (.int .u64 x)]) 1=aT { s with dQ:={ s.dQ with pj:={ s.dQ.pj with aK:=x }} }:=(uQ (by rw[cO];decide)).trans (Gl (Ao _ x))
theorem Aq (s:Block):rd (aT s) 33 33=bX s.dQ.pf:=(qJ (by rw[cO];decide)).trans (Rh _)
theorem Od (s:Block) (x:fV):dJ (aT s) 33 (bX x) 66=aT { s with dQ:={ s.dQ with pf:=x }}:=(uQ (by rw[cO];decide)).trans (Gl (Ri _ x))
theorem sC (s:Block):(aT s)[33]? = some (.v (.int .u64 s.dQ.pf.aK)):=(eE (by rw[cO];decide)).trans (yB _)
theorem Jd (s:Block):(aT s)[66]? = some (.v (.int .u64 s.slot)):=(aG rfl (cO _)).trans (rfl)
theorem EK (s:Block) (x:Int):dJ (aT s) 66 ([.v (.int .u64 x)]) 67=aT { s with slot:=x }:=(aD rfl rfl (cO _)).trans (bH (cJ (aW _)))
theorem Mo (s:Block):rd (aT s) 67 32=aV s.root:=(aZ rfl (cO _)).trans ((aZ rfl (aW _)).trans (gH (aL _)))
theorem EL (s:Block) (x:cA):dJ (aT s) 67 (aV x) 99=aT { s with root:=x }:=(aD rfl rfl (cO _)).trans (bH ((aD rfl rfl (aW _)).trans (bH (cJ (aL _)))))
theorem Wi (s:Block):rd (aT s) 99 32=aV s.parent:=(aZ rfl (cO _)).trans ((aZ rfl (aW _)).trans ((aZ rfl (aL _)).trans (gH (aL _))))
theorem Wj (s:Block) (x:cA):dJ (aT s) 99 (aV x) 131=aT { s with parent:=x }:=(aD rfl rfl (cO _)).trans (bH ((aD rfl rfl (aW _)).trans (bH ((aD rfl rfl (aL _)).trans (bH (cJ (aL _)))))))
theorem Ep (s:Block):rd (aT s) 131 32=aV s.iO:=(aZ rfl (cO _)).trans ((aZ rfl (aW _)).trans ((aZ rfl (aL _)).trans ((aZ rfl (aL _)).trans (gH (aL _)))))
theorem Tv (s:Block) (x:cA):dJ (aT s) 131 (aV x) 163=aT { s with iO:=x }:=(aD rfl rfl (cO _)).trans (bH ((aD rfl rfl (aW _)).trans (bH ((aD rfl rfl (aL _)).trans (bH ((aD rfl rfl (aL _)).trans (bH (cJ (aL _)))))))))
theorem EM (s:Block):rd (aT s) 163 4=gF s.diff:=(aZ rfl (cO _)).trans ((aZ rfl (aW _)).trans ((aZ rfl (aL _)).trans ((aZ rfl (aL _)).trans ((aZ rfl (aL _)).trans (gH (dR _))))))
theorem EO (s:Block) (x:rL):dJ (aT s) 163 (gF x) 167=aT { s with diff:=x }:=(aD rfl rfl (cO _)).trans (bH ((aD rfl rfl (aW _)).trans (bH ((aD rfl rfl (aL _)).trans (bH ((aD rfl rfl (aL _)).trans (bH ((aD rfl rfl (aL _)).trans (bH (cJ (dR _)))))))))))
theorem BO (s:Block):rd (aT s) 167 4=gF s.Yy:=(aZ rfl (cO _)).trans ((aZ rfl (aW _)).trans ((aZ rfl (aL _)).trans ((aZ rfl (aL _)).trans ((aZ rfl (aL _)).trans ((aZ rfl (dR _)).trans (gH (dR _)))))))
theorem BP (s:Block) (x:rL):dJ (aT s) 167 (gF x) 171=aT { s with Yy:=x }:=(aD rfl rfl (cO _)).trans (bH ((aD rfl rfl (aW _)).trans (bH ((aD rfl rfl (aL _)).trans (bH ((aD rfl rfl (aL _)).trans (bH ((aD rfl rfl (aL _)).trans (bH ((aD rfl rfl (dR _)).trans (bH (cJ (dR _)))))))))))))
theorem Mp (s:Block):rd (aT s) 171 33=bX s.gW:=(aZ rfl (cO _)).trans ((aZ rfl (aW _)).trans ((aZ rfl (aL _)).trans ((aZ rfl (aL _)).trans ((aZ rfl (aL _)).trans ((aZ rfl (dR _)).trans ((aZ rfl (dR _)).trans (gH (bQ _))))))))
theorem EP (s:Block) (x:fV):dJ (aT s) 171 (bX x) 204=aT { s with gW:=x }:=(aD rfl rfl (cO _)).trans (bH ((aD rfl rfl (aW _)).trans (bH ((aD rfl rfl (aL _)).trans (bH ((aD rfl rfl (aL _)).trans (bH ((aD rfl rfl (aL _)).trans (bH ((aD rfl rfl (dR _)).trans (bH ((aD rfl rfl (dR _)).trans (bH (cJ (bQ _)))))))))))))))
theorem Je (s:Block):(aT s)[171]? = some (.v (.int .u64 s.gW.aK)):=(aG rfl (cO _)).trans ((aG rfl (aW _)).trans ((aG rfl (aL _)).trans ((aG rfl (aL _)).trans ((aG rfl (aL _)).trans ((aG rfl (dR _)).trans ((aG rfl (dR _)).trans ((eE (by rw[bQ];decide)).trans (jX _))))))))
theorem Rk (s:Block):rd (aT s) 204 33=bX s.fin:=(aZ rfl (cO _)).trans ((aZ rfl (aW _)).trans ((aZ rfl (aL _)).trans ((aZ rfl (aL _)).trans ((aZ rfl (aL _)).trans ((aZ rfl (dR _)).trans ((aZ rfl (dR _)).trans ((aZ rfl (bQ _)).trans (gH (bQ _)))))))))
theorem KY (s:Block) (x:fV):dJ (aT s) 204 (bX x) 237=aT { s with fin:=x }:=(aD rfl rfl (cO _)).trans (bH ((aD rfl rfl (aW _)).trans (bH ((aD rfl rfl (aL _)).trans (bH ((aD rfl rfl (aL _)).trans (bH ((aD rfl rfl (aL _)).trans (bH ((aD rfl rfl (dR _)).trans (bH ((aD rfl rfl (dR _)).trans (bH ((aD rfl rfl (bQ _)).trans (bH (cJ (bQ _)))))))))))))))))
theorem Lr (s:Block):(aT s)[204]? = some (.v (.int .u64 s.fin.aK)):=(aG rfl (cO _)).trans ((aG rfl (aW _)).trans ((aG rfl (aL _)).trans ((aG rfl (aL _)).trans ((aG rfl (aL _)).trans ((aG rfl (dR _)).trans ((aG rfl (dR _)).trans ((aG rfl (bQ _)).trans ((eE (by rw[bQ];decide)).trans (jX _)))))))))
theorem Rl (s:Block) (x:cA):dJ (aT s) 205 (aV x) 237=aT { s with fin:={ s.fin with root:=x }}:=(aD rfl rfl (cO _)).trans (bH ((aD rfl rfl (aW _)).trans (bH ((aD rfl rfl (aL _)).trans (bH ((aD rfl rfl (aL _)).trans (bH ((aD rfl rfl (aL _)).trans (bH ((aD rfl rfl (dR _)).trans (bH ((aD rfl rfl (dR _)).trans (bH ((aD rfl rfl (bQ _)).trans (bH ((uQ (by rw[bQ];decide)).trans (Gl (Gm _ x))))))))))))))))))
theorem Tw (s:Block):(aT s)[237]? = some (.v (.bool s.Co)):=(aG rfl (cO _)).trans ((aG rfl (aW _)).trans ((aG rfl (aL _)).trans ((aG rfl (aL _)).trans ((aG rfl (aL _)).trans ((aG rfl (dR _)).trans ((aG rfl (dR _)).trans ((aG rfl (bQ _)).trans ((aG rfl (bQ _)).trans (rfl)))))))))
theorem Wk (s:Block) (x:Bool):dJ (aT s) 237 ([.v (.bool x)]) 238=aT { s with Co:=x }:=(aD rfl rfl (cO _)).trans (bH ((aD rfl rfl (aW _)).trans (bH ((aD rfl rfl (aL _)).trans (bH ((aD rfl rfl (aL _)).trans (bH ((aD rfl rfl (aL _)).trans (bH ((aD rfl rfl (dR _)).trans (bH ((aD rfl rfl (dR _)).trans (bH ((aD rfl rfl (bQ _)).trans (bH ((aD rfl rfl (bQ _)).trans (bH (eD (gU _)))))))))))))))))))
def fD:Block:=⟨Pz,0,dE,dE,dE,HU,HU,gX,gX,false⟩
def Tx:List Value:=Rj++([.int .u64 0]++(tQ++(tQ++(tQ++(BN++(BN++(Dl++(Dl++([.bool false])))))))))
theorem Rm:Tx.map AV.v=aT fD:=by simp only[Tx,List.map_append,List.map_cons,List.map_nil,jM,jN,Tu,Bp];rfl
def XY:List Bool:=y7++([true]++(Hb++(Hb++(Hb++(w8++(w8++(Vr++(Vr++([false])))))))))
theorem Vs (a b:Block):hU XY (aT a) (aT b):=(eP (KX _ _) (eP (show hU [true] [_] [_] from ⟨rfl,trivial⟩) (eP (mM _ _) (eP (mM _ _) (eP (mM _ _) (eP (Ob _ _) (eP (Ob _ _) (eP (tK _ _) (eP (tK _ _) (show hU [false] [_] [_] from trivial))))))))))
theorem BR (a b:Block):aT a=aT b↔a=b:=by
 refine⟨fun h=>?_,fun h=>by rw[h]⟩
 cases a;cases b
 simp only[aT] at h;obtain⟨h0,h⟩:=List.append_inj h (by simp)
 obtain⟨h1,h⟩:=List.append_inj h (by simp)
 obtain⟨h2,h⟩:=List.append_inj h (by simp)
 obtain⟨h3,h⟩:=List.append_inj h (by simp)
 obtain⟨h4,h⟩:=List.append_inj h (by simp)
 obtain⟨h5,h⟩:=List.append_inj h (by simp)
 obtain⟨h6,h⟩:=List.append_inj h (by simp)
 obtain⟨h7,h⟩:=List.append_inj h (by simp)
 obtain⟨h8,h⟩:=List.append_inj h (by simp)
 have e0:=(RM _ _).1 h0
 have e1:=(En _ _).1 h1
 have e2:=(oQ _ _).1 h2
 have e3:=(oQ _ _).1 h3
 have e4:=(oQ _ _).1 h4
 have e5:=(Tt _ _).1 h5
 have e6:=(Tt _ _).1 h6
 have e7:=(mW _ _).1 h7
 have e8:=(mW _ _).1 h8
 have e9:=(HT _ _).1 h
 subst e0 e1 e2 e3 e4 e5 e6 e7 e8 e9;rfl
theorem KZ (s:Block):rd (aT s) 0 238=aT s:=iZ (bM _)
theorem LA (s x:Block):dJ (aT s) 0 (aT x) 238=aT x:=eD (bM _)
structure Node where
 block:Block
 up:Int
 status:Int
def fF (s:Node):List AV:=aT s.block++(pX s.up++(pX s.status))
@[simp] theorem vP (s:Node):(fF s).length=240:=by simp[fF]
theorem Nf (s:Node):∀x∈fF s,Flat x:=by
 intro x hx;simp only[fF,List.mem_append,List.mem_singleton] at hx;rcases hx with hx|hx|hx
 ·(exact Cd _ _ hx)
 ·(exact mI _ _ hx)
 ·(exact mI _ _ hx)
theorem ER (s:Node):rd (fF s) 0 238=aT s.block:=gH (bM _)
theorem ES (s:Node) (x:Block):dJ (fF s) 0 (aT x) 238=fF { s with block:=x }:=cJ (bM _)
theorem Jf (s:Node):rd (fF s) 0 66=fM s.block.dQ:=(qJ (by rw[bM];decide)).trans (Hc _)
theorem Er (s:Node):rd (fF s) 0 33=bX s.block.dQ.pj:=(qJ (by rw[bM];decide)).trans (Ap _)
theorem wI (s:Node):(fF s)[0]? = some (.v (.int .u64 s.block.dQ.pj.aK)):=(eE (by rw[bM];decide)).trans (sB _)
theorem Es (s:Node):rd (fF s) 33 33=bX s.block.dQ.pf:=(qJ (by rw[bM];decide)).trans (Aq _)
theorem wJ (s:Node):(fF s)[33]? = some (.v (.int .u64 s.block.dQ.pf.aK)):=(eE (by rw[bM];decide)).trans (sC _)
theorem Ls (s:Node):(fF s)[66]? = some (.v (.int .u64 s.block.slot)):=(eE (by rw[bM];decide)).trans (Jd _)
theorem Oe (s:Node):rd (fF s) 67 32=aV s.block.root:=(qJ (by rw[bM];decide)).trans (Mo _)
theorem Hn (s:Node):rd (fF s) 131 32=aV s.block.iO:=(qJ (by rw[bM];decide)).trans (Ep _)
theorem Of (s:Node):rd (fF s) 171 33=bX s.block.gW:=(qJ (by rw[bM];decide)).trans (Mp _)
theorem Rn (s:Node):rd (fF s) 204 33=bX s.block.fin:=(qJ (by rw[bM];decide)).trans (Rk _)
theorem RN (s:Node):(fF s)[238]? = some (.v (.int .i64 s.up)):=(aG rfl (bM _)).trans (rfl)
theorem XZ (s:Node) (x:Int):dJ (fF s) 238 ([.v (.int .i64 x)]) 239=fF { s with up:=x }:=(aD rfl rfl (bM _)).trans (bH (cJ (bC _)))
theorem Gv (s:Node):(fF s)[239]? = some (.v (.int .i64 s.status)):=(aG rfl (bM _)).trans ((aG rfl (bC _)).trans (rfl))
theorem Ic (s:Node) (x:Int):dJ (fF s) 239 ([.v (.int .i64 x)]) 240=fF { s with status:=x }:=(aD rfl rfl (bM _)).trans (bH ((aD rfl rfl (bC _)).trans (bH (eD (bC _)))))
def y8:Node:=⟨fD,0,0⟩
def BS:List Value:=Tx++([.int .i64 0]++([.int .i64 0]))
theorem LB:BS.map AV.v=fF y8:=by simp only[BS,List.map_append,List.map_cons,List.map_nil,jM,jN,Rm];rfl
def aE6:List Bool:=XY++([true]++([true]))
theorem Yo (a b:Node):hU aE6 (fF a) (fF b):=(eP (Vs _ _) (eP (show hU [true] [_] [_] from ⟨rfl,trivial⟩) (show hU [true] [_] [_] from ⟨rfl,trivial⟩)))
theorem J2 (a b:Node):fF a=fF b↔a=b:=by
 refine⟨fun h=>?_,fun h=>by rw[h]⟩
 cases a;cases b
 simp only[fF] at h;obtain⟨h0,h⟩:=List.append_inj h (by simp)
 obtain⟨h1,h⟩:=List.append_inj h (by simp)
 have e0:=(BR _ _).1 h0
 have e1:=(uR _ _).1 h1
 have e2:=(uR _ _).1 h
 subst e0 e1 e2;rfl
theorem RO (s:Node):rd (fF s) 0 240=fF s:=iZ (vP _)
theorem RP (s x:Node):dJ (fF s) 0 (fF x) 240=fF x:=eD (vP _)
def cB (l:List Node):List AV:=l.flatMap fF
@[simp] theorem Ng (l:List (Node)):(cB l).length=l.length * 240:=by
 induction l with
 | nil=>rfl
 | cons x l ih=>simp only[cB,List.flatMap_cons,List.length_append,vP,List.length_cons] at *;omega
theorem jZ (l:List (Node)):∀x∈cB l,Flat x:=by
 intro x hx;obtain⟨y,_,hy⟩:=List.mem_flatMap.1 hx
 exact Nf y x hy
theorem J3 (l:List (Node)) (i:Nat) (h:i<l.length):rd (cB l) (i * 240) 240=fF l[i]:=Nz fF 240 (vP) l i h
structure Tree where
 nodes:List Node
def cT (s:Tree):List AV:=[.sl s.nodes.length (cB s.nodes)]
@[simp] theorem Ty (s:Tree):(cT s).length=1:=by simp[cT]
theorem YA (s:Tree):∀x∈cT s,Flat x:=by
 intro x hx;simp only[cT,List.mem_append,List.mem_singleton] at hx;(subst hx;exact .sl _ _ (jZ _))
theorem BT (s:Tree):(cT s)[0]? = some (.sl s.nodes.length (cB s.nodes)):=rfl
theorem RQ (s:Tree):rd (cT s) 0 1=cT s:=iZ (Ty _)
theorem RR (s x:Tree):dJ (cT s) 0 (cT x) 1=cT x:=eD (Ty _)
end Go.Ab
end
section
namespace Go.Ab
open Classical
def xM (e sz by_:Nat) (v:Option (Nat × List AV)):Option (Option (Nat × Nat) × mV) :=
 match v with
 | some (m,news)=>if news.length=m * sz∧m * by_≤140737488355328∧m≤maxLen then some (none,.row e sz m news) else none
 | none=>none
def xY (e sz by_:Nat) (o:Option mV) (s g:Nat) (v:Option (Nat × List AV)):Option (Option (Nat × Nat) × mV) :=
 match o,v with
 | some (.row e' sJ n cs),some (m,news)=>if news.length=m * sz∧e'=e∧sJ=sz∧(n+m) * by_≤140737488355328∧n+m≤maxLen then some (some (s,g),.row e sz (n+m) (cs++news)) else none
 | _,_=>none
def acE (e sz by_ n:Nat) (cs:List AV) (v:Option (Nat × List AV)):Option (Option (Nat × Nat) × mV) :=
 match v with
 | some (m,news)=>if news.length=m * sz∧cs.length=n * sz∧(n=0∨0<m)∧(n+m) * by_≤140737488355328∧n+m≤maxLen then some (none,.row e sz (n+m) (cs++news)) else none
 | none=>none
section
variable {P:Program} {st:St} {T e sz by_:Nat}
theorem tA (hs:dL P T=some (e,sz,by_)) (x:AV):cZ P st T (.v (.slice none 0 0)) x=xM e sz by_ (aQ st x):=by
 simp only[cZ,hs,xM];cases aQ st x with
 | none=>rfl
 | some v =>
   obtain⟨m,news⟩:=v
   by_cases h1:news.length=m * sz<;>simp[h1]
theorem rV (hs:dL P T=some (e,sz,by_)) (s g:Nat) (x:AV):cZ P st T (.own s g) x=xY e sz by_ (st.heap s g) s g (aQ st x):=by
 simp only[cZ,hs,xY];cases aQ st x with
 | none=>cases st.heap s g with
   | none=>rfl
   | some o=>cases o<;>rfl
 | some v =>
   obtain⟨m,news⟩:=v
   cases st.heap s g with
   | none=>by_cases h1:news.length=m * sz<;>simp[h1]
   | some o =>
     cases o with
     | row a b n cs=>by_cases h1:news.length=m * sz<;>simp[h1]
     | _=>by_cases h1:news.length=m * sz<;>simp[h1]
theorem aGK (hs:dL P T=some (e,sz,by_)) (n:Nat) (cs:List AV) (x:AV):cZ P st T (.cl n cs) x=acE e sz by_ n cs (aQ st x):=by
 simp only[cZ,hs,acE];cases aQ st x with
 | none=>rfl
 | some v =>
   obtain⟨m,news⟩:=v
   by_cases h1:news.length=m * sz<;>simp[h1]
end
def DQ (e sz:Nat) (o:Option mV) (s g:Nat) (i:Int):Option AV :=
 match o with
 | some (.row e' sJ n _)=>if 0≤i∧i<n∧e'=e∧sJ=sz then some (.ptr s g (i.toNat * sz)) else none
 | some (.yD e' sJ n _)=>if 0≤i∧i<n∧e'=e∧sJ=sz then some (.ptr s g (i.toNat * sz)) else none
 | _=>none
theorem Li {P:Program} {st:St} {T e sz by_:Nat} (hn:jL P T=none) (hs:dL P T=some (e,sz,by_)) (s g:Nat) (k:IntKind) (i:Int):bD P st T (.own s g) (.v (.int k i))=DQ e sz (st.heap s g) s g i:=by
 simp only[bD,hn,hs,DQ];cases st.heap s g with
 | none=>rfl
 | some e=>cases e<;>rfl
theorem PN (e sz n:Nat) (cs:List AV) (s g:Nat) (i:Int) (h0:0≤i) (h1:i<n):DQ e sz (some (.yD e sz n cs)) s g i=some (.ptr s g (i.toNat * sz)):=by
 simp[DQ,h0,h1]
theorem aC3 (e sz n:Nat) (cs:List AV) (s g:Nat) (i:Int) (h0:0≤i) (h1:i<n):DQ e sz (some (.row e sz n cs)) s g i=some (.ptr s g (i.toNat * sz)):=by
 simp[DQ,h0,h1]
theorem Og [Ext] {P:Program} {S e sz by_:Nat} {z:List Value} (hs:dL P S=some (e,sz,by_)) (hz:dW P e=some z) {call:Nat→List AV→Option AV} {ops:Array Oper} {st:St} {T:Nat} {pos:String} {eH:Array Edge} (d:Nat) :
 cD P call ops ⟨some d,.buildSlice S 0 #[],T,pos,eH,none⟩ st=some ((st.new d (.row e sz 0 [])).put (some d) (.own d (st.aP d))):=by
 rw[kX,hs];simp[cH,hz,gR]
def elV {α:Type} (x:AV) (k:Value→Option α) (fb:Option α):Option α :=
 match x with
 | .v y=>if y.oneCell'=true then k y else fb
 | _=>fb
theorem aC5 {α:Type} (kk:IntKind) (n:Int) (k:Value→Option α) (fb:Option α):elV (.v (.int kk n)) k fb=k (.int kk n):=rfl
theorem aAC {α:Type} (n:Bool) (k:Value→Option α) (fb:Option α):elV (.v (.bool n)) k fb=k (.bool n):=rfl
@[congr] theorem aIX {α:Type} {x y:AV} {k:Value→Option α} {fb:Option α} (h:x=y):elV x k fb=elV y k fb:=by rw[h]
theorem LC [Ext] {P:Program} {S e by_:Nat} {z:Value} (hs:dL P S=some (e,1,by_)) (hz:dW P e=some [z]) {call:Nat→List AV→Option AV} {ops:Array Oper} {st:St} {T:Nat} {pos:String} {eH:Array Edge} (d:Nat) (x:Operand) :
 cD P call ops ⟨some d,.buildSlice S 1 #[(0,x)],T,pos,eH,none⟩ st=elV (st.ev x) (fun y=>some ((st.new d (.row e 1 1 [.v y])).put (some d) (.own d (st.aP d)))) (cD P call ops ⟨some d,.buildSlice S 1 #[(0,x)],T,pos,eH,none⟩ st):=by
 unfold elV;split
 ·rename_i y h;split
  ·rename_i hy;rw[kX,hs];simp[hz,cH,h,AV.jQ,hy,gR,AV.cells]
  ·rfl
 ·rfl
def O3 {α:Type} (z:Nat) (x:AV) (k:List AV→Option α) (fb:Option α):Option α :=
 match x with
 | .agg cs=>if cs.length=z then k cs else fb
 | _=>fb
theorem aC6 {α:Type} (z:Nat) (cs:List AV) (k:List AV→Option α) (fb:Option α) (h:cs.length=z):O3 z (.agg cs) k fb=k cs:=if_pos h
@[congr] theorem aIY {α:Type} {z:Nat} {x y:AV} {k:List AV→Option α} {fb:Option α} (h:x=y):O3 z x k fb=O3 z y k fb:=by rw[h]
theorem Gn [Ext] {P:Program} {S e sz by_:Nat} {z:List Value} (hs:dL P S=some (e,sz,by_)) (hz:dW P e=some z) (hl:z.length=sz) (hm:sz≤2 ^ 24) {call:Nat→List AV→Option AV} {ops:Array Oper} {st:St} {T:Nat} {pos:String} {eH:Array Edge} (d:Nat) (x:Operand) :
 cD P call ops ⟨some d,.buildSlice S 1 #[(0,x)],T,pos,eH,none⟩ st=O3 sz (st.ev x) (fun cs=>some ((st.new d (.row e sz 1 cs)).put (some d) (.own d (st.aP d)))) (cD P call ops ⟨some d,.buildSlice S 1 #[(0,x)],T,pos,eH,none⟩ st):=by
 unfold O3;split
 ·rename_i cs h;split
  ·rename_i hc;have h2:((List.range 1).flatMap fun _=>z.map AV.v)=z.map AV.v:=by simp[List.range,List.range.loop]
   have hzl:(z.map AV.v).length=sz:=by simpa using hl
   rw[kX,hs];simp only[hz,cH,List.toList_toArray,List.all_cons,List.all_nil,h,AV.jQ,Bool.and_self,List.map_cons,List.map_nil,gR,AV.cells,hc,Nat.zero_mul,Nat.zero_add,List.take_zero,List.nil_append];rw[h2,if_pos (by simpa using hm),if_pos (by simp[hzl])]
   rw[List.drop_of_length_le (by rw[hzl];exact Nat.le_refl _),List.append_nil]
  ·rfl
 ·rfl
theorem Fv {e sz by_ s g n:Nat} {cs:List AV} (hl:cs.length=n * sz) (hb:(n:Int) * by_≤140737488355328) (hm:(n:Int)≤maxLen):xY e sz by_ (some (.row e sz 0 [])) s g (some (n,cs))=some (some (s,g),.row e sz n cs):=by
 simp only[xY];simp only[Nat.zero_add,true_and,List.nil_append];have oC:n * by_≤140737488355328:=by
  have:((n * by_:Nat):Int)≤140737488355328:=by rw[Int.natCast_mul];exact hb
  omega
 rw[if_pos ⟨hl,oC,by omega⟩]
end Go.Ab
end
section
namespace Go.Ab
open Classical
variable [Ext]
@[congr] theorem aIZ {P:Program} {bi:Bool} {c:Code} {s t:St} (h:s=t):wQ P bi c s=wQ P bi c t:=by rw[h]
theorem J4 {P:Program} {bi:Bool} (c:Operand) (a b:Code) (st:St):wQ P bi (.cond c a b) st=onB (st.ev c) fun t=>if t=true then wQ P bi a st else wQ P bi b st:=by
 cases h:st.ev c with
 | v x =>
   cases x with
   | bool t=>exact QW P c a b st h
   | _ =>
     apply Option.ext
     intro r;rw[gG];constructor
     ·rintro⟨n,m,h'⟩
      cases m with
      | zero=>simp[tY] at h'
      | succ m=>simp[tY,h] at h'
     ·intro h';simp[onB] at h'
 | _ =>
   apply Option.ext
   intro r;rw[gG];constructor
   ·rintro⟨n,m,h'⟩
    cases m with
    | zero=>simp[tY] at h'
    | succ m=>simp[tY,h] at h'
   ·intro h';simp[onB] at h'
section
variable {P:Program} {call:Nat→List AV→Option AV} {inl:Nat→List AV→St→Option (AV × St)} {ops:Array Oper} {st:St}
theorem YB:mJ P true call inl ops [] st=some st:=rfl
theorem RS (o:Oper) (l:List Oper):mJ P true call inl ops (o :: l) st=cH (gS P true call inl ops o st) (mJ P true call inl ops l):=rfl
@[congr] theorem aE7 {o:Oper} {s t:St} (h:s=t):gS P true call inl ops o s=gS P true call inl ops o t:=by rw[h]
theorem aAD {o:Oper} (h:Gt o=none):gS P true call inl ops o st=cD P call ops o st:=by
 unfold gS;rw[if_pos rfl,h]
theorem J5 {d:Option Nat} {g:Nat} {args:Array Operand} {rZ:Array Nat} {T:Nat} {pos:String} {eH:Array Edge} (h:Ext.inl g d=true) :
 gS P true call inl ops ⟨d,.call ⟨.value (.func g),args,rZ⟩,T,pos,eH,none⟩ st=cH (inl g (args.toList.map st.ev) st) fun r=>some ((st.back r.2).put d r.1):=by
 have e:Gt ⟨d,.call ⟨.value (.func g),args,rZ⟩,T,pos,eH,none⟩=some (g,args.toList):=by
  unfold Gt;simp only
  rw[if_pos h]
 unfold gS;rw[if_pos rfl,e];simp only[gv,if_true];cases inl g (args.toList.map st.ev) st<;>rfl
end
theorem fK (st s:St):(st.back s).env=st.env:=rfl
theorem dI (st s:St):(st.back s).heap=s.heap:=rfl
theorem cC (st s:St):(st.back s).aP=s.aP:=rfl
theorem Zn {P:Program} {fn:Func} {st:St} {e:Ex} {r:ResultVar} {x:AV} (he:e=.ret∨e=.normal) (hr:fn.results.toList=[r]) (h1:kA P st r=some x):aGC P fn (e,st)=some (x,st):=by
 have h:Bf P fn st=some x:=by
  unfold Bf;rw[hr];exact h1
 rcases he with rfl|rfl<;>simp only[aGC,h,Option.map_some]
theorem YC {P:Program} {bi:Bool} {b:Code} (Inv:Nat→St→Prop) (Q:Ex→St→Prop)
 (step:∀n st,Inv n st→∃e st',wQ P bi b st=some (e,st')∧((e=.normal∧∃m,m<n∧Inv m st')∨(e≠.normal∧Q e st'))):∀n st,Inv n st→∃e st',wQ P bi (.loop b) st=some (e,st')∧e≠.normal∧Q e st':=by
 intro n;induction n using Nat.strongRecOn with
 | _ n ih =>
   intro st h;obtain⟨e,s1,h1,h2⟩:=step n st h
   rw[QV,h1];rcases h2 with ⟨rfl,m,hm,hi⟩|⟨gN,hq⟩
   ·exact ih m hm s1 hi
   ·refine⟨e,s1, ?_,gN,hq⟩
    cases e with
    | normal=>exact absurd rfl gN
    | _=>rfl
theorem mE {P:Program} {bi:Bool} {b:Code} {st:St} {β:Type} {k:Ex × St→Option β} {R:β→Prop} (Inv:Nat→St→Prop) (Q:Ex→St→Prop) (n:Nat)
 (step:∀n st,Inv n st→∃e st',wQ P bi b st=some (e,st')∧((e=.normal∧∃m,m<n∧Inv m st')∨(e≠.normal∧Q e st')))
 (start:Inv n st) (rest:∀e st',Q e st'→∃r,k (e,st')=some r∧R r):∃r,cH (wQ P bi (.loop b) st) k=some r∧R r:=by
 obtain⟨e,s1,h1,h2,h3⟩:=YC Inv Q step n st start
 rw[h1];exact rest e s1 h3
theorem aGL {P:Program} {bi:Bool} {b:Code} {st st':St} {n:Nat} {Inv:Nat→St→Prop} {Q:Ex→St→Prop} (h:wQ P bi b st=some (.normal,st')) (m:Nat) (hm:m<n) (hi:Inv m st') :
 ∃e st',wQ P bi b st=some (e,st')∧((e=.normal∧∃m,m<n∧Inv m st')∨(e≠.normal∧Q e st')):=⟨_,_,h,.inl ⟨rfl,m,hm,hi⟩⟩
theorem aC7 {P:Program} {bi:Bool} {b:Code} {st st':St} {e:Ex} {n:Nat} {Inv:Nat→St→Prop} {Q:Ex→St→Prop} (h:wQ P bi b st=some (e,st')) (he:e≠.normal) (hq:Q e st') :
 ∃e st',wQ P bi b st=some (e,st')∧((e=.normal∧∃m,m<n∧Inv m st')∨(e≠.normal∧Q e st')):=⟨_,_,h,.inr ⟨he,hq⟩⟩
theorem RT {P:Program} {id:Nat} {ops:Array Oper} {d:Bool} {st:St} {l:List (Nat × Nat)} (h:Ext.dyn id ops.size (sK ops)=l) :
 wQ P true (.region id ops d) st=cH (mJ P true (aC P) (Dr P) ops ops.toList st) fun s=>if qF ops s l then some (.normal,s) else none:=by
 rw[BK];congr 1
 funext s
 rw[h];by_cases hf:qF ops s l
 ·rw[if_pos hf,if_neg];rintro⟨_,hn⟩
  exact hn hf
 ·rw[if_neg hf,if_pos ⟨rfl,hf⟩]
theorem J6 (ops:Array Oper) (s:St):qF ops s []=True:=rfl
theorem YD (ops:Array Oper) (s:St) (p:Nat × Nat) (l:List (Nat × Nat)):qF ops s (p :: l)=(Xs ops s p∧qF ops s l):=rfl
def RU (s:St) (x y:Option (List Nat)):Prop:=match x,y with|some aS,some bs=>My s aS bs|_,_=>False
theorem J7 (ops:Array Oper) (s:St) (i j:Nat):Xs ops s (i,j)=RU s ((ops[i]?).bind gV) ((ops[j]?).bind gV):=rfl
theorem aAE (s:St) (a b:Nat):RU s (some [a]) (some [b])=fW (s.env a) (s.env b):=by simp[RU,My]
theorem aAF (s:St) (a a' b:Nat):RU s (some [a,a']) (some [b])=(fW (s.env a) (s.env b)∧fW (s.env a') (s.env b)):=by simp[RU,My]
@[congr] theorem aAG {x y x' y':AV} (h:x=x') (h':y=y'):fW x y=fW x' y':=by rw[h,h']
theorem RV (s g o s' g' o':Nat):fW (.ptr s g o) (.ptr s' g' o')=((s,g)≠(s',g')):=rfl
theorem RW (s g o s' g':Nat):fW (.ptr s g o) (.own s' g')=((s,g)≠(s',g')):=rfl
theorem RX (s g s' g' o':Nat):fW (.own s g) (.ptr s' g' o')=((s,g)≠(s',g')):=rfl
theorem RY (x:Value) (s g o:Nat):fW (.v x) (.ptr s g o)=True:=rfl
theorem RZ (x:Value) (s g o:Nat):fW (.ptr s g o) (.v x)=True:=rfl
theorem SA (s g n:Nat) (cs:List AV):fW (.own s g) (.sl n cs)=True:=rfl
theorem SC (s g n:Nat) (cs:List AV):fW (.sl n cs) (.own s g)=True:=rfl
theorem SE (s g o n:Nat) (cs:List AV):fW (.sl n cs) (.ptr s g o)=True:=rfl
theorem SF (s g o n:Nat) (cs:List AV):fW (.ptr s g o) (.sl n cs)=True:=rfl
theorem SG (n m:Nat) (cs ds:List AV):fW (.sl n cs) (.sl m ds)=True:=rfl
theorem SH (s g:Nat) (x:Value):fW (.own s g) (.v x)=True:=rfl
theorem SI (s g:Nat) (x:Value):fW (.v x) (.own s g)=True:=rfl
theorem SJ (x:Value) (n:Nat) (cs:List AV):fW (.v x) (.sl n cs)=True:=rfl
theorem SK (x:Value) (n:Nat) (cs:List AV):fW (.sl n cs) (.v x)=True:=rfl
def aAH (x y:AV):Option AV :=
 match x,y with
 | .v (.int k a),.v (.int _ b)=>some (.v (.int k (if b<a then b else a)))
 | _,_=>none
def aAI (x y:AV):Option AV :=
 match x,y with
 | .v (.int k a),.v (.int _ b)=>some (.v (.int k (if b > a then b else a)))
 | _,_=>none
theorem Et (k k':IntKind) (a b:Int):aAH (.v (.int k a)) (.v (.int k' b))=some (.v (.int k (if b<a then b else a))):=rfl
theorem Eu (k k':IntKind) (a b:Int):aAI (.v (.int k a)) (.v (.int k' b))=some (.v (.int k (if a<b then b else a))):=rfl
@[congr] theorem aGM {x y x' y':AV} (h:x=x') (h':y=y'):aAH x y=aAH x' y':=by rw[h,h']
@[congr] theorem aGN {x y x' y':AV} (h:x=x') (h':y=y'):aAI x y=aAI x' y':=by rw[h,h']
theorem Tz {P:Program} {call:Nat→List AV→Option AV} {ops:Array Oper} {st:St} {d:Option Nat} {T:Nat} {pos:String} {eH:Array Edge} (x y:Operand) (rZ:Array Nat) :
 cD P call ops ⟨d,.call ⟨.builtin .min,#[x,y],rZ⟩,T,pos,eH,none⟩ st=cH (aAH (st.ev x) (st.ev y)) fun v=>some (st.put d v):=by
 rw[dN];simp only[dG,gZ,aAH];cases st.ev x with
 | v a=>cases a with
   | int k a=>cases st.ev y with
     | v b=>cases b<;>rfl
     | _=>rfl
   | _=>rfl
 | _=>rfl
theorem Ua {P:Program} {call:Nat→List AV→Option AV} {ops:Array Oper} {st:St} {d:Option Nat} {T:Nat} {pos:String} {eH:Array Edge} (x y:Operand) (rZ:Array Nat) :
 cD P call ops ⟨d,.call ⟨.builtin .max,#[x,y],rZ⟩,T,pos,eH,none⟩ st=cH (aAI (st.ev x) (st.ev y)) fun v=>some (st.put d v):=by
 rw[dN];simp only[dG,gZ,aAI];cases st.ev x with
 | v a=>cases a with
   | int k a=>cases st.ev y with
     | v b=>cases b<;>rfl
     | _=>rfl
   | _=>rfl
 | _=>rfl
noncomputable def mvE (call:Nat→List AV→Option AV) (g:Nat) (rest:List AV) (s k d c:Nat) (o:Option mV):Option qE :=
 match o with
 | some (.row e sz n cs) =>
   if (∀c∈cs,Flat c)∧∀x∈rest,Flat x then
    match call g (.uniq e sz n cs :: rest) with
    | some (.uniq e' sJ n' Ff)=>some { dst:=some d,val:=.own d c,dJ:=some (s,k,none),new:=some (d,[.row e' sJ n' Ff])}
    | some (.eG [.uniq e' sJ n' Ff])=>some { dst:=some d,val:=.eG [],dJ:=some (s,k,some (.row e' sJ n' Ff))}
    | _=>none
   else none
 | _=>none
theorem YE (call:Nat→List AV→Option AV) (g s k d:Nat) (rest:List AV) (st:St):lI call g (.own s k :: rest) st (some d)=mvE call g rest s k d (st.aP d) (st.heap s k):=by
 unfold lI mvE;simp only
 cases st.heap s k with
 | none=>rfl
 | some o =>
   cases o with
   | row e sz n cs =>
     simp only
     by_cases hc:(∀c∈cs,Flat c)∧∀x∈rest,Flat x
     ·simp only[if_pos hc];cases call g (.uniq e sz n cs :: rest) with
      | none=>rfl
      | some r =>
        cases r with
        | eG vs =>
          cases vs with
          | nil=>rfl
          | cons x xs =>
            cases x with
            | uniq _ _ _ _=>cases xs<;>rfl
            | _=>rfl
        | _=>rfl
     ·simp only[if_neg hc]
   | _=>rfl
theorem OP {call:Nat→List AV→Option AV} {g:Nat} {rest:List AV} {s k d c e sz n e' sJ n':Nat} {cs Ff:List AV} (hf:∀c∈cs,Flat c) (hr:∀x∈rest,Flat x) (hc:call g (.uniq e sz n cs :: rest)=some (.uniq e' sJ n' Ff)) :
 mvE call g rest s k d c (some (.row e sz n cs))=some { dst:=some d,val:=.own d c,dJ:=some (s,k,none),new:=some (d,[.row e' sJ n' Ff])}:=by
 unfold mvE;simp only
 rw[if_pos ⟨hf,hr⟩,hc]
@[congr] theorem aI0 {call:Nat→List AV→Option AV} {g:Nat} {rest:List AV} {s k d c c':Nat} {o o':Option mV} (h:c=c') (h':o=o'):mvE call g rest s k d c o=mvE call g rest s k d c' o':=by rw[h,h']
theorem VZ {call:Nat→List AV→Option AV} {g d:Nat} {rest:List AV} {st:St} {e sz n:Nat} {cs:List AV} (hr:∀x∈rest,Flat x) (hc:call g (.v (.slice none 0 0) :: rest)=some (.uniq e sz n cs)) :
 lI call g (.v (.slice none 0 0) :: rest) st (some d)=some { dst:=some d,val:=.own d (st.aP d),new:=some (d,[.row e sz n cs])}:=by
 have hf:∀x∈AV.v (.slice none 0 0) :: rest,Flat x:=by
  intro x hx;rcases List.mem_cons.1 hx with rfl|hx
  ·exact .v _
  ·exact hr x hx
 have hnf:¬Flat (.uniq e sz n cs):=by intro h;cases h
 unfold lI;simp only[if_pos hf];unfold aM;rw[if_pos hf,hc];simp only[cH];unfold iU;rw[if_neg hnf];rfl
theorem OO {P:Program} {fn:Func} {st:St} {e:Ex} {r:ResultVar} {s g ee sz n:Nat} {cs:List AV} (he:e=.ret∨e=.normal) (hr:fn.results.toList=[r]) (h1:kA P st r=some (.own s g)) (h2:st.heap s g=some (.row ee sz n cs)) (hm:∀c∈cs,fR c) :
 F4 P fn (e,st)=some (.uniq ee sz n cs):=by
 have h:Be P fn st=some (.uniq ee sz n cs):=by
  unfold Be;rw[hr];simp only[h1,h2];rw[if_pos hm]
 rcases he with rfl|rfl<;>exact h
theorem aCC {P:Program} {fn:Func} {st:St} {e:Ex} {r:ResultVar} {s g ee sz n k:Nat} {cs:List AV} (he:e=.ret∨e=.normal) (hr:fn.results.toList=[r]) (h1:kA P st r=some (.vw s g 0 k)) (h2:st.heap s g=some (.row ee sz n cs)) (hk:k≤n) (hl:cs.length=n * sz) (hm:∀c∈cs,fR c) :
 F4 P fn (e,st)=some (.uniq ee sz k (cs.take (k * sz))):=by
 have h:Be P fn st=some (.uniq ee sz k (cs.take (k * sz))):=by
  unfold Be;rw[hr];simp only[h1,h2];rw[if_pos ⟨hk,hl,hm⟩]
 rcases he with rfl|rfl<;>exact h
theorem jB (e sz n:Nat) (cs rest:List AV):(St.tM e sz n cs rest).env 0=.own 0 0:=rfl
theorem mF (e sz n:Nat) (cs rest:List AV) (t:Nat):(St.tM e sz n cs rest).env (t+1)=(rest[t]?).getD (.v undef):=rfl
theorem jC (e sz n:Nat) (cs rest:List AV):(St.tM e sz n cs rest).heap 0 0=some (.row e sz n cs):=rfl
theorem kN (e sz n:Nat) (cs rest:List AV):(St.tM e sz n cs rest).aP 0=1:=rfl
theorem mG (e sz n:Nat) (cs rest:List AV) (s:Nat) (h:s≠0):(St.tM e sz n cs rest).aP s=0:=if_neg h
end Go.Ab
end
section
namespace Go.Ab
open Classical
variable [Ext]
theorem Qj {P:Program} {a:Code} {st:St} {β:Type} {k:Ex × St→Option β} {R:β→Prop} (Q:Ex→St→Prop) (h:∃e st',yS P a st=some (e,st')∧Q e st')
 (rest:∀e st',Q e st'→∃r,k (e,st')=some r∧R r):∃r,cH (yS P a st) k=some r∧R r:=by
 obtain⟨e,s1,h1,h2⟩:=h
 rw[h1];exact rest e s1 h2
theorem Kh {P:Program} {bi:Bool} {a:Code} {st:St} {β:Type} {k:Ex × St→Option β} {R:β→Prop} (Q:Ex→St→Prop) (h:∃e st',wQ P bi a st=some (e,st')∧Q e st')
 (rest:∀e st',Q e st'→∃r,k (e,st')=some r∧R r):∃r,cH (wQ P bi a st) k=some r∧R r:=by
 obtain⟨e,s1,h1,h2⟩:=h
 rw[h1];exact rest e s1 h2
theorem jG {β:Type} {x:Option β} {v:β} (h:∃r,x=some r∧r=v):x=some v:=by
 obtain⟨r,h,rfl⟩:=h;exact h
theorem SL {P:Program} {id:Nat} {ops:Array Oper} {d:Bool} {st:St} :
 wQ P true (.region id ops d) st=cH (mJ P true (aC P) (Dr P) ops ops.toList st) fun s=>if qF ops s (Ext.dyn id ops.size (sK ops)) then some (.normal,s) else none:=RT rfl
theorem YF (o:Oper) (l:List Oper):sK (o :: l).toArray=o.dst:=by simp[sK]
section
variable {P:Program} {call:Nat→List AV→Option AV} {inl:Nat→List AV→St→Option (AV × St)} {ops:Array Oper} {st:St} {d:Option Nat} {T:Nat} {pos:String} {eH:Array Edge} {g:Option (Nat × Bool)}
theorem aC8 (x:Operand):gS P true call inl ops ⟨d,.move x,T,pos,eH,g⟩ st=cD P call ops ⟨d,.move x,T,pos,eH,g⟩ st:=rfl
theorem J8 (x:Operand):gS P true call inl ops ⟨d,.assign x,T,pos,eH,g⟩ st=cD P call ops ⟨d,.assign x,T,pos,eH,g⟩ st:=rfl
theorem aC9 (x y z:Operand):gS P true call inl ops ⟨d,.pick x y z,T,pos,eH,g⟩ st=cD P call ops ⟨d,.pick x y z,T,pos,eH,g⟩ st:=rfl
theorem aAJ (S:Nat):gS P true call inl ops ⟨d,.alloc S,T,pos,eH,g⟩ st=cD P call ops ⟨d,.alloc S,T,pos,eH,g⟩ st:=rfl
theorem aGO (S:Nat) (x:Operand):gS P true call inl ops ⟨d,.box S x,T,pos,eH,g⟩ st=cD P call ops ⟨d,.box S x,T,pos,eH,g⟩ st:=rfl
theorem aAK (S:Nat) (x:Array (Nat × Operand)):gS P true call inl ops ⟨d,.build S x,T,pos,eH,g⟩ st=cD P call ops ⟨d,.build S x,T,pos,eH,g⟩ st:=rfl
theorem ET (S n:Nat) (x:Array (Nat × Operand)):gS P true call inl ops ⟨d,.buildSlice S n x,T,pos,eH,g⟩ st=cD P call ops ⟨d,.buildSlice S n x,T,pos,eH,g⟩ st:=rfl
theorem LD (S:Nat) (x y:Operand):gS P true call inl ops ⟨d,.makeSlice S x y,T,pos,eH,g⟩ st=cD P call ops ⟨d,.makeSlice S x y,T,pos,eH,g⟩ st:=rfl
theorem SM (f:Fn) (x y:Array Operand):gS P true call inl ops ⟨d,.makeFunc f x y,T,pos,eH,g⟩ st=cD P call ops ⟨d,.makeFunc f x y,T,pos,eH,g⟩ st:=rfl
theorem aDa (S:Nat) (x:Operand):gS P true call inl ops ⟨d,.load S x,T,pos,eH,g⟩ st=cD P call ops ⟨d,.load S x,T,pos,eH,g⟩ st:=rfl
theorem aAL (S:Nat) (x y:Operand):gS P true call inl ops ⟨d,.store S x y,T,pos,eH,g⟩ st=cD P call ops ⟨d,.store S x y,T,pos,eH,g⟩ st:=rfl
theorem aAM (o:BinOp) (S S':Nat) (x y:Operand):gS P true call inl ops ⟨d,.binOp o S x y S',T,pos,eH,g⟩ st=cD P call ops ⟨d,.binOp o S x y S',T,pos,eH,g⟩ st:=rfl
theorem aDb (o:UnOp) (S:Nat) (x:Operand):gS P true call inl ops ⟨d,.unOp o S x,T,pos,eH,g⟩ st=cD P call ops ⟨d,.unOp o S x,T,pos,eH,g⟩ st:=rfl
theorem LF (S f:Nat) (x:Operand):gS P true call inl ops ⟨d,.fieldAddr S x f,T,pos,eH,g⟩ st=cD P call ops ⟨d,.fieldAddr S x f,T,pos,eH,g⟩ st:=rfl
theorem aAN (S f:Nat) (x:Operand):gS P true call inl ops ⟨d,.field S x f,T,pos,eH,g⟩ st=cD P call ops ⟨d,.field S x f,T,pos,eH,g⟩ st:=rfl
theorem LG (S:Nat) (x y:Operand):gS P true call inl ops ⟨d,.indexAddr S x y,T,pos,eH,g⟩ st=cD P call ops ⟨d,.indexAddr S x y,T,pos,eH,g⟩ st:=rfl
theorem YG (S S':Nat) (x:Operand):gS P true call inl ops ⟨d,.convert S S' x,T,pos,eH,g⟩ st=cD P call ops ⟨d,.convert S S' x,T,pos,eH,g⟩ st:=rfl
theorem YH (x:Operand) (i:Nat):gS P true call inl ops ⟨d,.extract x i,T,pos,eH,g⟩ st=cD P call ops ⟨d,.extract x i,T,pos,eH,g⟩ st:=rfl
theorem aAO (S:Nat) (x:Operand) (a b c:Option Operand):gS P true call inl ops ⟨d,.slice S x a b c,T,pos,eH,g⟩ st=cD P call ops ⟨d,.slice S x a b c,T,pos,eH,g⟩ st:=rfl
theorem YI (b:Builtin) (x:Array Operand) (y:Array Nat):gS P true call inl ops ⟨d,.call ⟨.builtin b,x,y⟩,T,pos,eH,g⟩ st=cD P call ops ⟨d,.call ⟨.builtin b,x,y⟩,T,pos,eH,g⟩ st:=rfl
theorem aGP (t:Nat) (x:Array Operand) (y:Array Nat):gS P true call inl ops ⟨d,.call ⟨.value (.tmp t),x,y⟩,T,pos,eH,g⟩ st=cD P call ops ⟨d,.call ⟨.value (.tmp t),x,y⟩,T,pos,eH,g⟩ st:=rfl
theorem aDc (f:Nat) (x:Array Operand) (y:Array Nat) (h:Ext.inl f d=false):gS P true call inl ops ⟨d,.call ⟨.value (.func f),x,y⟩,T,pos,eH,g⟩ st=cD P call ops ⟨d,.call ⟨.value (.func f),x,y⟩,T,pos,eH,g⟩ st:=aAD (by unfold Gt;simp[h])
theorem WJ (f:Nat) (x:Array Operand) (y:Array Nat) (h:Ext.inl f d=true):gS P true call inl ops ⟨d,.call ⟨.value (.func f),x,y⟩,T,pos,eH,none⟩ st=cH (inl f (x.toList.map st.ev) st) fun r=>some ((st.back r.2).put d r.1):=J5 h
theorem aDd (S a:Nat):gV ⟨d,.load S (.tmp a),T,pos,eH,none⟩=some [a]:=rfl
theorem aAP (S a:Nat) (x:Operand):gV ⟨d,.store S (.tmp a) x,T,pos,eH,none⟩=some [a]:=rfl
theorem aAQ (S a:Nat) (x:Operand):gV ⟨d,.indexAddr S (.tmp a) x,T,pos,eH,none⟩=some [a]:=rfl
theorem aAR (S a:Nat) (x y z:Option Operand):gV ⟨d,.slice S (.tmp a) x y z,T,pos,eH,none⟩=some [a]:=rfl
theorem aGQ (a:Nat) (y:Array Nat):gV ⟨d,.call ⟨.builtin .len,#[.tmp a],y⟩,T,pos,eH,none⟩=some [a]:=rfl
theorem J9 (a b:Nat) (y:Array Nat):gV ⟨d,.call ⟨.builtin .append,#[.tmp a,.tmp b],y⟩,T,pos,eH,none⟩=some [a,b]:=rfl
theorem aAS (f a:Nat) (b:Operand) (y:Array Nat) (h:Ext.mv f=true):gV ⟨d,.call ⟨.value (.func f),#[.tmp a,b],y⟩,T,pos,eH,none⟩=some [a]:=by simp[gV,h]
end
end Go.Ab
end
