/-
  Part 5 of the proof: an evaluator of programs, its soundness, and what functions of this program compute.
-/
import Derived.Test.YtmcjkemalibacaaGreatK4
set_option linter.all false
set_option maxRecDepth 20000
set_option maxHeartbeats 40000000
section
namespace Go.Ab
open Classical
variable [Ext]
def rd (cs:List AV) (o k:Nat):List AV:=(cs.drop o).take k
def onB {α:Type} (x:AV) (k:Bool→Option α):Option α :=
 match x with
 | .v (.bool b)=>k b
 | _=>none
section
variable (P:Program)
def fF (T:Nat) (cs:List AV) (o:Nat):Option AV :=
 match fL P T with
 | some (true,k)=>if 0<k∧k≤cs.length-o then some (.agg (rd cs o k)) else none
 | some (false,_)=>cs[o]?
 | none=>none
def Fg (st:St) (T:Nat) (x:AV):Option AV :=
 match x with
 | .ip cs o=>fF P T cs o
 | .ptr s g o =>
   match st.heap s g with
   | some (.cells cs)=>fF P T cs o
   | some (.row _ _ _ cs)=>fF P T cs o
   | _=>none
 | _=>none
theorem HQ (T:Nat) (cs:List AV) (o:Nat):xC P T (cs.drop o)=fF P T cs o:=by
 unfold xC fF;cases fL P T with
 | none=>rfl
 | some bk =>
   obtain⟨b,k⟩:=bk
   cases b
   ·simp
   ·simp[rd]
theorem Oo (st:St) (T:Nat) (x:AV):cH (pX st x) (xC P T)=Fg P st T x:=by
 cases x<;>simp only[pX,cH,Fg,HQ]
 split<;>rename_i h
 ·split at h
  ·rename_i h';cases h;rw[h'];exact HQ P T _ _
  ·rename_i h';cases h;rw[h'];exact HQ P T _ _
  ·cases h
 ·split at h
  ·cases h
  ·cases h
  ·rename_i h1 h2;split<;>first|rfl|(rename_i h';first|exact absurd h' (h1 _)|exact absurd h' (h2 _ _ _ _))
def Va (st:St) (T:Nat) (a x:AV):Option St:=(pK P st T a x).map fun u=>st.jV u.1 u.2.1 (some u.2.2)
variable {P}
variable {call:Nat→List AV→Option AV} {ops:Array Oper} {st:St} {d:Option Nat} {T:Nat} {pos:String} {eU:Array Edge}
@[congr] theorem aIq {α β:Type} {x y:Option α} {f:α→Option β} (h:x=y):cH x f=cH y f:=by rw[h]
@[congr] theorem aIr {α:Type} {x y:AV} {k:Bool→Option α} (h:x=y):onB x k=onB y k:=by rw[h]
@[congr] theorem aEK {l:List Oper} {s t:St} (h:s=t):Mg P call ops l s=Mg P call ops l t:=by rw[h]
@[congr] theorem aF7 {o:Oper} {s t:St} (h:s=t):cC P call ops o s=cC P call ops o t:=by rw[h]
@[congr] theorem aIs {c:Code} {s t:St} (h:s=t):yG P c s=yG P c t:=by rw[h]
theorem cN {α β:Type} (a:α) (f:α→Option β):cH (some a) f=f a:=rfl
theorem LU {α β:Type} (f:α→Option β):cH none f=none:=rfl
theorem U9 {α:Type} (b:Bool) (k:Bool→Option α):onB (.v (.bool b)) k=k b:=rfl
theorem A8:Mg P call ops [] st=some st:=rfl
theorem UW (o:Oper) (l:List Oper):Mg P call ops (o :: l) st=cH (cC P call ops o st) (Mg P call ops l):=rfl
theorem eD (op:Op):cC P call ops ⟨d,op,T,pos,eU,none⟩ st=(dN P call ⟨d,op,T,pos,eU,none⟩ st).map fun e=>e.apply st:=rfl
theorem aCh (x:Operand):cC P call ops ⟨d,.move x,T,pos,eU,none⟩ st=some (st.put d (st.ev x)):=rfl
theorem A9 (x:Operand):cC P call ops ⟨d,.assign x,T,pos,eU,none⟩ st=some (st.put d (st.ev x)):=rfl
theorem aCi (c a b:Operand):cC P call ops ⟨d,.pick c a b,T,pos,eU,none⟩ st=onB (st.ev c) fun t=>some (st.put d (if t=true then st.ev a else st.ev b)):=by
 rw[eD];simp only[dN,iO];cases st.ev c<;>try rfl
 rename_i x;cases x<;>rfl
theorem V0 (op:BinOp) (S:Nat) (x y:Operand) (yT:Nat):cC P call ops ⟨d,.binOp op S x y yT,T,pos,eU,none⟩ st=cH (gA P op S (st.ev x) (st.ev y)) fun v=>some (st.put d v):=by
 rw[eD];simp only[dN,iO];cases gA P op S (st.ev x) (st.ev y)<;>rfl
theorem aCj (op:UnOp) (S:Nat) (x:Operand):cC P call ops ⟨d,.unOp op S x,T,pos,eU,none⟩ st=cH (unA op (st.ev x)) fun v=>some (st.put d v):=by
 rw[eD];simp only[dN,iO];cases unA op (st.ev x)<;>rfl
def OF (P:Program) (src dst:Nat) (x:AV):Option AV :=
 match x,intKind P dst,intKind P src with
 | .v (.int _ n),some k,some _=>some (.v (.int k (k.wrap n)))
 | _,_,_=>none
theorem UX (src dst:Nat) (x:Operand):cC P call ops ⟨d,.convert src dst x,T,pos,eU,none⟩ st=cH (OF P src dst (st.ev x)) fun v=>some (st.put d v):=by
 rw[eD];simp only[dN,iO];show Option.map _ (Option.map _ (OF P src dst (st.ev x)))=_
 cases OF P src dst (st.ev x)<;>rfl
theorem V5 (S:Nat) (x:Operand) (f:Nat):cC P call ops ⟨d,.field S x f,T,pos,eU,none⟩ st=cH (wI P S f (st.ev x)) fun v=>some (st.put d v):=by
 rw[eD];simp only[dN,iO];cases wI P S f (st.ev x)<;>rfl
theorem Yj {S f off k:Nat} {cs:List AV} (h:fieldInfo P S f=some (off,true,k)) (hl:off+k≤cs.length):wI P S f (.agg cs)=some (.agg (rd cs off k)):=by
 simp only[wI,h,if_pos hl];rfl
theorem Yk {S f off k:Nat} {cs:List AV} (h:fieldInfo P S f=some (off,false,k)):wI P S f (.agg cs)=cs[off]?:=by
 simp only[wI,h]
theorem HR (S:Nat) (x:Operand) (f:Nat):cC P call ops ⟨d,.fieldAddr S x f,T,pos,eU,none⟩ st=cH (aV P S f) fun k=>cH (uG (st.ev x) k) fun v=>some (st.put d v):=by
 rw[eD];simp only[dN,iO];cases aV P S f with
 | none=>rfl
 | some k =>
   simp only[cH];cases uG (st.ev x) k<;>rfl
theorem HS (S:Nat) (x i:Operand):cC P call ops ⟨d,.indexAddr S x i,T,pos,eU,none⟩ st=cH (bD P st S (st.ev x) (st.ev i)) fun v=>some (st.put d v):=by
 rw[eD];simp only[dN,iO];cases bD P st S (st.ev x) (st.ev i)<;>rfl
theorem aCk (S:Nat) (x:Operand):cC P call ops ⟨d,.load S x,T,pos,eU,none⟩ st=cH (Fg P st S (st.ev x)) fun v=>some (st.put d v):=by
 rw[eD];simp only[dN,iO,Oo];cases Fg P st S (st.ev x)<;>rfl
def dM (x:AV) (i:Nat):Option AV :=
 match x with
 | .eE vs=>vs[i]?
 | _=>none
theorem UY (t:Operand) (i:Nat):cC P call ops ⟨d,.extract t i,T,pos,eU,none⟩ st=cH (dM (st.ev t) i) fun v=>some (st.put d v):=by
 rw[eD];simp only[dN,iO];show Option.map _ (Option.map _ (dM (st.ev t) i))=_
 cases dM (st.ev t) i<;>rfl
theorem V6 (S:Nat) (parts:Array (Nat × Operand)):cC P call ops ⟨d,.build S parts,T,pos,eU,none⟩ st=cH (iN P st S parts.toList) fun v=>some (st.put d v):=by
 rw[eD];simp only[dN,iO];cases iN P st S parts.toList<;>rfl
theorem V7 (S:Nat) (x:Operand) (lo hi:Option Operand):cC P call ops ⟨d,.slice S x lo hi none,T,pos,eU,none⟩ st=cH (dL P st S (st.ev x) lo hi) fun v=>some (st.put d v):=by
 rw[eD];simp only[dN,iO];cases dL P st S (st.ev x) lo hi<;>rfl
theorem V8 (S d:Nat):cC P call ops ⟨some d,.alloc S,T,pos,eU,none⟩ st=cH (eF P S) fun z=>some ((st.new d (.cells (z.map .v))).put (some d) (.ptr d (st.aQ d) 0)):=by
 rw[eD];simp only[dN,cH];cases eF P S with
 | none=>rfl
 | some z=>simp only[Option.map_some,kY]
theorem aF8 (S d:Nat) (x:Operand):cC P call ops ⟨some d,.box S x,T,pos,eU,none⟩ st=if (st.ev x).jI=true then some ((st.new d (.cells (st.ev x).cells)).put (some d) (.ptr d (st.aQ d) 0)) else none:=by
 rw[eD];simp only[dN,cH];split
 ·simp only[Option.map_some,kY]
 ·rfl
theorem V9 (S:Nat) (x y:Operand):cC P call ops ⟨d,.store S x y,T,pos,eU,none⟩ st=cH (Va P st S (st.ev x) (st.ev y)) fun s=>some (s.put d (.v undef)):=by
 rw[eD];simp only[dN,Va];cases pK P st S (st.ev x) (st.ev y)<;>rfl
theorem aCl (g:Nat) (args:Array Operand) (sQ:Array Nat) (h:Ext.mv g=false) (h2:Ext.eat g d=false):cC P call ops ⟨d,.call ⟨.value (.func g),args,sQ⟩,T,pos,eU,none⟩ st=cH (aN call g (args.toList.map st.ev) st d) fun e=>some (e.apply st):=by
 rw[eD];simp only[dN,iU,mY,h,h2,Bool.false_eq_true,if_false];cases aN call g (args.toList.map st.ev) st d<;>rfl
theorem W0 (g:Nat) (args:Array Operand) (sQ:Array Nat) (h:Ext.mv g=true):cC P call ops ⟨d,.call ⟨.value (.func g),args,sQ⟩,T,pos,eU,none⟩ st=cH (lA call g (args.toList.map st.ev) st d) fun e=>some (e.apply st):=by
 rw[eD];simp only[dN,iU,mY,h,if_true];cases lA call g (args.toList.map st.ev) st d<;>rfl
theorem UZ (g:Nat) (args:Array Operand) (sQ:Array Nat) (h:Ext.mv g=false) (h2:Ext.eat g d=true):cC P call ops ⟨d,.call ⟨.value (.func g),args,sQ⟩,T,pos,eU,none⟩ st=cH (eQ call g (args.toList.map st.ev) st d) fun e=>some (e.apply st):=by
 rw[eD];simp only[dN,iU,mY,h,h2,Bool.false_eq_true,if_false,if_true];cases eQ call g (args.toList.map st.ev) st d<;>rfl
theorem W1 (t:Nat) (args:Array Operand) (sQ:Array Nat) {g:Nat} {oK:List AV} (h:st.env t=.Fp g oK):cC P call ops ⟨d,.call ⟨.value (.tmp t),args,sQ⟩,T,pos,eU,none⟩ st=cH (aN call g (args.toList.map st.ev++oK) st d) fun e=>some (e.apply st):=by
 rw[eD];simp only[dN,iU,mY,St.ev,h,EX];show Option.map _ (aN call g (args.toList.map st.ev++oK) st d)=cH (aN call g (args.toList.map st.ev++oK) st d) _
 cases aN call g (args.toList.map st.ev++oK) st d<;>rfl
theorem B4 (S:Nat) (x:Operand) (lo:Option Operand) (hi mx:Operand):cC P call ops ⟨d,.slice S x lo (some hi) (some mx),T,pos,eU,none⟩ st=cH (zW P st S (st.ev x) lo hi mx) fun v=>some (st.put d v):=by
 rw[eD];simp only[dN,iO];cases zW P st S (st.ev x) lo hi mx<;>rfl
theorem B5 (S:Nat) (x i:Operand) (ok:Bool):cC P call ops ⟨d,.lookup S x i ok,T,pos,eU,none⟩ st=cH (Sd P st S (st.ev x) (st.ev i) ok) fun v=>some (st.put d v):=by
 rw[eD];simp only[dN,iO];cases Sd P st S (st.ev x) (st.ev i) ok<;>rfl
theorem VA (S d:Nat):cC P call ops ⟨some d,.makeMap S none,T,pos,eU,none⟩ st=some ((st.new d (.map [])).put (some d) (.mp d (st.aQ d))):=by
 rw[eD];simp only[dN,cH,Option.map_some,kY]
theorem HT (S:Nat) (m x y:Operand):cC P call ops ⟨d,.mapUpdate S m x y,T,pos,eU,none⟩ st=cH (sX P st S (st.ev m) (st.ev x) (st.ev y)) fun u=>some ((st.jV u.1 u.2.1 (some u.2.2)).put d (.v undef)):=by
 rw[eD];simp only[dN];cases sX P st S (st.ev m) (st.ev x) (st.ev y)<;>rfl
theorem OG (g:Nat) (oK:Array Operand):cC P call ops ⟨d,.makeFunc (.func g) #[] oK,T,pos,eU,none⟩ st=some (st.put d (.Fp g (oK.toList.map st.ev))):=by
 rw[eD];simp only[dN,iO,if_true,Option.map_some];rfl
theorem kH (S n d:Nat) (parts:Array (Nat × Operand)):cC P call ops ⟨some d,.buildSlice S n parts,T,pos,eU,none⟩ st=cH (dQ P S) fun t=>cH (eF P t.1) fun z =>
 if (0<n∨parts=#[])∧n * t.2.1≤2 ^ 24∧(parts.toList.all fun p=>(st.ev p.2).jI)=true then
  cH (gJ (fun i=>some (i * t.2.1,t.2.1)) ((List.range n).flatMap fun _=>z.map .v) (parts.toList.map fun p=>(p.1,st.ev p.2))) fun cs =>
   some ((st.new d (.row t.1 t.2.1 n cs)).put (some d) (.own d (st.aQ d)))
 else none:=by
 rw[eD];simp only[dN,cH];cases dQ P S with
 | none=>rfl
 | some t =>
   simp only
   cases eF P t.1 with
   | none=>rfl
   | some z =>
     simp only
     split
     ·cases gJ (fun i=>some (i * t.2.1,t.2.1)) ((List.range n).flatMap fun _=>z.map .v) (parts.toList.map fun p=>(p.1,st.ev p.2)) with
      | none=>rfl
      | some cs=>simp only[Option.map_some,kY]
     ·rfl
theorem HU (S d:Nat) (l c:Operand) {n:Nat} (hl:st.ev l=.v (.int .i64 n)) (hc:st.ev c=.v (.int .i64 n)):cC P call ops ⟨some d,.makeSlice S l c,T,pos,eU,none⟩ st=cH (dQ P S) fun t=>cH (eF P t.1) fun z =>
 if (n:Int) * t.2.2≤140737488355328∧(n:Int)≤maxLen then some ((st.new d (.row t.1 t.2.1 n ((List.range n).flatMap fun _=>z.map .v))).put (some d) (.own d (st.aQ d))) else none:=by
 rw[eD];simp only[dN,cH,hl,hc];cases dQ P S with
 | none=>rfl
 | some t =>
   simp only
   cases eF P t.1 with
   | none=>rfl
   | some z =>
     simp only[Int.toNat_natCast,Int.natCast_nonneg,true_and];split
     ·simp only[Option.map_some,kY]
     ·rfl
theorem aF9 (x:Operand) (S:Nat) (sQ:Array Nat) (h:sQ=#[S]):cC P call ops ⟨d,.call ⟨.builtin .len,#[x],sQ⟩,T,pos,eU,none⟩ st=cH (dQ P S) fun _=>cH (aT st (st.ev x)) fun nc=>some (st.put d (.v (.int .i64 nc.1))):=by
 subst h;rw[eD];simp only[dN,iU];cases dQ P S with
 | none=>rfl
 | some t=>cases aT st (st.ev x) with
   | none=>rfl
   | some nc=>cases nc;rfl
theorem aCm (x:Operand) (S:Nat):cC P call ops ⟨d,.call ⟨.builtin .len,#[x],#[S]⟩,T,pos,eU,none⟩ st=cH (dQ P S) fun _=>cH (aT st (st.ev x)) fun nc=>some (st.put d (.v (.int .i64 nc.1))):=aF9 x S #[S] rfl
theorem EP (s x:Operand) (S d:Nat) (sQ:Array Nat) (h:sQ=#[S,S]) (hv:Ext.va S d=false) (hp:¬(Ext.pa S d=true∧Gg P st S (st.ev s) (st.ev x))):cC P call ops ⟨some d,.call ⟨.builtin .append,#[s,x],sQ⟩,T,pos,eU,none⟩ st=cH (dE P st S (st.ev s) (st.ev x)) fun ur =>
 some (((match ur.1 with|some p=>st.jV p.1 p.2 none|none=>st).new d ur.2).put (some d) (.own d (st.aQ d))):=by
 subst h;rw[eD];simp only[dN,iU,cH,if_true,hv,Bool.false_eq_true,if_false];rw[if_neg hp];cases dE P st S (st.ev s) (st.ev x) with
 | none=>rfl
 | some ur =>
   obtain⟨u,r⟩:=ur
   cases u with
   | none=>simp only[Option.map_some,Option.map_none,kY]
   | some p=>simp only[Option.map_some,Ra]
theorem VB (s x:Operand) (S d:Nat) (hv:Ext.va S d=false) (hp:Ext.pa S d=false):cC P call ops ⟨some d,.call ⟨.builtin .append,#[s,x],#[S,S]⟩,T,pos,eU,none⟩ st=cH (dE P st S (st.ev s) (st.ev x)) fun ur =>
 some (((match ur.1 with|some p=>st.jV p.1 p.2 none|none=>st).new d ur.2).put (some d) (.own d (st.aQ d))):=EP s x S d #[S,S] rfl hv (by rw[hp];exact fun h=>absurd h.1 (by simp))
theorem W3 (s x:Operand) (S d:Nat) (hv:Ext.va S d=false) (hp:Ext.pa S d=true) (hn:¬(st.ev s=.v (.slice none 0 0)∧(aT st (st.ev x)).map Prod.fst=some 0)):cC P call ops ⟨some d,.call ⟨.builtin .append,#[s,x],#[S,S]⟩,T,pos,eU,none⟩ st=cH (dE P st S (st.ev s) (st.ev x)) fun ur =>
 some (((match ur.1 with|some p=>st.jV p.1 p.2 none|none=>st).new d ur.2).put (some d) (.own d (st.aQ d))):=EP s x S d #[S,S] rfl hv (fun h=>hn ⟨h.2.1,h.2.2.2⟩)
theorem W4 (s x:Operand) (S d:Nat) (hv:Ext.va S d=false) (hp:Ext.pa S d=true) (hi:(dQ P S).isSome=true) (h1:st.ev s=.v (.slice none 0 0)) (h2:(aT st (st.ev x)).map Prod.fst=some 0):cC P call ops ⟨some d,.call ⟨.builtin .append,#[s,x],#[S,S]⟩,T,pos,eU,none⟩ st=some (st.put (some d) (.v (.slice none 0 0))):=by
 rw[eD];simp only[dN,iU,cH,if_true,hv,Bool.false_eq_true,if_false];rw[if_pos ⟨hp,h1,hi,h2⟩];simp only[qW.apply];rfl
theorem W5 (x:Value):st.ev (.const x)=.v x:=rfl
theorem aGa (t:Nat):st.ev (.tmp t)=st.env t:=rfl
theorem aCn (t d:Nat) (x:AV):(st.put (some d) x).env t=if t=d then x else st.env t:=rfl
theorem HV (t:Nat) (x:AV):(st.put none x).env t=st.env t:=rfl
theorem aCo (t d:Nat) (e:mV):(st.new d e).env t=st.env t:=rfl
theorem W6 (t s g:Nat) (e:Option mV):(st.jV s g e).env t=st.env t:=rfl
theorem aCp (t:Nat) (d:Option Nat) (x:AV):(st.put d x).aQ t=st.aQ t:=by cases d<;>rfl
theorem aCq (t d:Nat) (e:mV):(st.new d e).aQ t=if t=d then st.aQ d+1 else st.aQ t:=rfl
theorem W7 (t s g:Nat) (e:Option mV):(st.jV s g e).aQ t=st.aQ t:=rfl
theorem W8 (s g:Nat) (d:Option Nat) (x:AV):(st.put d x).heap s g=st.heap s g:=by cases d<;>rfl
theorem W9 (s g d:Nat) (e:mV):(st.new d e).heap s g=if s=d∧g=st.aQ d then some e else st.heap s g:=rfl
theorem B6 (s g s0 g0:Nat) (e:Option mV):(st.jV s0 g0 e).heap s g=if s=s0∧g=g0 then e else st.heap s g:=rfl
theorem X0 (t:Nat) (xs:List AV):(St.init xs).env t=(xs[t]?).getD (.v undef):=rfl
theorem X3 (t:Nat) (xs:List AV):(St.init xs).aQ t=0:=rfl
theorem B7 (s g:Nat) (xs:List AV):(St.init xs).heap s g=none:=rfl
theorem X4 (x:AV):st.put none x=st:=rfl
theorem OH (d:Option Nat) (x:AV):({ dst:=d,val:=x }:qW).apply st=st.put d x:=rfl
theorem B8 (d:Option Nat) (x:AV) (n:Nat) (e:mV):({ dst:=d,val:=x,new:=some (n,[e])}:qW).apply st=(st.new n e).put d x:=kY d x n e
theorem B9 (d:Option Nat) (x:AV) (s g:Nat) (e:Option mV):({ dst:=d,val:=x,dP:=some (s,g,e)}:qW).apply st=(st.jV s g e).put d x:=rfl
theorem HW (d:Option Nat) (x:AV) (s g n:Nat) (z:Option mV) (e:mV):({ dst:=d,val:=x,dP:=some (s,g,z),new:=some (n,[e])}:qW).apply st=((st.jV s g z).new n e).put d x:=Ra d x s g n z e
theorem bF {g:Nat} {args:List AV} {r:AV} (hf:∀x∈args,Flat x) (h:call g args=some r) (hr:Flat r):aN call g args st d=some { dst:=d,val:=r }:=by
 unfold aN;rw[if_pos hf,h];simp only[cH,iP,if_pos hr]
theorem jA {g:Nat} {args:List AV} {d e sz n:Nat} {cs:List AV} (hf:∀x∈args,Flat x) (h:call g args=some (.uniq e sz n cs)) :
 aN call g args st (some d)=some { dst:=some d,val:=.own d (st.aQ d),new:=some (d,[.row e sz n cs])}:=by
 unfold aN;rw[if_pos hf,h];have:¬Flat (.uniq e sz n cs):=by intro h;cases h
 simp only[cH,iP,if_neg this];rfl
theorem v8 {g:Nat} {args xs:List AV} {r:AV} (hn:∃x∈args,¬Flat x) (hx:bY (args.map (fV st))=some xs) (h:call g xs=some r) (hr:Gh r) (hf:Flat r):aN call g args st d=some { dst:=d,val:=r }:=by
 unfold aN;have gR:¬ ∀x∈args,Flat x:=fun h=>by obtain⟨x,hx,hn⟩:=hn;exact hn (h x hx)
 rw[if_neg gR,hx];simp only[h,cH,if_pos hr,iP,if_pos hf]
end
end Go.Ab
end
section
namespace Go.Ab
open Classical
abbrev bX:=Vector Int 32
abbrev qP:=Vector Int 4
def sD (x:Int):List AV:=[.v (.int .u64 x)]
def oZ (x:Int):List AV:=[.v (.int .i64 x)]
def tY (x:Bool):List AV:=[.v (.bool x)]
def aY (r:bX):List AV:=r.toList.map fun x=>.v (.int .u8 x)
def fY (r:qP):List AV:=r.toList.map fun x=>.v (.int .u64 x)
@[simp] theorem aW (x:Int):(sD x).length=1:=rfl
@[simp] theorem bC (x:Int):(oZ x).length=1:=rfl
@[simp] theorem gS (x:Bool):(tY x).length=1:=rfl
@[simp] theorem aO (r:bX):(aY r).length=32:=by simp[aY]
@[simp] theorem dW (r:qP):(fY r).length=4:=by simp[fY]
theorem eM (x:Int):∀y∈sD x,Flat y:=by intro y hy;simp[sD] at hy;subst hy;exact .v _
theorem lR (x:Int):∀y∈oZ x,Flat y:=by intro y hy;simp[oZ] at hy;subst hy;exact .v _
theorem sG (x:Bool):∀y∈tY x,Flat y:=by intro y hy;simp[tY] at hy;subst hy;exact .v _
theorem dH (x:bX):∀y∈aY x,Flat y:=by intro y hy;obtain⟨z,_,rfl⟩:=List.mem_map.1 hy;exact .v _
theorem iE (x:qP):∀y∈fY x,Flat y:=by intro y hy;obtain⟨z,_,rfl⟩:=List.mem_map.1 hy;exact .v _
theorem Lo {α:Type} (c:α→List AV) (z:Nat) (hz:∀a,(c a).length=z):∀(l:List α) (i:Nat) (h:i<l.length),rd (l.flatMap c) (i * z) z=c l[i]
 | [],i,h=>by simp at h
 | a :: l,0,h=>by simp[rd,List.take_append,hz,List.take_of_length_le]
 | a :: l,i+1,h=>by
   have ih:=Lo c z hz l i (by simpa using h)
   simp only[List.flatMap_cons,List.getElem_cons_succ];rw[← ih];simp only[rd];rw[List.drop_append,List.drop_of_length_le (by rw[hz,Nat.succ_mul];omega),hz,Nat.succ_mul]
   simp
theorem pJ (a b:bX):aY a=aY b↔a=b:=by
 constructor
 ·intro h;unfold aY at h;have h2:a.toList=b.toList:=by
   have:=congrArg (List.map (fun x:AV=>match x with|.v (.int _ n)=>n|_=>0)) h
   simpa [List.map_map,Function.comp_def] using this
  exact Vector.toList_inj.1 h2
 ·intro h;rw[h]
theorem Rf (a b:qP):fY a=fY b↔a=b:=by
 constructor
 ·intro h;unfold fY at h;have h2:a.toList=b.toList:=by
   have:=congrArg (List.map (fun x:AV=>match x with|.v (.int _ n)=>n|_=>0)) h
   simpa [List.map_map,Function.comp_def] using this
  exact Vector.toList_inj.1 h2
 ·intro h;rw[h]
def dP (cs:List AV) (o:Nat) (xs:List AV) (e:Nat):List AV:=cs.take o++xs++cs.drop e
section
variable {a b xs:List AV} {n o o' e e' k:Nat}
theorem bJ (h:xs=b):a++xs=a++b:=by rw[h]
theorem Fw (h:xs=b):xs++a=b++a:=by rw[h]
theorem bB (h:o'=o+n) (ha:a.length=n):rd (a++b) o' k=rd b o k:=by
 subst h;subst ha;simp only[rd];rw[List.drop_append,List.drop_of_length_le (by omega),List.nil_append,show o+a.length-a.length=o by omega]
theorem gF (ha:a.length=n):rd (a++b) 0 n=a:=by
 subst ha;simp[rd]
theorem iW (ha:a.length=n):rd a 0 n=a:=by
 subst ha;simp[rd]
theorem rQ (h:o+k≤a.length):rd (a++b) o k=rd a o k:=by
 simp only[rd];rw[List.drop_append,List.take_append,show o-a.length=0 by omega,show k-(a.drop o).length=0 by simp;omega]
 simp
theorem aK (h:o'=o+n) (ha:a.length=n):(a++b)[o']? = b[o]?:=by
 subst h;subst ha;rw[List.getElem?_append_right (by omega),show o+a.length-a.length=o by omega]
theorem eK (h:o<a.length):(a++b)[o]? = a[o]?:=List.getElem?_append_left h
theorem aC (h:o'=o+n) (h':e'=e+n) (ha:a.length=n):dP (a++b) o' xs e'=a++dP b o xs e:=by
 subst h;subst h';subst ha;simp only[dP];rw[List.take_append,List.take_of_length_le (by omega),List.drop_append,List.drop_of_length_le (by omega),show o+a.length-a.length=o by omega,show e+a.length-a.length=e by omega]
 simp
theorem cA (ha:a.length=n):dP (a++b) 0 xs n=xs++b:=by
 subst ha;simp[dP]
theorem eJ (ha:a.length=n):dP a 0 xs n=xs:=by
 subst ha;simp[dP]
theorem tZ (h:o≤e∧e≤a.length):dP (a++b) o xs e=dP a o xs e++b:=by
 simp only[dP];rw[List.take_append,List.drop_append,show o-a.length=0 by omega,show e-a.length=0 by omega]
 simp
end
theorem Hp (a b:Int):sD a=sD b↔a=b:=by simp[sD]
theorem wB (a b:Int):oZ a=oZ b↔a=b:=by simp[oZ]
theorem ER (a b:Bool):tY a=tY b↔a=b:=by simp[tY]
def dT:bX:=Vector.replicate 32 0
def ES:qP:=Vector.replicate 4 0
def tL:List Value:=List.replicate 32 (.int .u8 0)
def Yl:List Value:=List.replicate 4 (.int .u64 0)
theorem jG:tL.map AV.v=aY dT:=by simp[tL,aY,dT]
theorem jH:Yl.map AV.v=fY ES:=by simp[Yl,fY,ES]
def Hq:List Bool:=List.replicate 32 true
def YP:List Bool:=List.replicate 4 true
theorem fP {l m:List Bool}:∀ {xs ys xs' ys':List AV},iI l xs ys→iI m xs' ys'→iI (l++m) (xs++xs') (ys++ys'):=by
 induction l with
 | nil=>intro xs ys xs' ys' h h';cases xs<;>cases ys<;>first|exact h'|exact h.elim
 | cons b l ih =>
   intro xs ys xs' ys' h h'
   cases b
   ·cases xs with
    | nil=>exact h.elim
    | cons x xs=>cases ys with
      | nil=>unfold iI at h;split at h<;>first|exact h.elim|simp_all
      | cons y ys =>
        unfold iI at h;split at h<;>simp_all [iI]
   ·cases xs with
    | nil=>exact h.elim
    | cons x xs=>cases ys with
      | nil=>unfold iI at h;split at h<;>first|exact h.elim|simp_all
      | cons y ys =>
        unfold iI at h;split at h<;>simp_all [iI]
theorem Lp (k:IntKind):∀(a b:List Int),a.length=b.length→iI (List.replicate a.length true) (a.map fun x=>.v (.int k x)) (b.map fun x=>.v (.int k x))
 | [],[],_=>trivial
 | [],_ :: _,h=>by simp at h
 | _ :: _,[],h=>by simp at h
 | a :: l,b :: m,h=>⟨rfl,Lp k l m (by simpa using h)⟩
theorem mU (a b:bX):iI Hq (aY a) (aY b):=by
 have:=Lp .u8 a.toList b.toList (by simp)
 rw[Vector.length_toList] at this;exact this
theorem Lq (a b:qP):iI YP (fY a) (fY b):=by
 have:=Lp .u64 a.toList b.toList (by simp)
 rw[Vector.length_toList] at this;exact this
def OI (P:Program) (T:Nat):Option (List (Nat × Nat)) :=
 match P.underlying T with
 | some (.struct fs)=>if fs.all (fun f=>(P.info? f.type).isSome) then some (fs.toList.map fun f=>(f.offset,P.cellsOf f.type)) else none
 | _=>none
def OJ (P:Program) (T:Nat):Option Nat :=
 match P.underlying T with
 | some (.array _ e)=>if (P.info? e).isSome then some (P.cellsOf e) else none
 | _=>none
theorem eT {P:Program} {T:Nat} {l:List (Nat × Nat)} (h:OI P T=some l):placeOf P T=some fun i=>l[i]?:=by
 unfold OI at h;unfold placeOf;split at h
 ·rename_i fs hu;split at h
  ·rename_i Ko;simp only[Option.some.injEq] at h;subst h;simp only[hu,Ko,if_true];congr 1
   funext i
   simp
  ·cases h
 ·cases h
theorem Tf {P:Program} {T k:Nat} (h:OJ P T=some k):placeOf P T=some fun i=>some (i * k,k):=by
 unfold OJ at h;unfold placeOf;split at h
 ·rename_i n e hu;split at h
  ·rename_i Ko;simp only[Option.some.injEq] at h;subst h;simp only[hu,Ko,if_true]
  ·cases h
 ·cases h
theorem gV {P:Program} {st:St} {T:Nat} {parts:List (Nat × Operand)} {z:List Value} {place:Nat→Option (Nat × Nat)} {c:List AV} (hz:eF P T=some z) (hc:z.map AV.v=c) (hp:placeOf P T=some place) :
 iN P st T parts=if (parts.all fun p=>(st.ev p.2).jI)=true then (gJ place c (parts.map fun p=>(p.1,st.ev p.2))).map .agg else none:=by
 simp only[iN,hz,hp,hc]
theorem LH (place:Nat→Option (Nat × Nat)) (c:List AV):gJ place c []=some c:=rfl
theorem DN (place:Nat→Option (Nat × Nat)) (c:List AV) (i:Nat) (x:AV) (r:List (Nat × AV)):gJ place c ((i,x) :: r)=cH (place i) fun os =>
 if x.cells.length=os.2∧os.1+os.2≤c.length then gJ place (dP c os.1 x.cells (os.1+os.2)) r else none:=by
 simp only[gJ];cases place i<;>rfl
theorem rR {P:Program} {T:Nat} {l:List Bool} {xs ys:List AV} {p:Prop} [Decidable p] (hl:eR P 20 T=some l) (ha:dB P T=true) (hg:P.eqGuardType P.depth T=false) (hf:iI l xs ys) (hp:xs=ys↔p) :
 vJ P T xs ys=some (decide p):=by
 unfold vJ;rw[hl];simp only[ha,hg,hf,and_self,if_true];congr 1
 rw[Bool.eq_iff_iff];simp[hp]
def sN (P:Program) (T:Nat):Option Nat :=
 match fL P T with
 | some (_,k)=>some k
 | none=>none
theorem C0 {P:Program} {st:St} {T s g o:Nat} {x:AV}:Va P st T (.ptr s g o) x=cH (sN P T) fun k=>if x.cells.length=k∧x.jI=true then
 (match st.heap s g with
  | some (.cells cs)=>if o+k≤cs.length then some (st.jV s g (some (.cells (dP cs o x.cells (o+k))))) else none
  | some (.row e sz n cs)=>if o+k≤cs.length then some (st.jV s g (some (.row e sz n (dP cs o x.cells (o+k))))) else none
  | _=>none) else none:=by
 simp only[Va,pK,sN];cases fL P T with
 | none=>rfl
 | some bk =>
   obtain⟨b,k⟩:=bk
   simp only[cH];split
   ·split
    ·rename_i h;simp only[h];split<;>rfl
    ·rename_i h;simp only[h];split<;>rfl
    ·rename_i h1 h2;split<;>rename_i h<;>first|rfl|exact absurd h (h1 _)|exact absurd h (h2 _ _ _ _)
   ·rfl
theorem OK (s:bX):rd (aY s) 0 32=aY s:=iW (aO _)
theorem OL (s x:bX):dP (aY s) 0 (aY x) 32=aY x:=eJ (aO _)
theorem OM (s:qP):rd (fY s) 0 4=fY s:=iW (dW _)
theorem ON (s x:qP):dP (fY s) 0 (fY x) 4=fY x:=eJ (dW _)
theorem wrap_i64 (x:Int) (h1:-9223372036854775808≤x) (h2:x≤9223372036854775807):IntKind.i64.wrap x=x:=by
 rw[IntKind.wrap_i64];omega
theorem mI (s g:Nat):¬Flat (.own s g):=by intro h;cases h
theorem Mv (s g o:Nat):¬Flat (.ptr s g o):=by intro h;cases h
theorem eB {st:St} {x:AV} (h:Flat x):fV st x=some x:=by unfold fV;rw[if_pos h]
theorem lQ {st:St} {s g e sz n:Nat} {cs:List AV} (h:st.heap s g=some (.row e sz n cs)) (hf:∀c∈cs,Flat c):dA st (.own s g)=some (.sl n cs):=by
 unfold dA;rw[if_neg (mI s g)];simp only[h];rw[if_pos hf]
theorem cY {st:St} {x:AV} (h:Flat x):dA st x=some x:=by unfold dA;rw[if_pos h]
theorem X5 {st:St} {x:AV} (h:Flat x):wV st x=some x:=by unfold wV;rw[if_pos h]
theorem Si {st:St}:∀ {cs:List AV},(∀c∈cs,Flat c)→bY (cs.map (wV st))=some cs
 | [],_=>rfl
 | c :: cs,h=>by
   rw[List.map_cons,X5 (h c (by simp))]
   have ih:=Si (st:=st) (cs:=cs) fun d hd=>h d (List.mem_cons_of_mem _ hd)
   simp only[bY,ih,Option.map_some]
section
variable [Ext]
theorem X6 {P:Program} {f:Nat} {fn:Func} {t:Nat} {st:St} {x:AV} {e:Ex} (hk:Ext.pW f=false) (he:e=.ret∨e=.normal) (hr:fn.results.toList=[.tmp t]) (hx:st.env t=x) (hf:Flat x):zO P f fn (e,st)=some x:=by
 have h1:jN P f fn st=some x:=by
  unfold jN;rw[hk,if_neg (by simp)]
  unfold vD;rw[hr];simp only[lB,cH,hx,Se];cases hf<;>simp only[fV]<;>rw[if_pos]<;>constructor<;>assumption
 rcases he with rfl|rfl<;>exact h1
theorem C1 {P:Program} {f:Nat} {fn:Func} {t T:Nat} {st:St} {y x:AV} {e:Ex} (hk:Ext.pW f=false) (he:e=.ret∨e=.normal) (hr:fn.results.toList=[.cell t T]) (hy:st.env t=y) (hx:Fg P st T y=some x) (hf:Flat x):zO P f fn (e,st)=some x:=by
 have h1:jN P f fn st=some x:=by
  unfold jN;rw[hk,if_neg (by simp)]
  unfold vD;rw[hr];show cH (cH (pX st (st.env t)) (xC P T)) (Se st)=some x
  rw[hy,Oo,hx];simp only[cH,Se];cases hf<;>simp only[fV]<;>rw[if_pos]<;>constructor<;>assumption
 rcases he with rfl|rfl<;>exact h1
theorem Wq {P:Program} {f:Nat} {fn:Func} {t:Nat} {st:St} {e:Ex} {s g e' sz n:Nat} {cs:List AV} (hk:Ext.pW f=false) (he:e=.ret∨e=.normal) (hr:fn.results.toList=[.tmp t]) (hx:st.env t=.own s g) (hh:st.heap s g=some (.row e' sz n cs)) (hf:∀c∈cs,Flat c):zO P f fn (e,st)=some (.uniq e' sz n cs):=by
 have h1:jN P f fn st=some (.uniq e' sz n cs):=by
  unfold jN;rw[hk,if_neg (by simp)]
  unfold vD;rw[hr];simp only[lB,cH,hx,Se,hh];rw[if_pos hf]
 rcases he with rfl|rfl<;>exact h1
theorem VC {P:Program} {f:Nat} {fn:Func} {t T:Nat} {st:St} {e:Ex} {z:AV} {cs:List AV} {y:AV} (hk:Ext.pW f=false) (he:e=.ret∨e=.normal) (hr:fn.results.toList=[.cell t T]) (hz:st.env t=z) (hx:Fg P st T z=some (.agg cs)) (hy:fV st (.agg cs)=some y):zO P f fn (e,st)=some y:=by
 have h1:jN P f fn st=some y:=by
  unfold jN;rw[hk,if_neg (by simp)]
  unfold vD;rw[hr];show cH (cH (pX st (st.env t)) (xC P T)) (Se st)=some y
  rw[hz,Oo,hx];simp only[cH,Se,hy]
 rcases he with rfl|rfl<;>exact h1
def bK (P:Program) (st:St) (r:ResultVar):Option AV :=
 match r with
 | .tmp t=>some (st.env t)
 | .cell t T=>Fg P st T (st.env t)
theorem Ae (P:Program) (st:St) (r:ResultVar):lB P st r=bK P st r:=by
 cases r with
 | tmp t=>rfl
 | cell t T=>exact Oo P st T _
theorem X7 {P:Program} {f:Nat} {fn:Func} {st:St} {e:Ex} {r1 r2:ResultVar} {x1 x2 y1 y2:AV} (hk:Ext.pW f=false) (he:e=.ret∨e=.normal) (hr:fn.results.toList=[r1,r2])
 (h1:bK P st r1=some x1) (h2:bK P st r2=some x2) (e1:fV st x1=some y1) (e2:fV st x2=some y2):zO P f fn (e,st)=some (.eE [y1,y2]):=by
 have h:jN P f fn st=some (.eE [y1,y2]):=by
  unfold jN;rw[hk,if_neg (by simp)]
  unfold vD;rw[hr];simp only[List.map_cons,List.map_nil,Ae,h1,h2,cH,Ct e1,Ct e2,bY,Option.map_some]
 rcases he with rfl|rfl<;>exact h
theorem C2 {P:Program} {f:Nat} {fn:Func} {st:St} {e:Ex} {r1 r2:ResultVar} {x1 x2 y1 y2:AV} (hk:Ext.pW f=false) (he:e=.ret∨e=.normal) (hr:fn.results.toList=[r1,r2])
 (h1:bK P st r1=some x1) (h2:bK P st r2=some x2) (e0:fV st x1=none) (e1:Mh st x1=some y1) (e2:fV st x2=some y2):zO P f fn (e,st)=some (.eE [y1,y2]):=by
 have R1:Bx st x1=some y1:=(UE e0).trans e1
 have h:jN P f fn st=some (.eE [y1,y2]):=by
  unfold jN;rw[hk,if_neg (by simp)]
  unfold vD;rw[hr];simp only[List.map_cons,List.map_nil,Ae,h1,h2,cH,R1,Ct e2,bY,Option.map_some]
 rcases he with rfl|rfl<;>exact h
theorem VD {P:Program} {f:Nat} {fn:Func} {st:St} {e:Ex} {r1 r2 r3:ResultVar} {x1 x2 x3 y1 y2 y3:AV} (hk:Ext.pW f=false) (he:e=.ret∨e=.normal) (hr:fn.results.toList=[r1,r2,r3])
 (h1:bK P st r1=some x1) (h2:bK P st r2=some x2) (h3:bK P st r3=some x3) (e1:fV st x1=some y1) (e2:fV st x2=some y2) (e3:fV st x3=some y3):zO P f fn (e,st)=some (.eE [y1,y2,y3]):=by
 have h:jN P f fn st=some (.eE [y1,y2,y3]):=by
  unfold jN;rw[hk,if_neg (by simp)]
  unfold vD;rw[hr];simp only[List.map_cons,List.map_nil,Ae,h1,h2,h3,cH,Ct e1,Ct e2,Ct e3,bY,Option.map_some]
 rcases he with rfl|rfl<;>exact h
end
section
variable [Ext]
theorem C3 {P:Program} (c:Operand) (a b:Code) (st:St):yG P (.cond c a b) st=onB (st.ev c) fun t=>if t=true then yG P a st else yG P b st:=by
 cases h:st.ev c with
 | v x =>
   cases x with
   | bool t=>exact U7 P c a b st h
   | _ =>
     apply Option.ext
     intro r;rw[YO];constructor
     ·rintro⟨n,m,h'⟩
      cases m with
      | zero=>simp[tT] at h'
      | succ m=>simp[tT,h] at h'
     ·intro h';simp[onB] at h'
 | _ =>
   apply Option.ext
   intro r;rw[YO];constructor
   ·rintro⟨n,m,h'⟩
    cases m with
    | zero=>simp[tT] at h'
    | succ m=>simp[tT,h] at h'
   ·intro h';simp[onB] at h'
def YQ (ops:Array Oper) (j:Nat):Option Nat:=(ops[j]?).bind (·.dst)
def VE {α:Type} (x:AV) (want:Bool) (y n:Option α):Option α :=
 match x with
 | .v (.bool b)=>if b=want then y else n
 | .v _=>n
 | _=>none
def onS {α:Type} (d:Option Nat) (k:Nat→Option α) (n:Option α):Option α :=
 match d with
 | some d=>k d
 | none=>n
@[congr] theorem aGb {α:Type} {x x':AV} {want:Bool} {y n:Option α} (h:x=x'):VE x want y n=VE x' want y n:=by rw[h]
@[congr] theorem aIu {α:Type} {d d':Option Nat} {k:Nat→Option α} {n:Option α} (h:d=d'):onS d k n=onS d' k n:=by rw[h]
theorem C4 {α:Type} (b:Bool) (y n:Option α):VE (.v (.bool b)) true y n=if b=true then y else n:=rfl
theorem VF {α:Type} (b:Bool) (y n:Option α):VE (.v (.bool b)) false y n=if b=false then y else n:=rfl
theorem VG {α:Type} (w:Bool) (y n:Option α):VE (.v undef) w y n=n:=rfl
theorem X8 {α:Type} (d:Nat) (k:Nat→Option α) (n:Option α):onS (some d) k n=k d:=rfl
theorem C5 {P:Program} {call:Nat→List AV→Option AV} {ops:Array Oper} {st:St} {d:Option Nat} {T:Nat} {pos:String} {eU:Array Edge} (op:Op) (j:Nat) (want:Bool) :
 cC P call ops ⟨d,op,T,pos,eU,some (j,want)⟩ st=onS (YQ ops j) (fun s=>VE (st.env s) want (cC P call ops ⟨d,op,T,pos,eU,none⟩ st) (some (st.put d (.v undef)))) (some (st.put d (.v undef))):=by
 simp only[cC,gv,YQ];cases (ops[j]?).bind (·.dst) with
 | none=>simp[onS]
 | some s =>
   simp only[onS];cases st.env s with
   | v x=>cases x<;>simp[VE,dN]<;>rename_i b<;>cases b<;>cases want<;>simp[dN]
   | _=>rfl
end
section
variable {P:Program} {T:Nat} {k k1:IntKind} {a b:Int}
theorem aCr:gA P .add T (.v (.int k a)) (.v (.int k b))=some (.v (.int k (k.wrap (a+b)))):=by simp[gA]
theorem aCs:gA P .sub T (.v (.int k a)) (.v (.int k b))=some (.v (.int k (k.wrap (a-b)))):=by simp[gA]
theorem aCt:gA P .mul T (.v (.int k a)) (.v (.int k b))=some (.v (.int k (k.wrap (a * b)))):=by simp[gA]
theorem aCu:gA P .and T (.v (.int k a)) (.v (.int k b))=some (.v (.int k (k.wrap (BitVec.ofInt k.bits a &&& BitVec.ofInt k.bits b).toNat))):=by simp[gA]
theorem aCv:gA P .eql T (.v (.int k a)) (.v (.int k b))=some (.v (.bool (a == b))):=by simp[gA]
theorem aCw:gA P .neq T (.v (.int k a)) (.v (.int k b))=some (.v (.bool (a != b))):=by simp[gA]
theorem aCx:gA P .lss T (.v (.int k a)) (.v (.int k b))=some (.v (.bool (decide (a<b)))):=by simp[gA]
theorem aCy:gA P .leq T (.v (.int k a)) (.v (.int k b))=some (.v (.bool (decide (a≤b)))):=by simp[gA]
theorem aCz:gA P .gtr T (.v (.int k a)) (.v (.int k b))=some (.v (.bool (decide (a > b)))):=by simp[gA]
theorem aCA:gA P .geq T (.v (.int k a)) (.v (.int k b))=some (.v (.bool (decide (a≥b)))):=by simp[gA]
theorem aCB (h:b≠0):gA P .quo T (.v (.int k a)) (.v (.int k b))=some (.v (.int k (k.wrap (a.tdiv b)))):=by simp[gA,h]
theorem aCC (h:b≠0):gA P .rem T (.v (.int k a)) (.v (.int k b))=some (.v (.int k (a.tmod b))):=by simp[gA,h]
theorem aCD (h:¬b<0):gA P .shr T (.v (.int k a)) (.v (.int k1 b))=some (.v (.int k (a.fdiv (2 ^ (min b.toNat k.bits))))):=by simp[gA,h]
theorem aCE (h:¬b<0):gA P .shl T (.v (.int k a)) (.v (.int k1 b))=some (.v (.int k (k.wrap (a * 2 ^ (min b.toNat k.bits))))):=by simp[gA,h]
end
theorem HX (s:St) (k:St→Option (Ex × St)):Yi (.normal,s) k=k s:=rfl
theorem C6 (s:St) (k:St→Option (Ex × St)):Yi (.ret,s) k=some (.ret,s):=rfl
theorem VH (i:Nat) (s:St) (k:St→Option (Ex × St)):Yi (.exit i,s) k=some (.exit i,s):=rfl
theorem Vm (r:bX) (i e:Nat) (x:Int) (h:i<32) (he:e=i+1):dP (aY r) i [.v (.int .u8 x)] e=aY (r.set i x):=by
 subst he;simp only[dP,aY,Vector.toList_set,List.map_set];rw[List.set_eq_take_append_cons_drop,if_pos (by simp[h])]
 simp
theorem qI (r:qP) (i e:Nat) (x:Int) (h:i<4) (he:e=i+1):dP (fY r) i [.v (.int .u64 x)] e=fY (r.set i x):=by
 subst he;simp only[dP,fY,Vector.toList_set,List.map_set];rw[List.set_eq_take_append_cons_drop,if_pos (by simp[h])]
 simp
theorem Qc [Ext] {P:Program} {b:Code} (Inv:Nat→St→Prop) (Q:Ex→St→Prop)
 (step:∀n st,Inv n st→∃e st',yG P b st=some (e,st')∧((e=.normal∧∃m,m<n∧Inv m st')∨(e≠.normal∧Q e st'))):∀n st,Inv n st→∃e st',yG P (.loop b) st=some (e,st')∧e≠.normal∧Q e st':=by
 intro n;induction n using Nat.strongRecOn with
 | _ n ih =>
   intro st h;obtain⟨e,s1,h1,h2⟩:=step n st h
   rw[Cb,h1];rcases h2 with ⟨rfl,m,hm,hi⟩|⟨gR,hq⟩
   ·exact ih m hm s1 hi
   ·refine⟨e,s1, ?_,gR,hq⟩
    cases e with
    | normal=>exact absurd rfl gR
    | _=>rfl
theorem jP [Ext] {P:Program} {b:Code} {st:St} {β:Type} {k:Ex × St→Option β} {r:β} (Inv:Nat→St→Prop) (Q:Ex→St→Prop) (n:Nat)
 (step:∀n st,Inv n st→∃e st',yG P b st=some (e,st')∧((e=.normal∧∃m,m<n∧Inv m st')∨(e≠.normal∧Q e st')))
 (start:Inv n st) (rest:∀e st',Q e st'→k (e,st')=some r):cH (yG P (.loop b) st) k=some r:=by
 obtain⟨e,s1,h1,h2,h3⟩:=Qc Inv Q step n st start
 rw[h1];exact rest e s1 h3
theorem cJ [Ext] {P:Program} {b:Code} {st:St} {β:Type} {k:Ex × St→Option β} {R:β→Prop} (Inv:Nat→St→Prop) (Q:Ex→St→Prop) (n:Nat)
 (step:∀n st,Inv n st→∃e st',yG P b st=some (e,st')∧((e=.normal∧∃m,m<n∧Inv m st')∨(e≠.normal∧Q e st')))
 (start:Inv n st) (rest:∀e st',Q e st'→∃r,k (e,st')=some r∧R r):∃r,cH (yG P (.loop b) st) k=some r∧R r:=by
 obtain⟨e,s1,h1,h2,h3⟩:=Qc Inv Q step n st start
 rw[h1];exact rest e s1 h3
theorem oC {α β γ:Type} (x:Option α) (f:α→Option β) (g:β→Option γ):cH (cH x f) g=cH x fun a=>cH (f a) g:=by cases x<;>rfl
theorem oI [Ext] {P:Program} {b:Code} {st st':St} {n:Nat} {Inv:Nat→St→Prop} {Q:Ex→St→Prop} (h:yG P b st=some (.normal,st')) (m:Nat) (hm:m<n) (hi:Inv m st') :
 ∃e st',yG P b st=some (e,st')∧((e=.normal∧∃m,m<n∧Inv m st')∨(e≠.normal∧Q e st')):=⟨_,_,h,.inl ⟨rfl,m,hm,hi⟩⟩
theorem aGc [Ext] {P:Program} {b:Code} {st st':St} {e:Ex} {n:Nat} {Inv:Nat→St→Prop} {Q:Ex→St→Prop} (h:yG P b st=some (e,st')) (he:e≠.normal) (hq:Q e st') :
 ∃e st',yG P b st=some (e,st')∧((e=.normal∧∃m,m<n∧Inv m st')∨(e≠.normal∧Q e st')):=⟨_,_,h,.inr ⟨he,hq⟩⟩
def aH (l:List Int):List AV:=l.flatMap oZ
@[simp] theorem Iz (l:List (Int)):(aH l).length=l.length * 1:=by
 induction l with
 | nil=>rfl
 | cons x l ih=>simp only[aH,List.flatMap_cons,List.length_append,bC,List.length_cons] at *;omega
theorem gB (l:List (Int)):∀x∈aH l,Flat x:=by
 intro x hx;obtain⟨y,_,hy⟩:=List.mem_flatMap.1 hx
 exact lR y x hy
theorem X9 (l:List (Int)) (i:Nat) (h:i<l.length):rd (aH l) (i * 1) 1=oZ l[i]:=Lo oZ 1 (bC) l i h
def bH (l:List Int):List AV:=l.flatMap sD
@[simp] theorem Qs (l:List (Int)):(bH l).length=l.length * 1:=by
 induction l with
 | nil=>rfl
 | cons x l ih=>simp only[bH,List.flatMap_cons,List.length_append,aW,List.length_cons] at *;omega
theorem iD (l:List (Int)):∀x∈bH l,Flat x:=by
 intro x hx;obtain⟨y,_,hy⟩:=List.mem_flatMap.1 hx
 exact eM y x hy
def gP (l:List bX):List AV:=l.flatMap aY
@[simp] theorem aGd (l:List (bX)):(gP l).length=l.length * 32:=by
 induction l with
 | nil=>rfl
 | cons x l ih=>simp only[gP,List.flatMap_cons,List.length_append,aO,List.length_cons] at *;omega
theorem Tg (l:List (bX)):∀x∈gP l,Flat x:=by
 intro x hx;obtain⟨y,_,hy⟩:=List.mem_flatMap.1 hx
 exact dH y x hy
structure fB where
 aI:Int
 root:bX
def bV (s:fB):List AV:=sD s.aI++(aY s.root)
@[simp] theorem bO (s:fB):(bV s).length=33:=by simp[bV]
theorem cT (s:fB):∀x∈bV s,Flat x:=by
 intro x hx;simp only[bV,List.mem_append,List.mem_singleton] at hx;rcases hx with hx|hx
 ·(exact eM _ _ hx)
 ·(exact dH _ _ hx)
theorem jR (s:fB):(bV s)[0]? = some (.v (.int .u64 s.aI)):=rfl
theorem Br (s:fB) (x:Int):dP (bV s) 0 ([.v (.int .u64 x)]) 1=bV { s with aI:=x }:=cA (aW _)
theorem tO (s:fB):rd (bV s) 1 32=aY s.root:=(bB rfl (aW _)).trans (iW (aO _))
theorem Ep (s:fB) (x:bX):dP (bV s) 1 (aY x) 33=bV { s with root:=x }:=(aC rfl rfl (aW _)).trans (bJ (eJ (aO _)))
def iB:fB:=⟨0,dT⟩
def Cf:List Value:=[.int .u64 0]++(tL)
theorem Ai:Cf.map AV.v=bV iB:=by simp only[Cf,List.map_append,List.map_cons,List.map_nil,jG,jH];rfl
def Th:List Bool:=[true]++(Hq)
theorem sH (a b:fB):iI Th (bV a) (bV b):=(fP (show iI [true] [_] [_] from ⟨rfl,trivial⟩) (mU _ _))
theorem mF (a b:fB):bV a=bV b↔a=b:=by
 refine⟨fun h=>?_,fun h=>by rw[h]⟩
 cases a;cases b
 simp only[bV] at h;obtain⟨h0,h⟩:=List.append_inj h (by simp)
 have e0:=(Hp _ _).1 h0
 have e1:=(pJ _ _).1 h
 subst e0 e1;rfl
theorem OO (s:fB):rd (bV s) 0 33=bV s:=iW (bO _)
theorem OP (s x:fB):dP (bV s) 0 (bV x) 33=bV x:=eJ (bO _)
structure oR where
 pj:fB
 pf:fB
def fD (s:oR):List AV:=bV s.pj++(bV s.pf)
@[simp] theorem cI (s:oR):(fD s).length=66:=by simp[fD]
theorem Du (s:oR):∀x∈fD s,Flat x:=by
 intro x hx;simp only[fD,List.mem_append,List.mem_singleton] at hx;rcases hx with hx|hx
 ·(exact cT _ _ hx)
 ·(exact cT _ _ hx)
theorem Oq (s:oR):rd (fD s) 0 33=bV s.pj:=gF (bO _)
theorem Ot (s:oR) (x:fB):dP (fD s) 0 (bV x) 33=fD { s with pj:=x }:=cA (bO _)
theorem wZ (s:oR):(fD s)[0]? = some (.v (.int .u64 s.pj.aI)):=(eK (by rw[bO];decide)).trans (jR _)
theorem zC (s:oR) (x:Int):dP (fD s) 0 ([.v (.int .u64 x)]) 1=fD { s with pj:={ s.pj with aI:=x }}:=(tZ (by rw[bO];decide)).trans (Fw (Br _ x))
theorem Ou (s:oR):rd (fD s) 33 33=bV s.pf:=(bB rfl (bO _)).trans (iW (bO _))
theorem Ov (s:oR) (x:fB):dP (fD s) 33 (bV x) 66=fD { s with pf:=x }:=(aC rfl rfl (bO _)).trans (bJ (eJ (bO _)))
theorem xA (s:oR):(fD s)[33]? = some (.v (.int .u64 s.pf.aI)):=(aK rfl (bO _)).trans (jR _)
def Nd:oR:=⟨iB,iB⟩
def Ow:List Value:=Cf++(Cf)
theorem Rh:Ow.map AV.v=fD Nd:=by simp only[Ow,List.map_append,List.map_cons,List.map_nil,jG,jH,Ai];rfl
def YR:List Bool:=Th++(Th)
theorem HY (a b:oR):iI YR (fD a) (fD b):=(fP (sH _ _) (sH _ _))
theorem OQ (a b:oR):fD a=fD b↔a=b:=by
 refine⟨fun h=>?_,fun h=>by rw[h]⟩
 cases a;cases b
 simp only[fD] at h;obtain⟨h0,h⟩:=List.append_inj h (by simp)
 have e0:=(mF _ _).1 h0
 have e1:=(mF _ _).1 h
 subst e0 e1;rfl
theorem BL (s:oR):rd (fD s) 0 66=fD s:=iW (cI _)
theorem BM (s x:oR):dP (fD s) 0 (fD x) 66=fD x:=eJ (cI _)
structure Block where
 dV:oR
 slot:Int
 root:bX
 parent:bX
 jF:bX
 diff:qP
 DL:qP
 dS:fB
 fin:fB
 Ef:Bool
def aU (s:Block):List AV:=fD s.dV++(sD s.slot++(aY s.root++(aY s.parent++(aY s.jF++(fY s.diff++(fY s.DL++(bV s.dS++(bV s.fin++(tY s.Ef)))))))))
@[simp] theorem bN (s:Block):(aU s).length=238:=by simp[aU]
theorem Aw (s:Block):∀x∈aU s,Flat x:=by
 intro x hx;simp only[aU,List.mem_append,List.mem_singleton] at hx;rcases hx with hx|hx|hx|hx|hx|hx|hx|hx|hx|hx
 ·(exact Du _ _ hx)
 ·(exact eM _ _ hx)
 ·(exact dH _ _ hx)
 ·(exact dH _ _ hx)
 ·(exact dH _ _ hx)
 ·(exact iE _ _ hx)
 ·(exact iE _ _ hx)
 ·(exact cT _ _ hx)
 ·(exact cT _ _ hx)
 ·(exact sG _ _ hx)
theorem Fh (s:Block):rd (aU s) 0 66=fD s.dV:=gF (cI _)
theorem Tv (s:Block) (x:oR):dP (aU s) 0 (fD x) 66=aU { s with dV:=x }:=cA (cI _)
theorem zD (s:Block):rd (aU s) 0 33=bV s.dV.pj:=(rQ (by rw[cI];decide)).trans (Oq _)
theorem Lr (s:Block) (x:fB):dP (aU s) 0 (bV x) 33=aU { s with dV:={ s.dV with pj:=x }}:=(tZ (by rw[cI];decide)).trans (Fw (Ot _ x))
theorem rA (s:Block):(aU s)[0]? = some (.v (.int .u64 s.dV.pj.aI)):=(eK (by rw[cI];decide)).trans (wZ _)
theorem Bs (s:Block) (x:Int):dP (aU s) 0 ([.v (.int .u64 x)]) 1=aU { s with dV:={ s.dV with pj:={ s.dV.pj with aI:=x }} }:=(tZ (by rw[cI];decide)).trans (Fw (zC _ x))
theorem zF (s:Block):rd (aU s) 33 33=bV s.dV.pf:=(rQ (by rw[cI];decide)).trans (Ou _)
theorem Ls (s:Block) (x:fB):dP (aU s) 33 (bV x) 66=aU { s with dV:={ s.dV with pf:=x }}:=(tZ (by rw[cI];decide)).trans (Fw (Ov _ x))
theorem rC (s:Block):(aU s)[33]? = some (.v (.int .u64 s.dV.pf.aI)):=(eK (by rw[cI];decide)).trans (xA _)
theorem Hr (s:Block):(aU s)[66]? = some (.v (.int .u64 s.slot)):=(aK rfl (cI _)).trans (rfl)
theorem BN (s:Block) (x:Int):dP (aU s) 66 ([.v (.int .u64 x)]) 67=aU { s with slot:=x }:=(aC rfl rfl (cI _)).trans (bJ (cA (aW _)))
theorem Kd (s:Block):rd (aU s) 67 32=aY s.root:=(bB rfl (cI _)).trans ((bB rfl (aW _)).trans (gF (aO _)))
theorem BO (s:Block) (x:bX):dP (aU s) 67 (aY x) 99=aU { s with root:=x }:=(aC rfl rfl (cI _)).trans (bJ ((aC rfl rfl (aW _)).trans (bJ (cA (aO _)))))
theorem Tw (s:Block):rd (aU s) 99 32=aY s.parent:=(bB rfl (cI _)).trans ((bB rfl (aW _)).trans ((bB rfl (aO _)).trans (gF (aO _))))
theorem Tx (s:Block) (x:bX):dP (aU s) 99 (aY x) 131=aU { s with parent:=x }:=(aC rfl rfl (cI _)).trans (bJ ((aC rfl rfl (aW _)).trans (bJ ((aC rfl rfl (aO _)).trans (bJ (cA (aO _)))))))
theorem Cv (s:Block):rd (aU s) 131 32=aY s.jF:=(bB rfl (cI _)).trans ((bB rfl (aW _)).trans ((bB rfl (aO _)).trans ((bB rfl (aO _)).trans (gF (aO _)))))
theorem Ri (s:Block) (x:bX):dP (aU s) 131 (aY x) 163=aU { s with jF:=x }:=(aC rfl rfl (cI _)).trans (bJ ((aC rfl rfl (aW _)).trans (bJ ((aC rfl rfl (aO _)).trans (bJ ((aC rfl rfl (aO _)).trans (bJ (cA (aO _)))))))))
theorem BP (s:Block):rd (aU s) 163 4=fY s.diff:=(bB rfl (cI _)).trans ((bB rfl (aW _)).trans ((bB rfl (aO _)).trans ((bB rfl (aO _)).trans ((bB rfl (aO _)).trans (gF (dW _))))))
theorem BR (s:Block) (x:qP):dP (aU s) 163 (fY x) 167=aU { s with diff:=x }:=(aC rfl rfl (cI _)).trans (bJ ((aC rfl rfl (aW _)).trans (bJ ((aC rfl rfl (aO _)).trans (bJ ((aC rfl rfl (aO _)).trans (bJ ((aC rfl rfl (aO _)).trans (bJ (cA (dW _)))))))))))
theorem Ym (s:Block):rd (aU s) 167 4=fY s.DL:=(bB rfl (cI _)).trans ((bB rfl (aW _)).trans ((bB rfl (aO _)).trans ((bB rfl (aO _)).trans ((bB rfl (aO _)).trans ((bB rfl (dW _)).trans (gF (dW _)))))))
theorem Yn (s:Block) (x:qP):dP (aU s) 167 (fY x) 171=aU { s with DL:=x }:=(aC rfl rfl (cI _)).trans (bJ ((aC rfl rfl (aW _)).trans (bJ ((aC rfl rfl (aO _)).trans (bJ ((aC rfl rfl (aO _)).trans (bJ ((aC rfl rfl (aO _)).trans (bJ ((aC rfl rfl (dW _)).trans (bJ (cA (dW _)))))))))))))
theorem Ke (s:Block):rd (aU s) 171 33=bV s.dS:=(bB rfl (cI _)).trans ((bB rfl (aW _)).trans ((bB rfl (aO _)).trans ((bB rfl (aO _)).trans ((bB rfl (aO _)).trans ((bB rfl (dW _)).trans ((bB rfl (dW _)).trans (gF (bO _))))))))
theorem BS (s:Block) (x:fB):dP (aU s) 171 (bV x) 204=aU { s with dS:=x }:=(aC rfl rfl (cI _)).trans (bJ ((aC rfl rfl (aW _)).trans (bJ ((aC rfl rfl (aO _)).trans (bJ ((aC rfl rfl (aO _)).trans (bJ ((aC rfl rfl (aO _)).trans (bJ ((aC rfl rfl (dW _)).trans (bJ ((aC rfl rfl (dW _)).trans (bJ (cA (bO _)))))))))))))))
theorem Hs (s:Block):(aU s)[171]? = some (.v (.int .u64 s.dS.aI)):=(aK rfl (cI _)).trans ((aK rfl (aW _)).trans ((aK rfl (aO _)).trans ((aK rfl (aO _)).trans ((aK rfl (aO _)).trans ((aK rfl (dW _)).trans ((aK rfl (dW _)).trans ((eK (by rw[bO];decide)).trans (jR _))))))))
theorem Ox (s:Block):rd (aU s) 204 33=bV s.fin:=(bB rfl (cI _)).trans ((bB rfl (aW _)).trans ((bB rfl (aO _)).trans ((bB rfl (aO _)).trans ((bB rfl (aO _)).trans ((bB rfl (dW _)).trans ((bB rfl (dW _)).trans ((bB rfl (bO _)).trans (gF (bO _)))))))))
theorem HZ (s:Block) (x:fB):dP (aU s) 204 (bV x) 237=aU { s with fin:=x }:=(aC rfl rfl (cI _)).trans (bJ ((aC rfl rfl (aW _)).trans (bJ ((aC rfl rfl (aO _)).trans (bJ ((aC rfl rfl (aO _)).trans (bJ ((aC rfl rfl (aO _)).trans (bJ ((aC rfl rfl (dW _)).trans (bJ ((aC rfl rfl (dW _)).trans (bJ ((aC rfl rfl (bO _)).trans (bJ (cA (bO _)))))))))))))))))
theorem Jm (s:Block):(aU s)[204]? = some (.v (.int .u64 s.fin.aI)):=(aK rfl (cI _)).trans ((aK rfl (aW _)).trans ((aK rfl (aO _)).trans ((aK rfl (aO _)).trans ((aK rfl (aO _)).trans ((aK rfl (dW _)).trans ((aK rfl (dW _)).trans ((aK rfl (bO _)).trans ((eK (by rw[bO];decide)).trans (jR _)))))))))
theorem Oy (s:Block) (x:bX):dP (aU s) 205 (aY x) 237=aU { s with fin:={ s.fin with root:=x }}:=(aC rfl rfl (cI _)).trans (bJ ((aC rfl rfl (aW _)).trans (bJ ((aC rfl rfl (aO _)).trans (bJ ((aC rfl rfl (aO _)).trans (bJ ((aC rfl rfl (aO _)).trans (bJ ((aC rfl rfl (dW _)).trans (bJ ((aC rfl rfl (dW _)).trans (bJ ((aC rfl rfl (bO _)).trans (bJ ((tZ (by rw[bO];decide)).trans (Fw (Ep _ x))))))))))))))))))
theorem Rj (s:Block):(aU s)[237]? = some (.v (.bool s.Ef)):=(aK rfl (cI _)).trans ((aK rfl (aW _)).trans ((aK rfl (aO _)).trans ((aK rfl (aO _)).trans ((aK rfl (aO _)).trans ((aK rfl (dW _)).trans ((aK rfl (dW _)).trans ((aK rfl (bO _)).trans ((aK rfl (bO _)).trans (rfl)))))))))
theorem Ty (s:Block) (x:Bool):dP (aU s) 237 ([.v (.bool x)]) 238=aU { s with Ef:=x }:=(aC rfl rfl (cI _)).trans (bJ ((aC rfl rfl (aW _)).trans (bJ ((aC rfl rfl (aO _)).trans (bJ ((aC rfl rfl (aO _)).trans (bJ ((aC rfl rfl (aO _)).trans (bJ ((aC rfl rfl (dW _)).trans (bJ ((aC rfl rfl (dW _)).trans (bJ ((aC rfl rfl (bO _)).trans (bJ ((aC rfl rfl (bO _)).trans (bJ (eJ (gS _)))))))))))))))))))
def fM:Block:=⟨Nd,0,dT,dT,dT,ES,ES,iB,iB,false⟩
def Rk:List Value:=Ow++([.int .u64 0]++(tL++(tL++(tL++(Yl++(Yl++(Cf++(Cf++([.bool false])))))))))
theorem Oz:Rk.map AV.v=aU fM:=by simp only[Rk,List.map_append,List.map_cons,List.map_nil,jG,jH,Rh,Ai];rfl
def VI:List Bool:=YR++([true]++(Hq++(Hq++(Hq++(YP++(YP++(Th++(Th++([false])))))))))
theorem Ti (a b:Block):iI VI (aU a) (aU b):=(fP (HY _ _) (fP (show iI [true] [_] [_] from ⟨rfl,trivial⟩) (fP (mU _ _) (fP (mU _ _) (fP (mU _ _) (fP (Lq _ _) (fP (Lq _ _) (fP (sH _ _) (fP (sH _ _) (show iI [false] [_] [_] from trivial))))))))))
theorem Yo (a b:Block):aU a=aU b↔a=b:=by
 refine⟨fun h=>?_,fun h=>by rw[h]⟩
 cases a;cases b
 simp only[aU] at h;obtain⟨h0,h⟩:=List.append_inj h (by simp)
 obtain⟨h1,h⟩:=List.append_inj h (by simp)
 obtain⟨h2,h⟩:=List.append_inj h (by simp)
 obtain⟨h3,h⟩:=List.append_inj h (by simp)
 obtain⟨h4,h⟩:=List.append_inj h (by simp)
 obtain⟨h5,h⟩:=List.append_inj h (by simp)
 obtain⟨h6,h⟩:=List.append_inj h (by simp)
 obtain⟨h7,h⟩:=List.append_inj h (by simp)
 obtain⟨h8,h⟩:=List.append_inj h (by simp)
 have e0:=(OQ _ _).1 h0
 have e1:=(Hp _ _).1 h1
 have e2:=(pJ _ _).1 h2
 have e3:=(pJ _ _).1 h3
 have e4:=(pJ _ _).1 h4
 have e5:=(Rf _ _).1 h5
 have e6:=(Rf _ _).1 h6
 have e7:=(mF _ _).1 h7
 have e8:=(mF _ _).1 h8
 have e9:=(ER _ _).1 h
 subst e0 e1 e2 e3 e4 e5 e6 e7 e8 e9;rfl
theorem IA (s:Block):rd (aU s) 0 238=aU s:=iW (bN _)
theorem IB (s x:Block):dP (aU s) 0 (aU x) 238=aU x:=eJ (bN _)
structure Node where
 block:Block
 up:Int
 status:Int
def eX (s:Node):List AV:=aU s.block++(oZ s.up++(oZ s.status))
@[simp] theorem uJ (s:Node):(eX s).length=240:=by simp[eX]
theorem Kt (s:Node):∀x∈eX s,Flat x:=by
 intro x hx;simp only[eX,List.mem_append,List.mem_singleton] at hx;rcases hx with hx|hx|hx
 ·(exact Aw _ _ hx)
 ·(exact lR _ _ hx)
 ·(exact lR _ _ hx)
theorem BT (s:Node):rd (eX s) 0 238=aU s.block:=gF (bN _)
theorem BU (s:Node) (x:Block):dP (eX s) 0 (aU x) 238=eX { s with block:=x }:=cA (bN _)
theorem Ht (s:Node):rd (eX s) 0 66=fD s.block.dV:=(rQ (by rw[bN];decide)).trans (Fh _)
theorem Cw (s:Node):rd (eX s) 0 33=bV s.block.dV.pj:=(rQ (by rw[bN];decide)).trans (zD _)
theorem uZ (s:Node):(eX s)[0]? = some (.v (.int .u64 s.block.dV.pj.aI)):=(eK (by rw[bN];decide)).trans (rA _)
theorem Cx (s:Node):rd (eX s) 33 33=bV s.block.dV.pf:=(rQ (by rw[bN];decide)).trans (zF _)
theorem vA (s:Node):(eX s)[33]? = some (.v (.int .u64 s.block.dV.pf.aI)):=(eK (by rw[bN];decide)).trans (rC _)
theorem Jn (s:Node):(eX s)[66]? = some (.v (.int .u64 s.block.slot)):=(eK (by rw[bN];decide)).trans (Hr _)
theorem Lt (s:Node):rd (eX s) 67 32=aY s.block.root:=(rQ (by rw[bN];decide)).trans (Kd _)
theorem Fx (s:Node):rd (eX s) 131 32=aY s.block.jF:=(rQ (by rw[bN];decide)).trans (Cv _)
theorem Lu (s:Node):rd (eX s) 171 33=bV s.block.dS:=(rQ (by rw[bN];decide)).trans (Ke _)
theorem Pa (s:Node):rd (eX s) 204 33=bV s.block.fin:=(rQ (by rw[bN];decide)).trans (Ox _)
theorem OR (s:Node):(eX s)[238]? = some (.v (.int .i64 s.up)):=(aK rfl (bN _)).trans (rfl)
theorem VJ (s:Node) (x:Int):dP (eX s) 238 ([.v (.int .i64 x)]) 239=eX { s with up:=x }:=(aC rfl rfl (bN _)).trans (bJ (cA (bC _)))
theorem Fb (s:Node):(eX s)[239]? = some (.v (.int .i64 s.status)):=(aK rfl (bN _)).trans ((aK rfl (bC _)).trans (rfl))
theorem Gp (s:Node) (x:Int):dP (eX s) 239 ([.v (.int .i64 x)]) 240=eX { s with status:=x }:=(aC rfl rfl (bN _)).trans (bJ ((aC rfl rfl (bC _)).trans (bJ (eJ (bC _)))))
def YS:Node:=⟨fM,0,0⟩
def Yp:List Value:=Rk++([.int .i64 0]++([.int .i64 0]))
theorem IC:Yp.map AV.v=eX YS:=by simp only[Yp,List.map_append,List.map_cons,List.map_nil,jG,jH,Oz];rfl
def aEL:List Bool:=VI++([true]++([true]))
theorem Vt (a b:Node):iI aEL (eX a) (eX b):=(fP (Ti _ _) (fP (show iI [true] [_] [_] from ⟨rfl,trivial⟩) (show iI [true] [_] [_] from ⟨rfl,trivial⟩)))
theorem C7 (a b:Node):eX a=eX b↔a=b:=by
 refine⟨fun h=>?_,fun h=>by rw[h]⟩
 cases a;cases b
 simp only[eX] at h;obtain⟨h0,h⟩:=List.append_inj h (by simp)
 obtain⟨h1,h⟩:=List.append_inj h (by simp)
 have e0:=(Yo _ _).1 h0
 have e1:=(wB _ _).1 h1
 have e2:=(wB _ _).1 h
 subst e0 e1 e2;rfl
theorem OS (s:Node):rd (eX s) 0 240=eX s:=iW (uJ _)
theorem OT (s x:Node):dP (eX s) 0 (eX x) 240=eX x:=eJ (uJ _)
def cF (l:List Node):List AV:=l.flatMap eX
@[simp] theorem Kv (l:List (Node)):(cF l).length=l.length * 240:=by
 induction l with
 | nil=>rfl
 | cons x l ih=>simp only[cF,List.flatMap_cons,List.length_append,uJ,List.length_cons] at *;omega
theorem kN (l:List (Node)):∀x∈cF l,Flat x:=by
 intro x hx;obtain⟨y,_,hy⟩:=List.mem_flatMap.1 hx
 exact Kt y x hy
theorem C8 (l:List (Node)) (i:Nat) (h:i<l.length):rd (cF l) (i * 240) 240=eX l[i]:=Lo eX 240 (uJ) l i h
structure Tree where
 nodes:List Node
def cD (s:Tree):List AV:=[.sl s.nodes.length (cF s.nodes)]
@[simp] theorem Rl (s:Tree):(cD s).length=1:=by simp[cD]
theorem VK (s:Tree):∀x∈cD s,Flat x:=by
 intro x hx;simp only[cD,List.mem_append,List.mem_singleton] at hx;(subst hx;exact .sl _ _ (kN _))
theorem Yq (s:Tree):(cD s)[0]? = some (.sl s.nodes.length (cF s.nodes)):=rfl
theorem OU (s:Tree):rd (cD s) 0 1=cD s:=iW (Rl _)
theorem OV (s x:Tree):dP (cD s) 0 (cD x) 1=cD x:=eJ (Rl _)
end Go.Ab
end
section
namespace Go.Ab
open Classical
def xG (e sz by_:Nat) (v:Option (Nat × List AV)):Option (Option (Nat × Nat) × mV) :=
 match v with
 | some (m,news)=>if news.length=m * sz∧m * by_≤140737488355328∧m≤maxLen then some (none,.row e sz m news) else none
 | none=>none
def wX (e sz by_:Nat) (o:Option mV) (s g:Nat) (v:Option (Nat × List AV)):Option (Option (Nat × Nat) × mV) :=
 match o,v with
 | some (.row e' sT n cs),some (m,news)=>if news.length=m * sz∧e'=e∧sT=sz∧(n+m) * by_≤140737488355328∧n+m≤maxLen then some (some (s,g),.row e sz (n+m) (cs++news)) else none
 | _,_=>none
def acE (e sz by_ n:Nat) (cs:List AV) (v:Option (Nat × List AV)):Option (Option (Nat × Nat) × mV) :=
 match v with
 | some (m,news)=>if news.length=m * sz∧cs.length=n * sz∧(n=0∨0<m)∧(n+m) * by_≤140737488355328∧n+m≤maxLen then some (none,.row e sz (n+m) (cs++news)) else none
 | none=>none
section
variable {P:Program} {st:St} {T e sz by_:Nat}
theorem tP (hs:dQ P T=some (e,sz,by_)) (x:AV):dE P st T (.v (.slice none 0 0)) x=xG e sz by_ (aT st x):=by
 simp only[dE,hs,xG];cases aT st x with
 | none=>rfl
 | some v =>
   obtain⟨m,news⟩:=v
   by_cases h1:news.length=m * sz<;>simp[h1]
theorem rY (hs:dQ P T=some (e,sz,by_)) (s g:Nat) (x:AV):dE P st T (.own s g) x=wX e sz by_ (st.heap s g) s g (aT st x):=by
 simp only[dE,hs,wX];cases aT st x with
 | none=>cases st.heap s g with
   | none=>rfl
   | some o=>cases o<;>rfl
 | some v =>
   obtain⟨m,news⟩:=v
   cases st.heap s g with
   | none=>by_cases h1:news.length=m * sz<;>simp[h1]
   | some o =>
     cases o with
     | row a b n cs=>by_cases h1:news.length=m * sz<;>simp[h1]
     | _=>by_cases h1:news.length=m * sz<;>simp[h1]
theorem aGf (hs:dQ P T=some (e,sz,by_)) (n:Nat) (cs:List AV) (x:AV):dE P st T (.cl n cs) x=acE e sz by_ n cs (aT st x):=by
 simp only[dE,hs,acE];cases aT st x with
 | none=>rfl
 | some v =>
   obtain⟨m,news⟩:=v
   by_cases h1:news.length=m * sz<;>simp[h1]
end
def OW (e sz:Nat) (o:Option mV) (s g:Nat) (i:Int):Option AV :=
 match o with
 | some (.row e' sT n _)=>if 0≤i∧i<n∧e'=e∧sT=sz then some (.ptr s g (i.toNat * sz)) else none
 | _=>none
theorem Pb {P:Program} {st:St} {T e sz by_:Nat} (hn:jE P T=none) (hs:dQ P T=some (e,sz,by_)) (s g:Nat) (k:IntKind) (i:Int):bD P st T (.own s g) (.v (.int k i))=OW e sz (st.heap s g) s g i:=by
 simp only[bD,hn,hs,OW];cases st.heap s g with
 | none=>rfl
 | some e=>cases e<;>rfl
theorem aCF (e sz n:Nat) (cs:List AV) (s g:Nat) (i:Int) (h0:0≤i) (h1:i<n):OW e sz (some (.row e sz n cs)) s g i=some (.ptr s g (i.toNat * sz)):=by
 simp[OW,h0,h1]
theorem Yr [Ext] {P:Program} {S e sz by_:Nat} {z:List Value} (hs:dQ P S=some (e,sz,by_)) (hz:eF P e=some z) {call:Nat→List AV→Option AV} {ops:Array Oper} {st:St} {T:Nat} {pos:String} {eU:Array Edge} (d:Nat) :
 cC P call ops ⟨some d,.buildSlice S 0 #[],T,pos,eU,none⟩ st=some ((st.new d (.row e sz 0 [])).put (some d) (.own d (st.aQ d))):=by
 rw[kH,hs];simp[cH,hz,gJ]
def elV {α:Type} (x:AV) (k:Value→Option α) (fb:Option α):Option α :=
 match x with
 | .v y=>if y.oneCell'=true then k y else fb
 | _=>fb
theorem aCH {α:Type} (kk:IntKind) (n:Int) (k:Value→Option α) (fb:Option α):elV (.v (.int kk n)) k fb=k (.int kk n):=rfl
theorem Y0 {α:Type} (n:Bool) (k:Value→Option α) (fb:Option α):elV (.v (.bool n)) k fb=k (.bool n):=rfl
@[congr] theorem aIv {α:Type} {x y:AV} {k:Value→Option α} {fb:Option α} (h:x=y):elV x k fb=elV y k fb:=by rw[h]
theorem ID [Ext] {P:Program} {S e by_:Nat} {z:Value} (hs:dQ P S=some (e,1,by_)) (hz:eF P e=some [z]) {call:Nat→List AV→Option AV} {ops:Array Oper} {st:St} {T:Nat} {pos:String} {eU:Array Edge} (d:Nat) (x:Operand) :
 cC P call ops ⟨some d,.buildSlice S 1 #[(0,x)],T,pos,eU,none⟩ st=elV (st.ev x) (fun y=>some ((st.new d (.row e 1 1 [.v y])).put (some d) (.own d (st.aQ d)))) (cC P call ops ⟨some d,.buildSlice S 1 #[(0,x)],T,pos,eU,none⟩ st):=by
 unfold elV;split
 ·rename_i y h;split
  ·rename_i hy;rw[kH,hs];simp[hz,cH,h,AV.jI,hy,gJ,AV.cells]
  ·rfl
 ·rfl
def H5 {α:Type} (z:Nat) (x:AV) (k:List AV→Option α) (fb:Option α):Option α :=
 match x with
 | .agg cs=>if cs.length=z then k cs else fb
 | _=>fb
theorem aCI {α:Type} (z:Nat) (cs:List AV) (k:List AV→Option α) (fb:Option α) (h:cs.length=z):H5 z (.agg cs) k fb=k cs:=if_pos h
@[congr] theorem aIw {α:Type} {z:Nat} {x y:AV} {k:List AV→Option α} {fb:Option α} (h:x=y):H5 z x k fb=H5 z y k fb:=by rw[h]
theorem Er [Ext] {P:Program} {S e sz by_:Nat} {z:List Value} (hs:dQ P S=some (e,sz,by_)) (hz:eF P e=some z) (hl:z.length=sz) (hm:sz≤2 ^ 24) {call:Nat→List AV→Option AV} {ops:Array Oper} {st:St} {T:Nat} {pos:String} {eU:Array Edge} (d:Nat) (x:Operand) :
 cC P call ops ⟨some d,.buildSlice S 1 #[(0,x)],T,pos,eU,none⟩ st=H5 sz (st.ev x) (fun cs=>some ((st.new d (.row e sz 1 cs)).put (some d) (.own d (st.aQ d)))) (cC P call ops ⟨some d,.buildSlice S 1 #[(0,x)],T,pos,eU,none⟩ st):=by
 unfold H5;split
 ·rename_i cs h;split
  ·rename_i hc;have h2:((List.range 1).flatMap fun _=>z.map AV.v)=z.map AV.v:=by simp[List.range,List.range.loop]
   have hzl:(z.map AV.v).length=sz:=by simpa using hl
   rw[kH,hs];simp only[hz,cH,List.toList_toArray,List.all_cons,List.all_nil,h,AV.jI,Bool.and_self,List.map_cons,List.map_nil,gJ,AV.cells,hc,Nat.zero_mul,Nat.zero_add,List.take_zero,List.nil_append];rw[h2,if_pos (by simpa using hm),if_pos (by simp[hzl])]
   rw[List.drop_of_length_le (by rw[hzl];exact Nat.le_refl _),List.append_nil]
  ·rfl
 ·rfl
theorem Mw {e sz by_ s g n:Nat} {cs:List AV} (hl:cs.length=n * sz) (hb:(n:Int) * by_≤140737488355328) (hm:(n:Int)≤maxLen):wX e sz by_ (some (.row e sz 0 [])) s g (some (n,cs))=some (some (s,g),.row e sz n cs):=by
 simp only[wX];simp only[Nat.zero_add,true_and,List.nil_append];have nA:n * by_≤140737488355328:=by
  have:((n * by_:Nat):Int)≤140737488355328:=by rw[Int.natCast_mul];exact hb
  omega
 rw[if_pos ⟨hl,nA,by omega⟩]
end Go.Ab
end
section
namespace Go.Ab
open Classical
variable [Ext]
@[congr] theorem aIx {P:Program} {bi:Bool} {c:Code} {s t:St} (h:s=t):vU P bi c s=vU P bi c t:=by rw[h]
theorem C9 {P:Program} {bi:Bool} (c:Operand) (a b:Code) (st:St):vU P bi (.cond c a b) st=onB (st.ev c) fun t=>if t=true then vU P bi a st else vU P bi b st:=by
 cases h:st.ev c with
 | v x =>
   cases x with
   | bool t=>exact OD P c a b st h
   | _ =>
     apply Option.ext
     intro r;rw[gG];constructor
     ·rintro⟨n,m,h'⟩
      cases m with
      | zero=>simp[tT] at h'
      | succ m=>simp[tT,h] at h'
     ·intro h';simp[onB] at h'
 | _ =>
   apply Option.ext
   intro r;rw[gG];constructor
   ·rintro⟨n,m,h'⟩
    cases m with
    | zero=>simp[tT] at h'
    | succ m=>simp[tT,h] at h'
   ·intro h';simp[onB] at h'
section
variable {P:Program} {call:Nat→List AV→Option AV} {inl:Nat→List AV→St→Option (AV × St)} {ops:Array Oper} {st:St}
theorem VL:lT P true call inl ops [] st=some st:=rfl
theorem OX (o:Oper) (l:List Oper):lT P true call inl ops (o :: l) st=cH (gL P true call inl ops o st) (lT P true call inl ops l):=rfl
@[congr] theorem aEM {o:Oper} {s t:St} (h:s=t):gL P true call inl ops o s=gL P true call inl ops o t:=by rw[h]
theorem Y1 {o:Oper} (h:Ew o=none):gL P true call inl ops o st=cC P call ops o st:=by
 unfold gL;rw[if_pos rfl,h]
theorem D0 {d:Option Nat} {g:Nat} {args:Array Operand} {sQ:Array Nat} {T:Nat} {pos:String} {eU:Array Edge} (h:Ext.inl g d=true) :
 gL P true call inl ops ⟨d,.call ⟨.value (.func g),args,sQ⟩,T,pos,eU,none⟩ st=cH (inl g (args.toList.map st.ev) st) fun r=>some ((st.back r.2).put d r.1):=by
 have e:Ew ⟨d,.call ⟨.value (.func g),args,sQ⟩,T,pos,eU,none⟩=some (g,args.toList):=by
  unfold Ew;simp only
  rw[if_pos h]
 unfold gL;rw[if_pos rfl,e];simp only[gv,if_true];cases inl g (args.toList.map st.ev) st<;>rfl
end
theorem fC (st s:St):(st.back s).env=st.env:=rfl
theorem dK (st s:St):(st.back s).heap=s.heap:=rfl
theorem bU (st s:St):(st.back s).aQ=s.aQ:=rfl
theorem Ws {P:Program} {fn:Func} {st:St} {e:Ex} {r:ResultVar} {x:AV} (he:e=.ret∨e=.normal) (hr:fn.results.toList=[r]) (h1:lB P st r=some x):aF6 P fn (e,st)=some (x,st):=by
 have h:zX P fn st=some x:=by
  unfold zX;rw[hr];exact h1
 rcases he with rfl|rfl<;>simp only[aF6,h,Option.map_some]
theorem VM {P:Program} {bi:Bool} {b:Code} (Inv:Nat→St→Prop) (Q:Ex→St→Prop)
 (step:∀n st,Inv n st→∃e st',vU P bi b st=some (e,st')∧((e=.normal∧∃m,m<n∧Inv m st')∨(e≠.normal∧Q e st'))):∀n st,Inv n st→∃e st',vU P bi (.loop b) st=some (e,st')∧e≠.normal∧Q e st':=by
 intro n;induction n using Nat.strongRecOn with
 | _ n ih =>
   intro st h;obtain⟨e,s1,h1,h2⟩:=step n st h
   rw[OC,h1];rcases h2 with ⟨rfl,m,hm,hi⟩|⟨gR,hq⟩
   ·exact ih m hm s1 hi
   ·refine⟨e,s1, ?_,gR,hq⟩
    cases e with
    | normal=>exact absurd rfl gR
    | _=>rfl
theorem kX {P:Program} {bi:Bool} {b:Code} {st:St} {β:Type} {k:Ex × St→Option β} {R:β→Prop} (Inv:Nat→St→Prop) (Q:Ex→St→Prop) (n:Nat)
 (step:∀n st,Inv n st→∃e st',vU P bi b st=some (e,st')∧((e=.normal∧∃m,m<n∧Inv m st')∨(e≠.normal∧Q e st')))
 (start:Inv n st) (rest:∀e st',Q e st'→∃r,k (e,st')=some r∧R r):∃r,cH (vU P bi (.loop b) st) k=some r∧R r:=by
 obtain⟨e,s1,h1,h2,h3⟩:=VM Inv Q step n st start
 rw[h1];exact rest e s1 h3
theorem aGg {P:Program} {bi:Bool} {b:Code} {st st':St} {n:Nat} {Inv:Nat→St→Prop} {Q:Ex→St→Prop} (h:vU P bi b st=some (.normal,st')) (m:Nat) (hm:m<n) (hi:Inv m st') :
 ∃e st',vU P bi b st=some (e,st')∧((e=.normal∧∃m,m<n∧Inv m st')∨(e≠.normal∧Q e st')):=⟨_,_,h,.inl ⟨rfl,m,hm,hi⟩⟩
theorem aCJ {P:Program} {bi:Bool} {b:Code} {st st':St} {e:Ex} {n:Nat} {Inv:Nat→St→Prop} {Q:Ex→St→Prop} (h:vU P bi b st=some (e,st')) (he:e≠.normal) (hq:Q e st') :
 ∃e st',vU P bi b st=some (e,st')∧((e=.normal∧∃m,m<n∧Inv m st')∨(e≠.normal∧Q e st')):=⟨_,_,h,.inr ⟨he,hq⟩⟩
theorem OY {P:Program} {id:Nat} {ops:Array Oper} {d:Bool} {st:St} {l:List (Nat × Nat)} (h:Ext.dyn id ops.size (rG ops)=l) :
 vU P true (.region id ops d) st=cH (lT P true (aB P) (Cm P) ops ops.toList st) fun s=>if pP ops s l then some (.normal,s) else none:=by
 rw[Yh];congr 1
 funext s
 rw[h];by_cases hf:pP ops s l
 ·rw[if_pos hf,if_neg];rintro⟨_,hn⟩
  exact hn hf
 ·rw[if_neg hf,if_pos ⟨rfl,hf⟩]
theorem D1 (ops:Array Oper) (s:St):pP ops s []=True:=rfl
theorem VN (ops:Array Oper) (s:St) (p:Nat × Nat) (l:List (Nat × Nat)):pP ops s (p :: l)=(Vd ops s p∧pP ops s l):=rfl
def OZ (s:St) (x y:Option (List Nat)):Prop:=match x,y with|some aS,some bs=>Km s aS bs|_,_=>False
theorem D2 (ops:Array Oper) (s:St) (i j:Nat):Vd ops s (i,j)=OZ s ((ops[i]?).bind gQ) ((ops[j]?).bind gQ):=rfl
theorem Y2 (s:St) (a b:Nat):OZ s (some [a]) (some [b])=eY (s.env a) (s.env b):=by simp[OZ,Km]
theorem Y3 (s:St) (a a' b:Nat):OZ s (some [a,a']) (some [b])=(eY (s.env a) (s.env b)∧eY (s.env a') (s.env b)):=by simp[OZ,Km]
@[congr] theorem Y4 {x y x' y':AV} (h:x=x') (h':y=y'):eY x y=eY x' y':=by rw[h,h']
theorem PA (s g o s' g' o':Nat):eY (.ptr s g o) (.ptr s' g' o')=((s,g)≠(s',g')):=rfl
theorem PB (s g o s' g':Nat):eY (.ptr s g o) (.own s' g')=((s,g)≠(s',g')):=rfl
theorem PC (s g s' g' o':Nat):eY (.own s g) (.ptr s' g' o')=((s,g)≠(s',g')):=rfl
theorem PD (x:Value) (s g o:Nat):eY (.v x) (.ptr s g o)=True:=rfl
theorem PE (x:Value) (s g o:Nat):eY (.ptr s g o) (.v x)=True:=rfl
theorem PF (s g n:Nat) (cs:List AV):eY (.own s g) (.sl n cs)=True:=rfl
theorem PG (s g n:Nat) (cs:List AV):eY (.sl n cs) (.own s g)=True:=rfl
theorem PH (s g o n:Nat) (cs:List AV):eY (.sl n cs) (.ptr s g o)=True:=rfl
theorem PI (s g o n:Nat) (cs:List AV):eY (.ptr s g o) (.sl n cs)=True:=rfl
theorem PJ (n m:Nat) (cs ds:List AV):eY (.sl n cs) (.sl m ds)=True:=rfl
theorem PK (s g:Nat) (x:Value):eY (.own s g) (.v x)=True:=rfl
theorem PL (s g:Nat) (x:Value):eY (.v x) (.own s g)=True:=rfl
theorem PM (x:Value) (n:Nat) (cs:List AV):eY (.v x) (.sl n cs)=True:=rfl
theorem PN (x:Value) (n:Nat) (cs:List AV):eY (.sl n cs) (.v x)=True:=rfl
def Y5 (x y:AV):Option AV :=
 match x,y with
 | .v (.int k a),.v (.int _ b)=>some (.v (.int k (if b<a then b else a)))
 | _,_=>none
def Y6 (x y:AV):Option AV :=
 match x,y with
 | .v (.int k a),.v (.int _ b)=>some (.v (.int k (if b > a then b else a)))
 | _,_=>none
theorem Y7 (k k':IntKind) (a b:Int):Y5 (.v (.int k a)) (.v (.int k' b))=some (.v (.int k (if b<a then b else a))):=rfl
theorem Y8 (k k':IntKind) (a b:Int):Y6 (.v (.int k a)) (.v (.int k' b))=some (.v (.int k (if a<b then b else a))):=rfl
@[congr] theorem aGh {x y x' y':AV} (h:x=x') (h':y=y'):Y5 x y=Y5 x' y':=by rw[h,h']
@[congr] theorem aGi {x y x' y':AV} (h:x=x') (h':y=y'):Y6 x y=Y6 x' y':=by rw[h,h']
theorem aGj {P:Program} {call:Nat→List AV→Option AV} {ops:Array Oper} {st:St} {d:Option Nat} {T:Nat} {pos:String} {eU:Array Edge} (x y:Operand) (sQ:Array Nat) :
 cC P call ops ⟨d,.call ⟨.builtin .min,#[x,y],sQ⟩,T,pos,eU,none⟩ st=cH (Y5 (st.ev x) (st.ev y)) fun v=>some (st.put d v):=by
 rw[eD];simp only[dN,iU,Y5];cases st.ev x with
 | v a=>cases a with
   | int k a=>cases st.ev y with
     | v b=>cases b<;>rfl
     | _=>rfl
   | _=>rfl
 | _=>rfl
theorem aGk {P:Program} {call:Nat→List AV→Option AV} {ops:Array Oper} {st:St} {d:Option Nat} {T:Nat} {pos:String} {eU:Array Edge} (x y:Operand) (sQ:Array Nat) :
 cC P call ops ⟨d,.call ⟨.builtin .max,#[x,y],sQ⟩,T,pos,eU,none⟩ st=cH (Y6 (st.ev x) (st.ev y)) fun v=>some (st.put d v):=by
 rw[eD];simp only[dN,iU,Y6];cases st.ev x with
 | v a=>cases a with
   | int k a=>cases st.ev y with
     | v b=>cases b<;>rfl
     | _=>rfl
   | _=>rfl
 | _=>rfl
noncomputable def mvE (call:Nat→List AV→Option AV) (g:Nat) (rest:List AV) (s k d c:Nat) (o:Option mV):Option qW :=
 match o with
 | some (.row e sz n cs) =>
   if (∀c∈cs,Flat c)∧∀x∈rest,Flat x then
    match call g (.uniq e sz n cs :: rest) with
    | some (.uniq e' sT n' Dg)=>some { dst:=some d,val:=.own d c,dP:=some (s,k,none),new:=some (d,[.row e' sT n' Dg])}
    | some (.eE [.uniq e' sT n' Dg])=>some { dst:=some d,val:=.eE [],dP:=some (s,k,some (.row e' sT n' Dg))}
    | _=>none
   else none
 | _=>none
theorem VO (call:Nat→List AV→Option AV) (g s k d:Nat) (rest:List AV) (st:St):lA call g (.own s k :: rest) st (some d)=mvE call g rest s k d (st.aQ d) (st.heap s k):=by
 unfold lA mvE;simp only
 cases st.heap s k with
 | none=>rfl
 | some o =>
   cases o with
   | row e sz n cs =>
     simp only
     by_cases hc:(∀c∈cs,Flat c)∧∀x∈rest,Flat x
     ·simp only[if_pos hc];cases call g (.uniq e sz n cs :: rest) with
      | none=>rfl
      | some r =>
        cases r with
        | eE vs =>
          cases vs with
          | nil=>rfl
          | cons x xs =>
            cases x with
            | uniq _ _ _ _=>cases xs<;>rfl
            | _=>rfl
        | _=>rfl
     ·simp only[if_neg hc]
   | _=>rfl
theorem M6 {call:Nat→List AV→Option AV} {g:Nat} {rest:List AV} {s k d c e sz n e' sT n':Nat} {cs Dg:List AV} (hf:∀c∈cs,Flat c) (hr:∀x∈rest,Flat x) (hc:call g (.uniq e sz n cs :: rest)=some (.uniq e' sT n' Dg)) :
 mvE call g rest s k d c (some (.row e sz n cs))=some { dst:=some d,val:=.own d c,dP:=some (s,k,none),new:=some (d,[.row e' sT n' Dg])}:=by
 unfold mvE;simp only
 rw[if_pos ⟨hf,hr⟩,hc]
@[congr] theorem aIy {call:Nat→List AV→Option AV} {g:Nat} {rest:List AV} {s k d c c':Nat} {o o':Option mV} (h:c=c') (h':o=o'):mvE call g rest s k d c o=mvE call g rest s k d c' o':=by rw[h,h']
theorem TC {call:Nat→List AV→Option AV} {g d:Nat} {rest:List AV} {st:St} {e sz n:Nat} {cs:List AV} (hr:∀x∈rest,Flat x) (hc:call g (.v (.slice none 0 0) :: rest)=some (.uniq e sz n cs)) :
 lA call g (.v (.slice none 0 0) :: rest) st (some d)=some { dst:=some d,val:=.own d (st.aQ d),new:=some (d,[.row e sz n cs])}:=by
 have hf:∀x∈AV.v (.slice none 0 0) :: rest,Flat x:=by
  intro x hx;rcases List.mem_cons.1 hx with rfl|hx
  ·exact .v _
  ·exact hr x hx
 have hnf:¬Flat (.uniq e sz n cs):=by intro h;cases h
 unfold lA;simp only[if_pos hf];unfold aN;rw[if_pos hf,hc];simp only[cH];unfold iP;rw[if_neg hnf];rfl
theorem M5 {P:Program} {fn:Func} {st:St} {e:Ex} {r:ResultVar} {s g ee sz n:Nat} {cs:List AV} (he:e=.ret∨e=.normal) (hr:fn.results.toList=[r]) (h1:lB P st r=some (.own s g)) (h2:st.heap s g=some (.row ee sz n cs)) (hm:∀c∈cs,gE c) :
 M4 P fn (e,st)=some (.uniq ee sz n cs):=by
 have h:Im P fn st=some (.uniq ee sz n cs):=by
  unfold Im;rw[hr];simp only[h1,h2];rw[if_pos hm]
 rcases he with rfl|rfl<;>exact h
theorem lU (e sz n:Nat) (cs rest:List AV):(St.sJ e sz n cs rest).env 0=.own 0 0:=rfl
theorem nM (e sz n:Nat) (cs rest:List AV) (t:Nat):(St.sJ e sz n cs rest).env (t+1)=(rest[t]?).getD (.v undef):=rfl
theorem lV (e sz n:Nat) (cs rest:List AV):(St.sJ e sz n cs rest).heap 0 0=some (.row e sz n cs):=rfl
theorem lW (e sz n:Nat) (cs rest:List AV):(St.sJ e sz n cs rest).aQ 0=1:=rfl
theorem nN (e sz n:Nat) (cs rest:List AV) (s:Nat) (h:s≠0):(St.sJ e sz n cs rest).aQ s=0:=if_neg h
end Go.Ab
end
section
namespace Go.Ab
open Classical
variable [Ext]
theorem Nq {P:Program} {a:Code} {st:St} {β:Type} {k:Ex × St→Option β} {R:β→Prop} (Q:Ex→St→Prop) (h:∃e st',yG P a st=some (e,st')∧Q e st')
 (rest:∀e st',Q e st'→∃r,k (e,st')=some r∧R r):∃r,cH (yG P a st) k=some r∧R r:=by
 obtain⟨e,s1,h1,h2⟩:=h
 rw[h1];exact rest e s1 h2
theorem Iy {P:Program} {bi:Bool} {a:Code} {st:St} {β:Type} {k:Ex × St→Option β} {R:β→Prop} (Q:Ex→St→Prop) (h:∃e st',vU P bi a st=some (e,st')∧Q e st')
 (rest:∀e st',Q e st'→∃r,k (e,st')=some r∧R r):∃r,cH (vU P bi a st) k=some r∧R r:=by
 obtain⟨e,s1,h1,h2⟩:=h
 rw[h1];exact rest e s1 h2
theorem jB {β:Type} {x:Option β} {v:β} (h:∃r,x=some r∧r=v):x=some v:=by
 obtain⟨r,h,rfl⟩:=h;exact h
theorem PO {P:Program} {id:Nat} {ops:Array Oper} {d:Bool} {st:St} :
 vU P true (.region id ops d) st=cH (lT P true (aB P) (Cm P) ops ops.toList st) fun s=>if pP ops s (Ext.dyn id ops.size (rG ops)) then some (.normal,s) else none:=OY rfl
theorem VP (o:Oper) (l:List Oper):rG (o :: l).toArray=o.dst:=by simp[rG]
section
variable {P:Program} {call:Nat→List AV→Option AV} {inl:Nat→List AV→St→Option (AV × St)} {ops:Array Oper} {st:St} {d:Option Nat} {T:Nat} {pos:String} {eU:Array Edge} {g:Option (Nat × Bool)}
theorem aCK (x:Operand):gL P true call inl ops ⟨d,.move x,T,pos,eU,g⟩ st=cC P call ops ⟨d,.move x,T,pos,eU,g⟩ st:=rfl
theorem D3 (x:Operand):gL P true call inl ops ⟨d,.assign x,T,pos,eU,g⟩ st=cC P call ops ⟨d,.assign x,T,pos,eU,g⟩ st:=rfl
theorem aCL (x y z:Operand):gL P true call inl ops ⟨d,.pick x y z,T,pos,eU,g⟩ st=cC P call ops ⟨d,.pick x y z,T,pos,eU,g⟩ st:=rfl
theorem Y9 (S:Nat):gL P true call inl ops ⟨d,.alloc S,T,pos,eU,g⟩ st=cC P call ops ⟨d,.alloc S,T,pos,eU,g⟩ st:=rfl
theorem aGl (S:Nat) (x:Operand):gL P true call inl ops ⟨d,.box S x,T,pos,eU,g⟩ st=cC P call ops ⟨d,.box S x,T,pos,eU,g⟩ st:=rfl
theorem Z0 (S:Nat) (x:Array (Nat × Operand)):gL P true call inl ops ⟨d,.build S x,T,pos,eU,g⟩ st=cC P call ops ⟨d,.build S x,T,pos,eU,g⟩ st:=rfl
theorem BV (S n:Nat) (x:Array (Nat × Operand)):gL P true call inl ops ⟨d,.buildSlice S n x,T,pos,eU,g⟩ st=cC P call ops ⟨d,.buildSlice S n x,T,pos,eU,g⟩ st:=rfl
theorem IE (S:Nat) (x y:Operand):gL P true call inl ops ⟨d,.makeSlice S x y,T,pos,eU,g⟩ st=cC P call ops ⟨d,.makeSlice S x y,T,pos,eU,g⟩ st:=rfl
theorem PQ (f:Fn) (x y:Array Operand):gL P true call inl ops ⟨d,.makeFunc f x y,T,pos,eU,g⟩ st=cC P call ops ⟨d,.makeFunc f x y,T,pos,eU,g⟩ st:=rfl
theorem aCM (S:Nat) (x:Operand):gL P true call inl ops ⟨d,.load S x,T,pos,eU,g⟩ st=cC P call ops ⟨d,.load S x,T,pos,eU,g⟩ st:=rfl
theorem Z1 (S:Nat) (x y:Operand):gL P true call inl ops ⟨d,.store S x y,T,pos,eU,g⟩ st=cC P call ops ⟨d,.store S x y,T,pos,eU,g⟩ st:=rfl
theorem Z2 (o:BinOp) (S S':Nat) (x y:Operand):gL P true call inl ops ⟨d,.binOp o S x y S',T,pos,eU,g⟩ st=cC P call ops ⟨d,.binOp o S x y S',T,pos,eU,g⟩ st:=rfl
theorem aCN (o:UnOp) (S:Nat) (x:Operand):gL P true call inl ops ⟨d,.unOp o S x,T,pos,eU,g⟩ st=cC P call ops ⟨d,.unOp o S x,T,pos,eU,g⟩ st:=rfl
theorem IF (S f:Nat) (x:Operand):gL P true call inl ops ⟨d,.fieldAddr S x f,T,pos,eU,g⟩ st=cC P call ops ⟨d,.fieldAddr S x f,T,pos,eU,g⟩ st:=rfl
theorem Z3 (S f:Nat) (x:Operand):gL P true call inl ops ⟨d,.field S x f,T,pos,eU,g⟩ st=cC P call ops ⟨d,.field S x f,T,pos,eU,g⟩ st:=rfl
theorem IG (S:Nat) (x y:Operand):gL P true call inl ops ⟨d,.indexAddr S x y,T,pos,eU,g⟩ st=cC P call ops ⟨d,.indexAddr S x y,T,pos,eU,g⟩ st:=rfl
theorem VQ (S S':Nat) (x:Operand):gL P true call inl ops ⟨d,.convert S S' x,T,pos,eU,g⟩ st=cC P call ops ⟨d,.convert S S' x,T,pos,eU,g⟩ st:=rfl
theorem VR (x:Operand) (i:Nat):gL P true call inl ops ⟨d,.extract x i,T,pos,eU,g⟩ st=cC P call ops ⟨d,.extract x i,T,pos,eU,g⟩ st:=rfl
theorem Z4 (S:Nat) (x:Operand) (a b c:Option Operand):gL P true call inl ops ⟨d,.slice S x a b c,T,pos,eU,g⟩ st=cC P call ops ⟨d,.slice S x a b c,T,pos,eU,g⟩ st:=rfl
theorem VS (b:Builtin) (x:Array Operand) (y:Array Nat):gL P true call inl ops ⟨d,.call ⟨.builtin b,x,y⟩,T,pos,eU,g⟩ st=cC P call ops ⟨d,.call ⟨.builtin b,x,y⟩,T,pos,eU,g⟩ st:=rfl
theorem aGm (t:Nat) (x:Array Operand) (y:Array Nat):gL P true call inl ops ⟨d,.call ⟨.value (.tmp t),x,y⟩,T,pos,eU,g⟩ st=cC P call ops ⟨d,.call ⟨.value (.tmp t),x,y⟩,T,pos,eU,g⟩ st:=rfl
theorem aCO (f:Nat) (x:Array Operand) (y:Array Nat) (h:Ext.inl f d=false):gL P true call inl ops ⟨d,.call ⟨.value (.func f),x,y⟩,T,pos,eU,g⟩ st=cC P call ops ⟨d,.call ⟨.value (.func f),x,y⟩,T,pos,eU,g⟩ st:=Y1 (by unfold Ew;simp[h])
theorem TN (f:Nat) (x:Array Operand) (y:Array Nat) (h:Ext.inl f d=true):gL P true call inl ops ⟨d,.call ⟨.value (.func f),x,y⟩,T,pos,eU,none⟩ st=cH (inl f (x.toList.map st.ev) st) fun r=>some ((st.back r.2).put d r.1):=D0 h
theorem aCP (S a:Nat):gQ ⟨d,.load S (.tmp a),T,pos,eU,none⟩=some [a]:=rfl
theorem Z5 (S a:Nat) (x:Operand):gQ ⟨d,.store S (.tmp a) x,T,pos,eU,none⟩=some [a]:=rfl
theorem Z6 (S a:Nat) (x:Operand):gQ ⟨d,.indexAddr S (.tmp a) x,T,pos,eU,none⟩=some [a]:=rfl
theorem Z7 (S a:Nat) (x y z:Option Operand):gQ ⟨d,.slice S (.tmp a) x y z,T,pos,eU,none⟩=some [a]:=rfl
theorem aGn (a:Nat) (y:Array Nat):gQ ⟨d,.call ⟨.builtin .len,#[.tmp a],y⟩,T,pos,eU,none⟩=some [a]:=rfl
theorem D4 (a b:Nat) (y:Array Nat):gQ ⟨d,.call ⟨.builtin .append,#[.tmp a,.tmp b],y⟩,T,pos,eU,none⟩=some [a,b]:=rfl
theorem Z9 (f a:Nat) (b:Operand) (y:Array Nat) (h:Ext.mv f=true):gQ ⟨d,.call ⟨.value (.func f),#[.tmp a,b],y⟩,T,pos,eU,none⟩=some [a]:=by simp[gQ,h]
end
end Go.Ab
end
