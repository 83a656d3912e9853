/-
  Part 5 of the proof: an evaluator of programs, its soundness, and what functions of this program compute.
-/
import Derived.Test.YtmcjkemalibacaaGreatK4
set_option linter.all false
set_option maxRecDepth 20000
set_option maxHeartbeats 40000000
section
namespace Go.Ab
open Classical
variable [Ext]
def rd (cs:List AV) (o k:Nat):List AV:=(cs.drop o).take k
def onB {α:Type} (x:AV) (k:Bool→Option α):Option α :=
 match x with
 | .v (.bool b)=>k b
 | _=>none
section
variable (P:Program)
def fB (T:Nat) (cs:List AV) (o:Nat):Option AV :=
 match fQ P T with
 | some (true,k)=>if 0<k∧k≤cs.length-o then some (.agg (rd cs o k)) else none
 | some (false,_)=>cs[o]?
 | none=>none
def Gc (st:St) (T:Nat) (x:AV):Option AV :=
 match x with
 | .ip cs o=>fB P T cs o
 | .ptr s g o =>
   match st.heap s g with
   | some (.cells cs)=>fB P T cs o
   | some (.row _ _ _ cs)=>fB P T cs o
   | _=>none
 | _=>none
theorem JN (T:Nat) (cs:List AV) (o:Nat):yD P T (cs.drop o)=fB P T cs o:=by
 unfold yD fB;cases fQ P T with
 | none=>rfl
 | some bk =>
   obtain⟨b,k⟩:=bk
   cases b
   ·simp
   ·simp[rd]
theorem Pv (st:St) (T:Nat) (x:AV):cT (qS st x) (yD P T)=Gc P st T x:=by
 cases x<;>simp only[qS,cT,Gc,JN]
 split<;>rename_i h
 ·split at h
  ·rename_i h';cases h;rw[h'];exact JN P T _ _
  ·rename_i h';cases h;rw[h'];exact JN P T _ _
  ·cases h
 ·split at h
  ·cases h
  ·cases h
  ·rename_i h1 h2;split<;>first|rfl|(rename_i h';first|exact absurd h' (h1 _)|exact absurd h' (h2 _ _ _ _))
def Wn (st:St) (T:Nat) (a x:AV):Option St:=(qB P st T a x).map fun u=>st.jB u.1 u.2.1 (some u.2.2)
variable {P}
variable {call:Nat→List AV→Option AV} {ops:Array Oper} {st:St} {d:Option Nat} {T:Nat} {pos:String} {eU:Array Edge}
@[congr] theorem aJ9 {α β:Type} {x y:Option α} {f:α→Option β} (h:x=y):cT x f=cT y f:=by rw[h]
@[congr] theorem aKa {α:Type} {x y:AV} {k:Bool→Option α} (h:x=y):onB x k=onB y k:=by rw[h]
@[congr] theorem aGc {l:List Oper} {s t:St} (h:s=t):Ni P call ops l s=Ni P call ops l t:=by rw[h]
@[congr] theorem aHR {o:Oper} {s t:St} (h:s=t):cI P call ops o s=cI P call ops o t:=by rw[h]
@[congr] theorem aKb {c:Code} {s t:St} (h:s=t):zJ P c s=zJ P c t:=by rw[h]
theorem cO {α β:Type} (a:α) (f:α→Option β):cT (some a) f=f a:=rfl
theorem NM {α β:Type} (f:α→Option β):cT none f=none:=rfl
theorem aAK {α:Type} (b:Bool) (k:Bool→Option α):onB (.v (.bool b)) k=k b:=rfl
theorem I9:Ni P call ops [] st=some st:=rfl
theorem XF (o:Oper) (l:List Oper):Ni P call ops (o :: l) st=cT (cI P call ops o st) (Ni P call ops l):=rfl
theorem eE (op:Op):cI P call ops ⟨d,op,T,pos,eU,none⟩ st=(dT P call ⟨d,op,T,pos,eU,none⟩ st).map fun e=>e.apply st:=rfl
theorem aDF (x:Operand):cI P call ops ⟨d,.move x,T,pos,eU,none⟩ st=some (st.put d (st.ev x)):=rfl
theorem J0 (x:Operand):cI P call ops ⟨d,.assign x,T,pos,eU,none⟩ st=some (st.put d (st.ev x)):=rfl
theorem aDG (c a b:Operand):cI P call ops ⟨d,.pick c a b,T,pos,eU,none⟩ st=onB (st.ev c) fun t=>some (st.put d (if t=true then st.ev a else st.ev b)):=by
 rw[eE];simp only[dT,iX];cases st.ev c<;>try rfl
 rename_i x;cases x<;>rfl
theorem aAL (op:BinOp) (S:Nat) (x y:Operand) (yT:Nat):cI P call ops ⟨d,.binOp op S x y yT,T,pos,eU,none⟩ st=cT (gM P op S (st.ev x) (st.ev y)) fun v=>some (st.put d v):=by
 rw[eE];simp only[dT,iX];cases gM P op S (st.ev x) (st.ev y)<;>rfl
theorem aDH (op:UnOp) (S:Nat) (x:Operand):cI P call ops ⟨d,.unOp op S x,T,pos,eU,none⟩ st=cT (unA op (st.ev x)) fun v=>some (st.put d v):=by
 rw[eE];simp only[dT,iX];cases unA op (st.ev x)<;>rfl
def QF (P:Program) (src dst:Nat) (x:AV):Option AV :=
 match x,intKind P dst,intKind P src with
 | .v (.int _ n),some k,some _=>some (.v (.int k (k.wrap n)))
 | _,_,_=>none
theorem XG (src dst:Nat) (x:Operand):cI P call ops ⟨d,.convert src dst x,T,pos,eU,none⟩ st=cT (QF P src dst (st.ev x)) fun v=>some (st.put d v):=by
 rw[eE];simp only[dT,iX];show Option.map _ (Option.map _ (QF P src dst (st.ev x)))=_
 cases QF P src dst (st.ev x)<;>rfl
theorem aAM (S:Nat) (x:Operand) (f:Nat):cI P call ops ⟨d,.field S x f,T,pos,eU,none⟩ st=cT (Cd P S f (st.ev x)) fun v=>some (st.put d v):=by
 rw[eE];simp only[dT,iX];cases Cd P S f (st.ev x)<;>rfl
theorem XH {S f off k:Nat} {cs:List AV} (h:fieldInfo P S f=some (off,true,k)) (hl:off+k≤cs.length):Cd P S f (.agg cs)=some (.agg (rd cs off k)):=by
 simp only[Cd,h,if_pos hl];rfl
theorem XI {S f off k:Nat} {cs:List AV} (h:fieldInfo P S f=some (off,false,k)):Cd P S f (.agg cs)=cs[off]?:=by
 simp only[Cd,h]
theorem JO (S:Nat) (x:Operand) (f:Nat):cI P call ops ⟨d,.fieldAddr S x f,T,pos,eU,none⟩ st=cT (bA P S f) fun k=>cT (vK (st.ev x) k) fun v=>some (st.put d v):=by
 rw[eE];simp only[dT,iX];cases bA P S f with
 | none=>rfl
 | some k =>
   simp only[cT];cases vK (st.ev x) k<;>rfl
theorem JP (S:Nat) (x i:Operand):cI P call ops ⟨d,.indexAddr S x i,T,pos,eU,none⟩ st=cT (bH P st S (st.ev x) (st.ev i)) fun v=>some (st.put d v):=by
 rw[eE];simp only[dT,iX];cases bH P st S (st.ev x) (st.ev i)<;>rfl
theorem aDI (S:Nat) (x:Operand):cI P call ops ⟨d,.load S x,T,pos,eU,none⟩ st=cT (Gc P st S (st.ev x)) fun v=>some (st.put d v):=by
 rw[eE];simp only[dT,iX,Pv];cases Gc P st S (st.ev x)<;>rfl
def dE (x:AV) (i:Nat):Option AV :=
 match x with
 | .eG vs=>vs[i]?
 | _=>none
theorem XJ (t:Operand) (i:Nat):cI P call ops ⟨d,.extract t i,T,pos,eU,none⟩ st=cT (dE (st.ev t) i) fun v=>some (st.put d v):=by
 rw[eE];simp only[dT,iX];show Option.map _ (Option.map _ (dE (st.ev t) i))=_
 cases dE (st.ev t) i<;>rfl
theorem aAN (S:Nat) (parts:Array (Nat × Operand)):cI P call ops ⟨d,.build S parts,T,pos,eU,none⟩ st=cT (iW P st S parts.toList) fun v=>some (st.put d v):=by
 rw[eE];simp only[dT,iX];cases iW P st S parts.toList<;>rfl
theorem aAO (S:Nat) (x:Operand) (lo hi:Option Operand):cI P call ops ⟨d,.slice S x lo hi none,T,pos,eU,none⟩ st=cT (dB P st S (st.ev x) lo hi) fun v=>some (st.put d v):=by
 rw[eE];simp only[dT,iX];cases dB P st S (st.ev x) lo hi<;>rfl
theorem aAP (S d:Nat):cI P call ops ⟨some d,.alloc S,T,pos,eU,none⟩ st=cT (eI P S) fun z=>some ((st.new d (.cells (z.map .v))).put (some d) (.ptr d (st.aT d) 0)):=by
 rw[eE];simp only[dT,cT];cases eI P S with
 | none=>rfl
 | some z=>simp only[Option.map_some,lN]
theorem aHS (S d:Nat) (x:Operand):cI P call ops ⟨some d,.box S x,T,pos,eU,none⟩ st=if (st.ev x).jD=true then some ((st.new d (.cells (st.ev x).cells)).put (some d) (.ptr d (st.aT d) 0)) else none:=by
 rw[eE];simp only[dT,cT];split
 ·simp only[Option.map_some,lN]
 ·rfl
theorem aAQ (S:Nat) (x y:Operand):cI P call ops ⟨d,.store S x y,T,pos,eU,none⟩ st=cT (Wn P st S (st.ev x) (st.ev y)) fun s=>some (s.put d (.v undef)):=by
 rw[eE];simp only[dT,Wn];cases qB P st S (st.ev x) (st.ev y)<;>rfl
theorem aDJ (g:Nat) (args:Array Operand) (tQ:Array Nat) (h:Ext.mv g=false) (h2:Ext.eat g d=false):cI P call ops ⟨d,.call ⟨.value (.func g),args,tQ⟩,T,pos,eU,none⟩ st=cT (aM call g (args.toList.map st.ev) st d) fun e=>some (e.apply st):=by
 rw[eE];simp only[dT,iT,oD,h,h2,Bool.false_eq_true,if_false];cases aM call g (args.toList.map st.ev) st d<;>rfl
theorem aAR (g:Nat) (args:Array Operand) (tQ:Array Nat) (h:Ext.mv g=true):cI P call ops ⟨d,.call ⟨.value (.func g),args,tQ⟩,T,pos,eU,none⟩ st=cT (lQ call g (args.toList.map st.ev) st d) fun e=>some (e.apply st):=by
 rw[eE];simp only[dT,iT,oD,h,if_true];cases lQ call g (args.toList.map st.ev) st d<;>rfl
theorem XK (g:Nat) (args:Array Operand) (tQ:Array Nat) (h:Ext.mv g=false) (h2:Ext.eat g d=true):cI P call ops ⟨d,.call ⟨.value (.func g),args,tQ⟩,T,pos,eU,none⟩ st=cT (fG call g (args.toList.map st.ev) st d) fun e=>some (e.apply st):=by
 rw[eE];simp only[dT,iT,oD,h,h2,Bool.false_eq_true,if_false,if_true];cases fG call g (args.toList.map st.ev) st d<;>rfl
theorem aAS (t:Nat) (args:Array Operand) (tQ:Array Nat) {g:Nat} {mG:List AV} (h:st.env t=.rW g mG):cI P call ops ⟨d,.call ⟨.value (.tmp t),args,tQ⟩,T,pos,eU,none⟩ st=cT (aM call g (args.toList.map st.ev++mG) st d) fun e=>some (e.apply st):=by
 rw[eE];simp only[dT,iT,oD,St.ev,h,HA];show Option.map _ (aM call g (args.toList.map st.ev++mG) st d)=cT (aM call g (args.toList.map st.ev++mG) st d) _
 cases aM call g (args.toList.map st.ev++mG) st d<;>rfl
theorem J1 (S:Nat) (x:Operand) (lo:Option Operand) (hi mx:Operand):cI P call ops ⟨d,.slice S x lo (some hi) (some mx),T,pos,eU,none⟩ st=cT (Bb P st S (st.ev x) lo hi mx) fun v=>some (st.put d v):=by
 rw[eE];simp only[dT,iX];cases Bb P st S (st.ev x) lo hi mx<;>rfl
theorem J2 (S:Nat) (x i:Operand) (ok:Bool):cI P call ops ⟨d,.lookup S x i ok,T,pos,eU,none⟩ st=cT (Tl P st S (st.ev x) (st.ev i) ok) fun v=>some (st.put d v):=by
 rw[eE];simp only[dT,iX];cases Tl P st S (st.ev x) (st.ev i) ok<;>rfl
theorem XL (S d:Nat):cI P call ops ⟨some d,.makeMap S none,T,pos,eU,none⟩ st=some ((st.new d (.map [])).put (some d) (.mp d (st.aT d))):=by
 rw[eE];simp only[dT,cT,Option.map_some,lN]
theorem JQ (S:Nat) (m x y:Operand):cI P call ops ⟨d,.mapUpdate S m x y,T,pos,eU,none⟩ st=cT (tZ P st S (st.ev m) (st.ev x) (st.ev y)) fun u=>some ((st.jB u.1 u.2.1 (some u.2.2)).put d (.v undef)):=by
 rw[eE];simp only[dT];cases tZ P st S (st.ev m) (st.ev x) (st.ev y)<;>rfl
theorem QG (g:Nat) (mG:Array Operand):cI P call ops ⟨d,.makeFunc (.func g) #[] mG,T,pos,eU,none⟩ st=some (st.put d (.rW g (mG.toList.map st.ev))):=by
 rw[eE];simp only[dT,iX,if_true,Option.map_some];rfl
theorem kZ (S n d:Nat) (parts:Array (Nat × Operand)):cI P call ops ⟨some d,.buildSlice S n parts,T,pos,eU,none⟩ st=cT (dW P S) fun t=>cT (eI P t.1) fun z =>
 if (0<n∨parts=#[])∧n * t.2.1≤2 ^ 24∧(parts.toList.all fun p=>(st.ev p.2).jD)=true then
  cT (gS (fun i=>some (i * t.2.1,t.2.1)) ((List.range n).flatMap fun _=>z.map .v) (parts.toList.map fun p=>(p.1,st.ev p.2))) fun cs =>
   some ((st.new d (.row t.1 t.2.1 n cs)).put (some d) (.own d (st.aT d)))
 else none:=by
 rw[eE];simp only[dT,cT];cases dW P S with
 | none=>rfl
 | some t =>
   simp only
   cases eI P t.1 with
   | none=>rfl
   | some z =>
     simp only
     split
     ·cases gS (fun i=>some (i * t.2.1,t.2.1)) ((List.range n).flatMap fun _=>z.map .v) (parts.toList.map fun p=>(p.1,st.ev p.2)) with
      | none=>rfl
      | some cs=>simp only[Option.map_some,lN]
     ·rfl
theorem JR (S d:Nat) (l c:Operand) {n:Nat} (hl:st.ev l=.v (.int .i64 n)) (hc:st.ev c=.v (.int .i64 n)):cI P call ops ⟨some d,.makeSlice S l c,T,pos,eU,none⟩ st=cT (dW P S) fun t=>cT (eI P t.1) fun z =>
 if (n:Int) * t.2.2≤140737488355328∧(n:Int)≤maxLen then some ((st.new d (.row t.1 t.2.1 n ((List.range n).flatMap fun _=>z.map .v))).put (some d) (.own d (st.aT d))) else none:=by
 rw[eE];simp only[dT,cT,hl,hc];cases dW P S with
 | none=>rfl
 | some t =>
   simp only
   cases eI P t.1 with
   | none=>rfl
   | some z =>
     simp only[Int.toNat_natCast,Int.natCast_nonneg,true_and];split
     ·simp only[Option.map_some,lN]
     ·rfl
theorem aHT (x:Operand) (S:Nat) (tQ:Array Nat) (h:tQ=#[S]):cI P call ops ⟨d,.call ⟨.builtin .len,#[x],tQ⟩,T,pos,eU,none⟩ st=cT (dW P S) fun _=>cT (aX st (st.ev x)) fun nc=>some (st.put d (.v (.int .i64 nc.1))):=by
 subst h;rw[eE];simp only[dT,iT];cases dW P S with
 | none=>rfl
 | some t=>cases aX st (st.ev x) with
   | none=>rfl
   | some nc=>cases nc;rfl
theorem aDK (x:Operand) (S:Nat):cI P call ops ⟨d,.call ⟨.builtin .len,#[x],#[S]⟩,T,pos,eU,none⟩ st=cT (dW P S) fun _=>cT (aX st (st.ev x)) fun nc=>some (st.put d (.v (.int .i64 nc.1))):=aHT x S #[S] rfl
theorem GU (s x:Operand) (S d:Nat) (tQ:Array Nat) (h:tQ=#[S,S]) (hv:Ext.va S d=false) (hp:¬(Ext.pa S d=true∧Ha P st S (st.ev s) (st.ev x))):cI P call ops ⟨some d,.call ⟨.builtin .append,#[s,x],tQ⟩,T,pos,eU,none⟩ st=cT (dJ P st S (st.ev s) (st.ev x)) fun ur =>
 some (((match ur.1 with|some p=>st.jB p.1 p.2 none|none=>st).new d ur.2).put (some d) (.own d (st.aT d))):=by
 subst h;rw[eE];simp only[dT,iT,cT,if_true,hv,Bool.false_eq_true,if_false];rw[if_neg hp];cases dJ P st S (st.ev s) (st.ev x) with
 | none=>rfl
 | some ur =>
   obtain⟨u,r⟩:=ur
   cases u with
   | none=>simp only[Option.map_some,Option.map_none,lN]
   | some p=>simp only[Option.map_some,Si]
theorem XM (s x:Operand) (S d:Nat) (hv:Ext.va S d=false) (hp:Ext.pa S d=false):cI P call ops ⟨some d,.call ⟨.builtin .append,#[s,x],#[S,S]⟩,T,pos,eU,none⟩ st=cT (dJ P st S (st.ev s) (st.ev x)) fun ur =>
 some (((match ur.1 with|some p=>st.jB p.1 p.2 none|none=>st).new d ur.2).put (some d) (.own d (st.aT d))):=GU s x S d #[S,S] rfl hv (by rw[hp];exact fun h=>absurd h.1 (by simp))
theorem aAT (s x:Operand) (S d:Nat) (hv:Ext.va S d=false) (hp:Ext.pa S d=true) (hn:¬(st.ev s=.v (.slice none 0 0)∧(aX st (st.ev x)).map Prod.fst=some 0)):cI P call ops ⟨some d,.call ⟨.builtin .append,#[s,x],#[S,S]⟩,T,pos,eU,none⟩ st=cT (dJ P st S (st.ev s) (st.ev x)) fun ur =>
 some (((match ur.1 with|some p=>st.jB p.1 p.2 none|none=>st).new d ur.2).put (some d) (.own d (st.aT d))):=GU s x S d #[S,S] rfl hv (fun h=>hn ⟨h.2.1,h.2.2.2⟩)
theorem aAU (s x:Operand) (S d:Nat) (hv:Ext.va S d=false) (hp:Ext.pa S d=true) (hi:(dW P S).isSome=true) (h1:st.ev s=.v (.slice none 0 0)) (h2:(aX st (st.ev x)).map Prod.fst=some 0):cI P call ops ⟨some d,.call ⟨.builtin .append,#[s,x],#[S,S]⟩,T,pos,eU,none⟩ st=some (st.put (some d) (.v (.slice none 0 0))):=by
 rw[eE];simp only[dT,iT,cT,if_true,hv,Bool.false_eq_true,if_false];rw[if_pos ⟨hp,h1,hi,h2⟩];simp only[rX.apply];rfl
theorem OV (x:Operand) (S:Nat):cI P call ops ⟨d,.call ⟨.builtin .clear,#[x],#[S]⟩,T,pos,eU,none⟩ st=cT (sE P st S (st.ev x)) fun u =>
 some ((match u with|some p=>st.jB p.1 p.2.1 (some p.2.2)|none=>st).put d (.eG [])):=by
 rw[eE];simp only[dT,iT];cases sE P st S (st.ev x) with
 | none=>rfl
 | some u=>cases u<;>rfl
theorem aAV (x:Value):st.ev (.const x)=.v x:=rfl
theorem aHU (t:Nat):st.ev (.tmp t)=st.env t:=rfl
theorem aDL (t d:Nat) (x:AV):(st.put (some d) x).env t=if t=d then x else st.env t:=rfl
theorem JS (t:Nat) (x:AV):(st.put none x).env t=st.env t:=rfl
theorem aDM (t d:Nat) (e:oB):(st.new d e).env t=st.env t:=rfl
theorem aAW (t s g:Nat) (e:Option oB):(st.jB s g e).env t=st.env t:=rfl
theorem aDN (t:Nat) (d:Option Nat) (x:AV):(st.put d x).aT t=st.aT t:=by cases d<;>rfl
theorem aDO (t d:Nat) (e:oB):(st.new d e).aT t=if t=d then st.aT d+1 else st.aT t:=rfl
theorem aAX (t s g:Nat) (e:Option oB):(st.jB s g e).aT t=st.aT t:=rfl
theorem Yz (s g:Nat) (d:Option Nat) (x:AV):(st.put d x).heap s g=st.heap s g:=by cases d<;>rfl
theorem Za (s g d:Nat) (e:oB):(st.new d e).heap s g=if s=d∧g=st.aT d then some e else st.heap s g:=rfl
theorem Dt (s g s0 g0:Nat) (e:Option oB):(st.jB s0 g0 e).heap s g=if s=s0∧g=g0 then e else st.heap s g:=rfl
theorem aAY (t:Nat) (xs:List AV):(St.init xs).env t=(xs[t]?).getD (.v undef):=rfl
theorem aAZ (t:Nat) (xs:List AV):(St.init xs).aT t=0:=rfl
theorem J3 (s g:Nat) (xs:List AV):(St.init xs).heap s g=none:=rfl
theorem aA0 (x:AV):st.put none x=st:=rfl
theorem QH (d:Option Nat) (x:AV):({ dst:=d,val:=x }:rX).apply st=st.put d x:=rfl
theorem J4 (d:Option Nat) (x:AV) (n:Nat) (e:oB):({ dst:=d,val:=x,new:=some (n,[e])}:rX).apply st=(st.new n e).put d x:=lN d x n e
theorem J5 (d:Option Nat) (x:AV) (s g:Nat) (e:Option oB):({ dst:=d,val:=x,dS:=some (s,g,e)}:rX).apply st=(st.jB s g e).put d x:=rfl
theorem JT (d:Option Nat) (x:AV) (s g n:Nat) (z:Option oB) (e:oB):({ dst:=d,val:=x,dS:=some (s,g,z),new:=some (n,[e])}:rX).apply st=((st.jB s g z).new n e).put d x:=Si d x s g n z e
theorem bC {g:Nat} {args:List AV} {r:AV} (hf:∀x∈args,Flat x) (h:call g args=some r) (hr:Flat r):aM call g args st d=some { dst:=d,val:=r }:=by
 unfold aM;rw[if_pos hf,h];simp only[cT,jC,if_pos hr]
theorem jF {g:Nat} {args:List AV} {d e sz n:Nat} {cs:List AV} (hf:∀x∈args,Flat x) (h:call g args=some (.uniq e sz n cs)) :
 aM call g args st (some d)=some { dst:=some d,val:=.own d (st.aT d),new:=some (d,[.row e sz n cs])}:=by
 unfold aM;rw[if_pos hf,h];have:¬Flat (.uniq e sz n cs):=by intro h;cases h
 simp only[cT,jC,if_neg this];rfl
end
end Go.Ab
end
section
namespace Go.Ab
open Classical
abbrev cN:=Vector Int 32
abbrev qE:=Vector Int 4
def lG (x:Int):List AV:=[.v (.int .u64 x)]
def qV (x:Int):List AV:=[.v (.int .i64 x)]
def uT (x:Bool):List AV:=[.v (.bool x)]
def bF (r:cN):List AV:=r.toList.map fun x=>.v (.int .u8 x)
def gG (r:qE):List AV:=r.toList.map fun x=>.v (.int .u64 x)
@[simp] theorem bB (x:Int):(lG x).length=1:=rfl
@[simp] theorem bJ (x:Int):(qV x).length=1:=rfl
@[simp] theorem iC (x:Bool):(uT x).length=1:=rfl
@[simp] theorem aO (r:cN):(bF r).length=32:=by simp[bF]
@[simp] theorem dO (r:qE):(gG r).length=4:=by simp[gG]
theorem eD (x:Int):∀y∈lG x,Flat y:=by intro y hy;simp[lG] at hy;subst hy;exact .v _
theorem mF (x:Int):∀y∈qV x,Flat y:=by intro y hy;simp[qV] at hy;subst hy;exact .v _
theorem tG (x:Bool):∀y∈uT x,Flat y:=by intro y hy;simp[uT] at hy;subst hy;exact .v _
theorem dX (x:cN):∀y∈bF x,Flat y:=by intro y hy;obtain⟨z,_,rfl⟩:=List.mem_map.1 hy;exact .v _
theorem iQ (x:qE):∀y∈gG x,Flat y:=by intro y hy;obtain⟨z,_,rfl⟩:=List.mem_map.1 hy;exact .v _
theorem Mm {α:Type} (c:α→List AV) (z:Nat) (hz:∀a,(c a).length=z):∀(l:List α) (i:Nat) (h:i<l.length),rd (l.flatMap c) (i * z) z=c l[i]
 | [],i,h=>by simp at h
 | a :: l,0,h=>by simp[rd,List.take_append,hz,List.take_of_length_le]
 | a :: l,i+1,h=>by
   have ih:=Mm c z hz l i (by simpa using h)
   simp only[List.flatMap_cons,List.getElem_cons_succ];rw[← ih];simp only[rd];rw[List.drop_append,List.drop_of_length_le (by rw[hz,Nat.succ_mul];omega),hz,Nat.succ_mul]
   simp
theorem pZ (a b:cN):bF a=bF b↔a=b:=by
 constructor
 ·intro h;unfold bF at h;have h2:a.toList=b.toList:=by
   have:=congrArg (List.map (fun x:AV=>match x with|.v (.int _ n)=>n|_=>0)) h
   simpa [List.map_map,Function.comp_def] using this
  exact Vector.toList_inj.1 h2
 ·intro h;rw[h]
theorem Sn (a b:qE):gG a=gG b↔a=b:=by
 constructor
 ·intro h;unfold gG at h;have h2:a.toList=b.toList:=by
   have:=congrArg (List.map (fun x:AV=>match x with|.v (.int _ n)=>n|_=>0)) h
   simpa [List.map_map,Function.comp_def] using this
  exact Vector.toList_inj.1 h2
 ·intro h;rw[h]
def dS (cs:List AV) (o:Nat) (xs:List AV) (e:Nat):List AV:=cs.take o++xs++cs.drop e
section
variable {a b xs:List AV} {n o o' e e' k:Nat}
theorem bL (h:xs=b):a++xs=a++b:=by rw[h]
theorem Cr (h:xs=b):xs++a=b++a:=by rw[h]
theorem bG (h:o'=o+n) (ha:a.length=n):rd (a++b) o' k=rd b o k:=by
 subst h;subst ha;simp only[rd];rw[List.drop_append,List.drop_of_length_le (by omega),List.nil_append,show o+a.length-a.length=o by omega]
theorem gN (ha:a.length=n):rd (a++b) 0 n=a:=by
 subst ha;simp[rd]
theorem jA (ha:a.length=n):rd a 0 n=a:=by
 subst ha;simp[rd]
theorem sQ (h:o+k≤a.length):rd (a++b) o k=rd a o k:=by
 simp only[rd];rw[List.drop_append,List.take_append,show o-a.length=0 by omega,show k-(a.drop o).length=0 by simp;omega]
 simp
theorem aJ (h:o'=o+n) (ha:a.length=n):(a++b)[o']? = b[o]?:=by
 subst h;subst ha;rw[List.getElem?_append_right (by omega),show o+a.length-a.length=o by omega]
theorem eP (h:o<a.length):(a++b)[o]? = a[o]?:=List.getElem?_append_left h
theorem aC (h:o'=o+n) (h':e'=e+n) (ha:a.length=n):dS (a++b) o' xs e'=a++dS b o xs e:=by
 subst h;subst h';subst ha;simp only[dS];rw[List.take_append,List.take_of_length_le (by omega),List.drop_append,List.drop_of_length_le (by omega),show o+a.length-a.length=o by omega,show e+a.length-a.length=e by omega]
 simp
theorem cM (ha:a.length=n):dS (a++b) 0 xs n=xs++b:=by
 subst ha;simp[dS]
theorem eM (ha:a.length=n):dS a 0 xs n=xs:=by
 subst ha;simp[dS]
theorem sR (h:o≤e∧e≤a.length):dS (a++b) o xs e=dS a o xs e++b:=by
 simp only[dS];rw[List.take_append,List.drop_append,show o-a.length=0 by omega,show e-a.length=0 by omega]
 simp
end
theorem Io (a b:Int):lG a=lG b↔a=b:=by simp[lG]
theorem xG (a b:Int):qV a=qV b↔a=b:=by simp[qV]
theorem GV (a b:Bool):uT a=uT b↔a=b:=by simp[uT]
def dV:cN:=Vector.replicate 32 0
def GW:qE:=Vector.replicate 4 0
def tO:List Value:=List.replicate 32 (.int .u8 0)
def AJ:List Value:=List.replicate 4 (.int .u64 0)
theorem jM:tO.map AV.v=bF dV:=by simp[tO,bF,dV]
theorem jN:AJ.map AV.v=gG GW:=by simp[AJ,gG,GW]
def Ip:List Bool:=List.replicate 32 true
def A4:List Bool:=List.replicate 4 true
theorem fW {l m:List Bool}:∀ {xs ys xs' ys':List AV},iS l xs ys→iS m xs' ys'→iS (l++m) (xs++xs') (ys++ys'):=by
 induction l with
 | nil=>intro xs ys xs' ys' h h';cases xs<;>cases ys<;>first|exact h'|exact h.elim
 | cons b l ih =>
   intro xs ys xs' ys' h h'
   cases b
   ·cases xs with
    | nil=>exact h.elim
    | cons x xs=>cases ys with
      | nil=>unfold iS at h;split at h<;>first|exact h.elim|simp_all
      | cons y ys =>
        unfold iS at h;split at h<;>simp_all [iS]
   ·cases xs with
    | nil=>exact h.elim
    | cons x xs=>cases ys with
      | nil=>unfold iS at h;split at h<;>first|exact h.elim|simp_all
      | cons y ys =>
        unfold iS at h;split at h<;>simp_all [iS]
theorem Mn (k:IntKind):∀(a b:List Int),a.length=b.length→iS (List.replicate a.length true) (a.map fun x=>.v (.int k x)) (b.map fun x=>.v (.int k x))
 | [],[],_=>trivial
 | [],_ :: _,h=>by simp at h
 | _ :: _,[],h=>by simp at h
 | a :: l,b :: m,h=>⟨rfl,Mn k l m (by simpa using h)⟩
theorem oA (a b:cN):iS Ip (bF a) (bF b):=by
 have:=Mn .u8 a.toList b.toList (by simp)
 rw[Vector.length_toList] at this;exact this
theorem Mo (a b:qE):iS A4 (gG a) (gG b):=by
 have:=Mn .u64 a.toList b.toList (by simp)
 rw[Vector.length_toList] at this;exact this
def QI (P:Program) (T:Nat):Option (List (Nat × Nat)) :=
 match P.underlying T with
 | some (.struct fs)=>if fs.all (fun f=>(P.info? f.type).isSome) then some (fs.toList.map fun f=>(f.offset,P.cellsOf f.type)) else none
 | _=>none
def QJ (P:Program) (T:Nat):Option Nat :=
 match P.underlying T with
 | some (.array _ e)=>if (P.info? e).isSome then some (P.cellsOf e) else none
 | _=>none
theorem fD {P:Program} {T:Nat} {l:List (Nat × Nat)} (h:QI P T=some l):placeOf P T=some fun i=>l[i]?:=by
 unfold QI at h;unfold placeOf;split at h
 ·rename_i fs hu;split at h
  ·rename_i Ll;simp only[Option.some.injEq] at h;subst h;simp only[hu,Ll,if_true];congr 1
   funext i
   simp
  ·cases h
 ·cases h
theorem Ul {P:Program} {T k:Nat} (h:QJ P T=some k):placeOf P T=some fun i=>some (i * k,k):=by
 unfold QJ at h;unfold placeOf;split at h
 ·rename_i n e hu;split at h
  ·rename_i Ll;simp only[Option.some.injEq] at h;subst h;simp only[hu,Ll,if_true]
  ·cases h
 ·cases h
theorem iI {P:Program} {st:St} {T:Nat} {parts:List (Nat × Operand)} {z:List Value} {place:Nat→Option (Nat × Nat)} {c:List AV} (hz:eI P T=some z) (hc:z.map AV.v=c) (hp:placeOf P T=some place) :
 iW P st T parts=if (parts.all fun p=>(st.ev p.2).jD)=true then (gS place c (parts.map fun p=>(p.1,st.ev p.2))).map .agg else none:=by
 simp only[iW,hz,hp,hc]
theorem NA (place:Nat→Option (Nat × Nat)) (c:List AV):gS place c []=some c:=rfl
theorem FN (place:Nat→Option (Nat × Nat)) (c:List AV) (i:Nat) (x:AV) (r:List (Nat × AV)):gS place c ((i,x) :: r)=cT (place i) fun os =>
 if x.cells.length=os.2∧os.1+os.2≤c.length then gS place (dS c os.1 x.cells (os.1+os.2)) r else none:=by
 simp only[gS];cases place i<;>rfl
theorem rI {P:Program} {T:Nat} {l:List Bool} {xs ys:List AV} {p:Prop} [Decidable p] (hl:fC P 20 T=some l) (ha:dH P T=true) (hg:P.eqGuardType P.depth T=false) (hf:iS l xs ys) (hp:xs=ys↔p) :
 vD P T xs ys=some (decide p):=by
 unfold vD;rw[hl];simp only[ha,hg,hf,and_self,if_true];congr 1
 rw[Bool.eq_iff_iff];simp[hp]
def sL (P:Program) (T:Nat):Option Nat :=
 match fQ P T with
 | some (_,k)=>some k
 | none=>none
theorem J6 {P:Program} {st:St} {T s g o:Nat} {x:AV}:Wn P st T (.ptr s g o) x=cT (sL P T) fun k=>if x.cells.length=k∧x.jD=true then
 (match st.heap s g with
  | some (.cells cs)=>if o+k≤cs.length then some (st.jB s g (some (.cells (dS cs o x.cells (o+k))))) else none
  | some (.row e sz n cs)=>if o+k≤cs.length then some (st.jB s g (some (.row e sz n (dS cs o x.cells (o+k))))) else none
  | _=>none) else none:=by
 simp only[Wn,qB,sL];cases fQ P T with
 | none=>rfl
 | some bk =>
   obtain⟨b,k⟩:=bk
   simp only[cT];split
   ·split
    ·rename_i h;simp only[h];split<;>rfl
    ·rename_i h;simp only[h];split<;>rfl
    ·rename_i h1 h2;split<;>rename_i h<;>first|rfl|exact absurd h (h1 _)|exact absurd h (h2 _ _ _ _)
   ·rfl
theorem QK (s:cN):rd (bF s) 0 32=bF s:=jA (aO _)
theorem QL (s x:cN):dS (bF s) 0 (bF x) 32=bF x:=eM (aO _)
theorem QM (s:qE):rd (gG s) 0 4=gG s:=jA (dO _)
theorem QN (s x:qE):dS (gG s) 0 (gG x) 4=gG x:=eM (dO _)
theorem wrap_i64 (x:Int) (h1:-9223372036854775808≤x) (h2:x≤9223372036854775807):IntKind.i64.wrap x=x:=by
 rw[IntKind.wrap_i64];omega
theorem nA (s g:Nat):¬Flat (.own s g):=by intro h;cases h
theorem yG (s g o:Nat):¬Flat (.ptr s g o):=by intro h;cases h
theorem eC {st:St} {x:AV} (h:Flat x):fO st x=some x:=by unfold fO;rw[if_pos h]
theorem kF {st:St} {s g e sz n:Nat} {cs:List AV} (h:st.heap s g=some (.row e sz n cs)) (hf:∀c∈cs,Flat c):cS st (.own s g)=some (.sl n cs):=by
 unfold cS;rw[if_neg (nA s g)];simp only[h];rw[if_pos hf]
theorem cW {st:St} {x:AV} (h:Flat x):cS st x=some x:=by unfold cS;rw[if_pos h]
theorem aA1 {st:St} {x:AV} (h:Flat x):wO st x=some x:=by unfold wO;rw[if_pos h]
theorem Hh {st:St}:∀ {cs:List AV},(∀c∈cs,Flat c)→cP (cs.map (wO st))=some cs
 | [],_=>rfl
 | c :: cs,h=>by
   rw[List.map_cons,aA1 (h c (by simp))]
   have ih:=Hh (st:=st) (cs:=cs) fun d hd=>h d (List.mem_cons_of_mem _ hd)
   simp only[cP,ih,Option.map_some]
theorem XN {st:St} {s g o:Nat} {cs:List AV} (h:st.heap s g=some (.cells cs)):cS st (.ptr s g o)=(cP (cs.map (wO st))).map fun ds=>.ip ds o:=by
 unfold cS;rw[if_neg (yG s g o)];simp only[h]
theorem J7 {st:St} {s g o:Nat} {cs:List AV} (h:st.heap s g=some (.cells cs)) (hf:∀c∈cs,Flat c):cS st (.ptr s g o)=some (.ip cs o):=by
 rw[XN h,Hh hf];rfl
theorem Zb {st:St} {s g e sz n:Nat} {cs:List AV} (h:st.heap s g=some (.row e sz n cs)) (hf:∀c∈cs,Flat c):fO st (.own s g)=some (.sl n cs):=by
 unfold fO;rw[if_neg (nA s g)];exact kF h hf
theorem OX {st:St} {s g o:Nat} {cs:List AV} (h:st.heap s g=some (.cells cs)) (hf:∀c∈cs,Flat c):fO st (.ptr s g o)=some (.ip cs o):=by
 unfold fO;rw[if_neg (yG s g o)];exact J7 h hf
section
variable [Ext]
theorem aA2 {P:Program} {f:Nat} {fn:Func} {t:Nat} {st:St} {x:AV} {e:Ex} (hk:Ext.qR f=false) (he:e=.ret∨e=.normal) (hr:fn.results.toList=[.tmp t]) (hx:st.env t=x) (hf:Flat x):At P f fn (e,st)=some x:=by
 have h1:jS P f fn st=some x:=by
  unfold jS;rw[hk,if_neg (by simp)]
  unfold wF;rw[hr];simp only[lR,cT,hx,Tm];cases hf<;>simp only[fO]<;>rw[if_pos]<;>constructor<;>assumption
 rcases he with rfl|rfl<;>exact h1
theorem J8 {P:Program} {f:Nat} {fn:Func} {t T:Nat} {st:St} {y x:AV} {e:Ex} (hk:Ext.qR f=false) (he:e=.ret∨e=.normal) (hr:fn.results.toList=[.cell t T]) (hy:st.env t=y) (hx:Gc P st T y=some x) (hf:Flat x):At P f fn (e,st)=some x:=by
 have h1:jS P f fn st=some x:=by
  unfold jS;rw[hk,if_neg (by simp)]
  unfold wF;rw[hr];show cT (cT (qS st (st.env t)) (yD P T)) (Tm st)=some x
  rw[hy,Pv,hx];simp only[cT,Tm];cases hf<;>simp only[fO]<;>rw[if_pos]<;>constructor<;>assumption
 rcases he with rfl|rfl<;>exact h1
theorem Ym {P:Program} {f:Nat} {fn:Func} {t:Nat} {st:St} {e:Ex} {s g e' sz n:Nat} {cs:List AV} (hk:Ext.qR f=false) (he:e=.ret∨e=.normal) (hr:fn.results.toList=[.tmp t]) (hx:st.env t=.own s g) (hh:st.heap s g=some (.row e' sz n cs)) (hf:∀c∈cs,Flat c):At P f fn (e,st)=some (.uniq e' sz n cs):=by
 have h1:jS P f fn st=some (.uniq e' sz n cs):=by
  unfold jS;rw[hk,if_neg (by simp)]
  unfold wF;rw[hr];simp only[lR,cT,hx,Tm,hh];rw[if_pos hf]
 rcases he with rfl|rfl<;>exact h1
theorem XO {P:Program} {f:Nat} {fn:Func} {t T:Nat} {st:St} {e:Ex} {z:AV} {cs:List AV} {y:AV} (hk:Ext.qR f=false) (he:e=.ret∨e=.normal) (hr:fn.results.toList=[.cell t T]) (hz:st.env t=z) (hx:Gc P st T z=some (.agg cs)) (hy:fO st (.agg cs)=some y):At P f fn (e,st)=some y:=by
 have h1:jS P f fn st=some y:=by
  unfold jS;rw[hk,if_neg (by simp)]
  unfold wF;rw[hr];show cT (cT (qS st (st.env t)) (yD P T)) (Tm st)=some y
  rw[hz,Pv,hx];simp only[cT,Tm,hy]
 rcases he with rfl|rfl<;>exact h1
def bY (P:Program) (st:St) (r:ResultVar):Option AV :=
 match r with
 | .tmp t=>some (st.env t)
 | .cell t T=>Gc P st T (st.env t)
theorem rM (P:Program) (st:St) (r:ResultVar):lR P st r=bY P st r:=by
 cases r with
 | tmp t=>rfl
 | cell t T=>exact Pv P st T _
theorem aA3 {P:Program} {f:Nat} {fn:Func} {st:St} {e:Ex} {r1 r2:ResultVar} {x1 x2 y1 y2:AV} (hk:Ext.qR f=false) (he:e=.ret∨e=.normal) (hr:fn.results.toList=[r1,r2])
 (h1:bY P st r1=some x1) (h2:bY P st r2=some x2) (e1:fO st x1=some y1) (e2:fO st x2=some y2):At P f fn (e,st)=some (.eG [y1,y2]):=by
 have h:jS P f fn st=some (.eG [y1,y2]):=by
  unfold jS;rw[hk,if_neg (by simp)]
  unfold wF;rw[hr];simp only[List.map_cons,List.map_nil,rM,h1,h2,cT,Dx e1,Dx e2,cP,Option.map_some]
 rcases he with rfl|rfl<;>exact h
theorem J9 {P:Program} {f:Nat} {fn:Func} {st:St} {e:Ex} {r1 r2:ResultVar} {x1 x2 y1 y2:AV} (hk:Ext.qR f=false) (he:e=.ret∨e=.normal) (hr:fn.results.toList=[r1,r2])
 (h1:bY P st r1=some x1) (h2:bY P st r2=some x2) (e0:fO st x1=none) (e1:Nj st x1=some y1) (e2:fO st x2=some y2):At P f fn (e,st)=some (.eG [y1,y2]):=by
 have e1':Cx st x1=some y1:=(WM e0).trans e1
 have h:jS P f fn st=some (.eG [y1,y2]):=by
  unfold jS;rw[hk,if_neg (by simp)]
  unfold wF;rw[hr];simp only[List.map_cons,List.map_nil,rM,h1,h2,cT,e1',Dx e2,cP,Option.map_some]
 rcases he with rfl|rfl<;>exact h
theorem XP {P:Program} {f:Nat} {fn:Func} {st:St} {e:Ex} {r1 r2 r3:ResultVar} {x1 x2 x3 y1 y2 y3:AV} (hk:Ext.qR f=false) (he:e=.ret∨e=.normal) (hr:fn.results.toList=[r1,r2,r3])
 (h1:bY P st r1=some x1) (h2:bY P st r2=some x2) (h3:bY P st r3=some x3) (e1:fO st x1=some y1) (e2:fO st x2=some y2) (e3:fO st x3=some y3):At P f fn (e,st)=some (.eG [y1,y2,y3]):=by
 have h:jS P f fn st=some (.eG [y1,y2,y3]):=by
  unfold jS;rw[hk,if_neg (by simp)]
  unfold wF;rw[hr];simp only[List.map_cons,List.map_nil,rM,h1,h2,h3,cT,Dx e1,Dx e2,Dx e3,cP,Option.map_some]
 rcases he with rfl|rfl<;>exact h
end
section
variable [Ext]
theorem K0 {P:Program} (c:Operand) (a b:Code) (st:St):zJ P (.cond c a b) st=onB (st.ev c) fun t=>if t=true then zJ P a st else zJ P b st:=by
 cases h:st.ev c with
 | v x =>
   cases x with
   | bool t=>exact aAI P c a b st h
   | _ =>
     apply Option.ext
     intro r;rw[A3];constructor
     ·rintro⟨n,m,h'⟩
      cases m with
      | zero=>simp[uZ] at h'
      | succ m=>simp[uZ,h] at h'
     ·intro h';simp[onB] at h'
 | _ =>
   apply Option.ext
   intro r;rw[A3];constructor
   ·rintro⟨n,m,h'⟩
    cases m with
    | zero=>simp[uZ] at h'
    | succ m=>simp[uZ,h] at h'
   ·intro h';simp[onB] at h'
def A5 (ops:Array Oper) (j:Nat):Option Nat:=(ops[j]?).bind (·.dst)
def XQ {α:Type} (x:AV) (want:Bool) (y n:Option α):Option α :=
 match x with
 | .v (.bool b)=>if b=want then y else n
 | .v _=>n
 | _=>none
def onS {α:Type} (d:Option Nat) (k:Nat→Option α) (n:Option α):Option α :=
 match d with
 | some d=>k d
 | none=>n
@[congr] theorem aHV {α:Type} {x x':AV} {want:Bool} {y n:Option α} (h:x=x'):XQ x want y n=XQ x' want y n:=by rw[h]
@[congr] theorem aKd {α:Type} {d d':Option Nat} {k:Nat→Option α} {n:Option α} (h:d=d'):onS d k n=onS d' k n:=by rw[h]
theorem K1 {α:Type} (b:Bool) (y n:Option α):XQ (.v (.bool b)) true y n=if b=true then y else n:=rfl
theorem XR {α:Type} (b:Bool) (y n:Option α):XQ (.v (.bool b)) false y n=if b=false then y else n:=rfl
theorem XS {α:Type} (w:Bool) (y n:Option α):XQ (.v undef) w y n=n:=rfl
theorem aA4 {α:Type} (d:Nat) (k:Nat→Option α) (n:Option α):onS (some d) k n=k d:=rfl
theorem K2 {P:Program} {call:Nat→List AV→Option AV} {ops:Array Oper} {st:St} {d:Option Nat} {T:Nat} {pos:String} {eU:Array Edge} (op:Op) (j:Nat) (want:Bool) :
 cI P call ops ⟨d,op,T,pos,eU,some (j,want)⟩ st=onS (A5 ops j) (fun s=>XQ (st.env s) want (cI P call ops ⟨d,op,T,pos,eU,none⟩ st) (some (st.put d (.v undef)))) (some (st.put d (.v undef))):=by
 simp only[cI,gv,A5];cases (ops[j]?).bind (·.dst) with
 | none=>simp[onS]
 | some s =>
   simp only[onS];cases st.env s with
   | v x=>cases x<;>simp[XQ,dT]<;>rename_i b<;>cases b<;>cases want<;>simp[dT]
   | _=>rfl
end
section
variable {P:Program} {T:Nat} {k k1:IntKind} {a b:Int}
theorem aDP:gM P .add T (.v (.int k a)) (.v (.int k b))=some (.v (.int k (k.wrap (a+b)))):=by simp[gM]
theorem aDQ:gM P .sub T (.v (.int k a)) (.v (.int k b))=some (.v (.int k (k.wrap (a-b)))):=by simp[gM]
theorem aDR:gM P .mul T (.v (.int k a)) (.v (.int k b))=some (.v (.int k (k.wrap (a * b)))):=by simp[gM]
theorem aDS:gM P .and T (.v (.int k a)) (.v (.int k b))=some (.v (.int k (k.wrap (BitVec.ofInt k.bits a &&& BitVec.ofInt k.bits b).toNat))):=by simp[gM]
theorem aDT:gM P .eql T (.v (.int k a)) (.v (.int k b))=some (.v (.bool (a == b))):=by simp[gM]
theorem aDU:gM P .neq T (.v (.int k a)) (.v (.int k b))=some (.v (.bool (a != b))):=by simp[gM]
theorem aDV:gM P .lss T (.v (.int k a)) (.v (.int k b))=some (.v (.bool (decide (a<b)))):=by simp[gM]
theorem aDW:gM P .leq T (.v (.int k a)) (.v (.int k b))=some (.v (.bool (decide (a≤b)))):=by simp[gM]
theorem aDX:gM P .gtr T (.v (.int k a)) (.v (.int k b))=some (.v (.bool (decide (a > b)))):=by simp[gM]
theorem aDY:gM P .geq T (.v (.int k a)) (.v (.int k b))=some (.v (.bool (decide (a≥b)))):=by simp[gM]
theorem aDZ (h:b≠0):gM P .quo T (.v (.int k a)) (.v (.int k b))=some (.v (.int k (k.wrap (a.tdiv b)))):=by simp[gM,h]
theorem aD0 (h:b≠0):gM P .rem T (.v (.int k a)) (.v (.int k b))=some (.v (.int k (a.tmod b))):=by simp[gM,h]
theorem aD1 (h:¬b<0):gM P .shr T (.v (.int k a)) (.v (.int k1 b))=some (.v (.int k (a.fdiv (2 ^ (min b.toNat k.bits))))):=by simp[gM,h]
theorem aD2 (h:¬b<0):gM P .shl T (.v (.int k a)) (.v (.int k1 b))=some (.v (.int k (k.wrap (a * 2 ^ (min b.toNat k.bits))))):=by simp[gM,h]
end
theorem JU (s:St) (k:St→Option (Ex × St)):AI (.normal,s) k=k s:=rfl
theorem K3 (s:St) (k:St→Option (Ex × St)):AI (.ret,s) k=some (.ret,s):=rfl
theorem XT (i:Nat) (s:St) (k:St→Option (Ex × St)):AI (.exit i,s) k=some (.exit i,s):=rfl
theorem Xd (r:cN) (i e:Nat) (x:Int) (h:i<32) (he:e=i+1):dS (bF r) i [.v (.int .u8 x)] e=bF (r.set i x):=by
 subst he;simp only[dS,bF,Vector.toList_set,List.map_set];rw[List.set_eq_take_append_cons_drop,if_pos (by simp[h])]
 simp
theorem pL (r:qE) (i e:Nat) (x:Int) (h:i<4) (he:e=i+1):dS (gG r) i [.v (.int .u64 x)] e=gG (r.set i x):=by
 subst he;simp only[dS,gG,Vector.toList_set,List.map_set];rw[List.set_eq_take_append_cons_drop,if_pos (by simp[h])]
 simp
theorem Rd [Ext] {P:Program} {b:Code} (Inv:Nat→St→Prop) (Q:Ex→St→Prop)
 (step:∀n st,Inv n st→∃e st',zJ P b st=some (e,st')∧((e=.normal∧∃m,m<n∧Inv m st')∨(e≠.normal∧Q e st'))):∀n st,Inv n st→∃e st',zJ P (.loop b) st=some (e,st')∧e≠.normal∧Q e st':=by
 intro n;induction n using Nat.strongRecOn with
 | _ n ih =>
   intro st h;obtain⟨e,s1,h1,h2⟩:=step n st h
   rw[He,h1];rcases h2 with ⟨rfl,m,hm,hi⟩|⟨gP,hq⟩
   ·exact ih m hm s1 hi
   ·refine⟨e,s1, ?_,gP,hq⟩
    cases e with
    | normal=>exact absurd rfl gP
    | _=>rfl
theorem jV [Ext] {P:Program} {b:Code} {st:St} {β:Type} {k:Ex × St→Option β} {r:β} (Inv:Nat→St→Prop) (Q:Ex→St→Prop) (n:Nat)
 (step:∀n st,Inv n st→∃e st',zJ P b st=some (e,st')∧((e=.normal∧∃m,m<n∧Inv m st')∨(e≠.normal∧Q e st')))
 (start:Inv n st) (rest:∀e st',Q e st'→k (e,st')=some r):cT (zJ P (.loop b) st) k=some r:=by
 obtain⟨e,s1,h1,h2,h3⟩:=Rd Inv Q step n st start
 rw[h1];exact rest e s1 h3
theorem cC [Ext] {P:Program} {b:Code} {st:St} {β:Type} {k:Ex × St→Option β} {R:β→Prop} (Inv:Nat→St→Prop) (Q:Ex→St→Prop) (n:Nat)
 (step:∀n st,Inv n st→∃e st',zJ P b st=some (e,st')∧((e=.normal∧∃m,m<n∧Inv m st')∨(e≠.normal∧Q e st')))
 (start:Inv n st) (rest:∀e st',Q e st'→∃r,k (e,st')=some r∧R r):∃r,cT (zJ P (.loop b) st) k=some r∧R r:=by
 obtain⟨e,s1,h1,h2,h3⟩:=Rd Inv Q step n st start
 rw[h1];exact rest e s1 h3
theorem oY {α β γ:Type} (x:Option α) (f:α→Option β) (g:β→Option γ):cT (cT x f) g=cT x fun a=>cT (f a) g:=by cases x<;>rfl
theorem pD [Ext] {P:Program} {b:Code} {st st':St} {n:Nat} {Inv:Nat→St→Prop} {Q:Ex→St→Prop} (h:zJ P b st=some (.normal,st')) (m:Nat) (hm:m<n) (hi:Inv m st') :
 ∃e st',zJ P b st=some (e,st')∧((e=.normal∧∃m,m<n∧Inv m st')∨(e≠.normal∧Q e st')):=⟨_,_,h,.inl ⟨rfl,m,hm,hi⟩⟩
theorem aHW [Ext] {P:Program} {b:Code} {st st':St} {e:Ex} {n:Nat} {Inv:Nat→St→Prop} {Q:Ex→St→Prop} (h:zJ P b st=some (e,st')) (he:e≠.normal) (hq:Q e st') :
 ∃e st',zJ P b st=some (e,st')∧((e=.normal∧∃m,m<n∧Inv m st')∨(e≠.normal∧Q e st')):=⟨_,_,h,.inr ⟨he,hq⟩⟩
def aK (l:List Int):List AV:=l.flatMap qV
@[simp] theorem Ju (l:List (Int)):(aK l).length=l.length * 1:=by
 induction l with
 | nil=>rfl
 | cons x l ih=>simp only[aK,List.flatMap_cons,List.length_append,bJ,List.length_cons] at *;omega
theorem gI (l:List (Int)):∀x∈aK l,Flat x:=by
 intro x hx;obtain⟨y,_,hy⟩:=List.mem_flatMap.1 hx
 exact mF y x hy
theorem aA5 (l:List (Int)) (i:Nat) (h:i<l.length):rd (aK l) (i * 1) 1=qV l[i]:=Mm qV 1 (bJ) l i h
def bK (l:List Int):List AV:=l.flatMap lG
@[simp] theorem Rz (l:List (Int)):(bK l).length=l.length * 1:=by
 induction l with
 | nil=>rfl
 | cons x l ih=>simp only[bK,List.flatMap_cons,List.length_append,bB,List.length_cons] at *;omega
theorem iH (l:List (Int)):∀x∈bK l,Flat x:=by
 intro x hx;obtain⟨y,_,hy⟩:=List.mem_flatMap.1 hx
 exact eD y x hy
def gZ (l:List cN):List AV:=l.flatMap bF
@[simp] theorem aHX (l:List (cN)):(gZ l).length=l.length * 32:=by
 induction l with
 | nil=>rfl
 | cons x l ih=>simp only[gZ,List.flatMap_cons,List.length_append,aO,List.length_cons] at *;omega
theorem Um (l:List (cN)):∀x∈gZ l,Flat x:=by
 intro x hx;obtain⟨y,_,hy⟩:=List.mem_flatMap.1 hx
 exact dX y x hy
structure dP where
 aE:Int
 root:cN
def aW (s:dP):List AV:=lG s.aE++(bF s.root)
@[simp] theorem bR (s:dP):(aW s).length=33:=by simp[aW]
theorem bM (s:dP):∀x∈aW s,Flat x:=by
 intro x hx;simp only[aW,List.mem_append,List.mem_singleton] at hx;rcases hx with hx|hx
 ·(exact eD _ _ hx)
 ·(exact dX _ _ hx)
theorem kE (s:dP):(aW s)[0]? = some (.v (.int .u64 s.aE)):=rfl
theorem qA (s:dP) (x:Int):dS (aW s) 0 ([.v (.int .u64 x)]) 1=aW { s with aE:=x }:=cM (bB _)
theorem uU (s:dP):rd (aW s) 1 32=bF s.root:=(bG rfl (bB _)).trans (jA (aO _))
theorem Fq (s:dP) (x:cN):dS (aW s) 1 (bF x) 33=aW { s with root:=x }:=(aC rfl rfl (bB _)).trans (bL (eM (aO _)))
def fV:dP:=⟨0,dV⟩
def zS:List Value:=[.int .u64 0]++(tO)
theorem Bl:zS.map AV.v=aW fV:=by simp only[zS,List.map_append,List.map_cons,List.map_nil,jM,jN];rfl
def Un:List Bool:=[true]++(Ip)
theorem tH (a b:dP):iS Un (aW a) (aW b):=(fW (show iS [true] [_] [_] from ⟨rfl,trivial⟩) (oA _ _))
theorem mY (a b:dP):aW a=aW b↔a=b:=by
 refine⟨fun h=>?_,fun h=>by rw[h]⟩
 cases a;cases b
 simp only[aW] at h;obtain⟨h0,h⟩:=List.append_inj h (by simp)
 have e0:=(Io _ _).1 h0
 have e1:=(pZ _ _).1 h
 subst e0 e1;rfl
theorem QO (s:dP):rd (aW s) 0 33=aW s:=jA (bR _)
theorem QP (s x:dP):dS (aW s) 0 (aW x) 33=aW x:=eM (bR _)
structure mI where
 pj:dP
 pf:dP
def dM (s:mI):List AV:=aW s.pj++(aW s.pf)
@[simp] theorem cH (s:mI):(dM s).length=66:=by simp[dM]
theorem yH (s:mI):∀x∈dM s,Flat x:=by
 intro x hx;simp only[dM,List.mem_append,List.mem_singleton] at hx;rcases hx with hx|hx
 ·(exact bM _ _ hx)
 ·(exact bM _ _ hx)
theorem Pw (s:mI):rd (dM s) 0 33=aW s.pj:=gN (bR _)
theorem Px (s:mI) (x:dP):dS (dM s) 0 (aW x) 33=dM { s with pj:=x }:=cM (bR _)
theorem yA (s:mI):(dM s)[0]? = some (.v (.int .u64 s.pj.aE)):=(eP (by rw[bR];decide)).trans (kE _)
theorem Af (s:mI) (x:Int):dS (dM s) 0 ([.v (.int .u64 x)]) 1=dM { s with pj:={ s.pj with aE:=x }}:=(sR (by rw[bR];decide)).trans (Cr (qA _ x))
theorem Py (s:mI):rd (dM s) 33 33=aW s.pf:=(bG rfl (bR _)).trans (jA (bR _))
theorem Pz (s:mI) (x:dP):dS (dM s) 33 (aW x) 66=dM { s with pf:=x }:=(aC rfl rfl (bR _)).trans (bL (eM (bR _)))
theorem yB (s:mI):(dM s)[33]? = some (.v (.int .u64 s.pf.aE)):=(aJ rfl (bR _)).trans (kE _)
theorem Ag (s:mI) (x:Int):dS (dM s) 33 ([.v (.int .u64 x)]) 34=dM { s with pf:={ s.pf with aE:=x }}:=(aC rfl rfl (bR _)).trans (bL (qA _ x))
def Ev:mI:=⟨fV,fV⟩
def Qa:List Value:=zS++(zS)
theorem So:Qa.map AV.v=dM Ev:=by simp only[Qa,List.map_append,List.map_cons,List.map_nil,jM,jN,Bl];rfl
def JV:List Bool:=Un++(Un)
theorem Qb (a b:mI):iS JV (dM a) (dM b):=(fW (tH _ _) (tH _ _))
theorem Uo (a b:mI):dM a=dM b↔a=b:=by
 refine⟨fun h=>?_,fun h=>by rw[h]⟩
 cases a;cases b
 simp only[dM] at h;obtain⟨h0,h⟩:=List.append_inj h (by simp)
 have e0:=(mY _ _).1 h0
 have e1:=(mY _ _).1 h
 subst e0 e1;rfl
theorem DJ (s:mI):rd (dM s) 0 66=dM s:=jA (cH _)
theorem DK (s x:mI):dS (dM s) 0 (dM x) 66=dM x:=eM (cH _)
structure Block where
 cV:mI
 slot:Int
 root:cN
 parent:cN
 jK:cN
 diff:qE
 FM:qE
 gD:dP
 fin:dP
 Fb:Bool
def aP (s:Block):List AV:=dM s.cV++(lG s.slot++(bF s.root++(bF s.parent++(bF s.jK++(gG s.diff++(gG s.FM++(aW s.gD++(aW s.fin++(uT s.Fb)))))))))
@[simp] theorem bT (s:Block):(aP s).length=238:=by simp[aP]
theorem Bx (s:Block):∀x∈aP s,Flat x:=by
 intro x hx;simp only[aP,List.mem_append,List.mem_singleton] at hx;rcases hx with hx|hx|hx|hx|hx|hx|hx|hx|hx|hx
 ·(exact yH _ _ hx)
 ·(exact eD _ _ hx)
 ·(exact dX _ _ hx)
 ·(exact dX _ _ hx)
 ·(exact dX _ _ hx)
 ·(exact iQ _ _ hx)
 ·(exact iQ _ _ hx)
 ·(exact bM _ _ hx)
 ·(exact bM _ _ hx)
 ·(exact tG _ _ hx)
theorem Gd (s:Block):rd (aP s) 0 66=dM s.cV:=gN (cH _)
theorem Vd (s:Block) (x:mI):dS (aP s) 0 (dM x) 66=aP { s with cV:=x }:=cM (cH _)
theorem Ah (s:Block):rd (aP s) 0 33=aW s.cV.pj:=(sQ (by rw[cH];decide)).trans (Pw _)
theorem Mp (s:Block) (x:dP):dS (aP s) 0 (aW x) 33=aP { s with cV:={ s.cV with pj:=x }}:=(sR (by rw[cH];decide)).trans (Cr (Px _ x))
theorem sC (s:Block):(aP s)[0]? = some (.v (.int .u64 s.cV.pj.aE)):=(eP (by rw[cH];decide)).trans (yA _)
theorem Cs (s:Block) (x:Int):dS (aP s) 0 ([.v (.int .u64 x)]) 1=aP { s with cV:={ s.cV with pj:={ s.cV.pj with aE:=x }} }:=(sR (by rw[cH];decide)).trans (Cr (Af _ x))
theorem Ai (s:Block):rd (aP s) 33 33=aW s.cV.pf:=(sQ (by rw[cH];decide)).trans (Py _)
theorem Mq (s:Block) (x:dP):dS (aP s) 33 (aW x) 66=aP { s with cV:={ s.cV with pf:=x }}:=(sR (by rw[cH];decide)).trans (Cr (Pz _ x))
theorem sD (s:Block):(aP s)[33]? = some (.v (.int .u64 s.cV.pf.aE)):=(eP (by rw[cH];decide)).trans (yB _)
theorem Ct (s:Block) (x:Int):dS (aP s) 33 ([.v (.int .u64 x)]) 34=aP { s with cV:={ s.cV with pf:={ s.cV.pf with aE:=x }} }:=(sR (by rw[cH];decide)).trans (Cr (Ag _ x))
theorem Iq (s:Block):(aP s)[66]? = some (.v (.int .u64 s.slot)):=(aJ rfl (cH _)).trans (rfl)
theorem DL (s:Block) (x:Int):dS (aP s) 66 ([.v (.int .u64 x)]) 67=aP { s with slot:=x }:=(aC rfl rfl (cH _)).trans (bL (cM (bB _)))
theorem La (s:Block):rd (aP s) 67 32=bF s.root:=(bG rfl (cH _)).trans ((bG rfl (bB _)).trans (gN (aO _)))
theorem DM (s:Block) (x:cN):dS (aP s) 67 (bF x) 99=aP { s with root:=x }:=(aC rfl rfl (cH _)).trans (bL ((aC rfl rfl (bB _)).trans (bL (cM (aO _)))))
theorem Ve (s:Block):rd (aP s) 99 32=bF s.parent:=(bG rfl (cH _)).trans ((bG rfl (bB _)).trans ((bG rfl (aO _)).trans (gN (aO _))))
theorem Vf (s:Block) (x:cN):dS (aP s) 99 (bF x) 131=aP { s with parent:=x }:=(aC rfl rfl (cH _)).trans (bL ((aC rfl rfl (bB _)).trans (bL ((aC rfl rfl (aO _)).trans (bL (cM (aO _)))))))
theorem Dz (s:Block):rd (aP s) 131 32=bF s.jK:=(bG rfl (cH _)).trans ((bG rfl (bB _)).trans ((bG rfl (aO _)).trans ((bG rfl (aO _)).trans (gN (aO _)))))
theorem Sp (s:Block) (x:cN):dS (aP s) 131 (bF x) 163=aP { s with jK:=x }:=(aC rfl rfl (cH _)).trans (bL ((aC rfl rfl (bB _)).trans (bL ((aC rfl rfl (aO _)).trans (bL ((aC rfl rfl (aO _)).trans (bL (cM (aO _)))))))))
theorem DN (s:Block):rd (aP s) 163 4=gG s.diff:=(bG rfl (cH _)).trans ((bG rfl (bB _)).trans ((bG rfl (aO _)).trans ((bG rfl (aO _)).trans ((bG rfl (aO _)).trans (gN (dO _))))))
theorem DO (s:Block) (x:qE):dS (aP s) 163 (gG x) 167=aP { s with diff:=x }:=(aC rfl rfl (cH _)).trans (bL ((aC rfl rfl (bB _)).trans (bL ((aC rfl rfl (aO _)).trans (bL ((aC rfl rfl (aO _)).trans (bL ((aC rfl rfl (aO _)).trans (bL (cM (dO _)))))))))))
theorem AK (s:Block):rd (aP s) 167 4=gG s.FM:=(bG rfl (cH _)).trans ((bG rfl (bB _)).trans ((bG rfl (aO _)).trans ((bG rfl (aO _)).trans ((bG rfl (aO _)).trans ((bG rfl (dO _)).trans (gN (dO _)))))))
theorem AL (s:Block) (x:qE):dS (aP s) 167 (gG x) 171=aP { s with FM:=x }:=(aC rfl rfl (cH _)).trans (bL ((aC rfl rfl (bB _)).trans (bL ((aC rfl rfl (aO _)).trans (bL ((aC rfl rfl (aO _)).trans (bL ((aC rfl rfl (aO _)).trans (bL ((aC rfl rfl (dO _)).trans (bL (cM (dO _)))))))))))))
theorem Lb (s:Block):rd (aP s) 171 33=aW s.gD:=(bG rfl (cH _)).trans ((bG rfl (bB _)).trans ((bG rfl (aO _)).trans ((bG rfl (aO _)).trans ((bG rfl (aO _)).trans ((bG rfl (dO _)).trans ((bG rfl (dO _)).trans (gN (bR _))))))))
theorem DP (s:Block) (x:dP):dS (aP s) 171 (aW x) 204=aP { s with gD:=x }:=(aC rfl rfl (cH _)).trans (bL ((aC rfl rfl (bB _)).trans (bL ((aC rfl rfl (aO _)).trans (bL ((aC rfl rfl (aO _)).trans (bL ((aC rfl rfl (aO _)).trans (bL ((aC rfl rfl (dO _)).trans (bL ((aC rfl rfl (dO _)).trans (bL (cM (bR _)))))))))))))))
theorem Ir (s:Block):(aP s)[171]? = some (.v (.int .u64 s.gD.aE)):=(aJ rfl (cH _)).trans ((aJ rfl (bB _)).trans ((aJ rfl (aO _)).trans ((aJ rfl (aO _)).trans ((aJ rfl (aO _)).trans ((aJ rfl (dO _)).trans ((aJ rfl (dO _)).trans ((eP (by rw[bR];decide)).trans (kE _))))))))
theorem Ki (s:Block) (x:Int):dS (aP s) 171 ([.v (.int .u64 x)]) 172=aP { s with gD:={ s.gD with aE:=x }}:=(aC rfl rfl (cH _)).trans (bL ((aC rfl rfl (bB _)).trans (bL ((aC rfl rfl (aO _)).trans (bL ((aC rfl rfl (aO _)).trans (bL ((aC rfl rfl (aO _)).trans (bL ((aC rfl rfl (dO _)).trans (bL ((aC rfl rfl (dO _)).trans (bL ((sR (by rw[bR];decide)).trans (Cr (qA _ x))))))))))))))))
theorem Qc (s:Block):rd (aP s) 204 33=aW s.fin:=(bG rfl (cH _)).trans ((bG rfl (bB _)).trans ((bG rfl (aO _)).trans ((bG rfl (aO _)).trans ((bG rfl (aO _)).trans ((bG rfl (dO _)).trans ((bG rfl (dO _)).trans ((bG rfl (bR _)).trans (gN (bR _)))))))))
theorem JW (s:Block) (x:dP):dS (aP s) 204 (aW x) 237=aP { s with fin:=x }:=(aC rfl rfl (cH _)).trans (bL ((aC rfl rfl (bB _)).trans (bL ((aC rfl rfl (aO _)).trans (bL ((aC rfl rfl (aO _)).trans (bL ((aC rfl rfl (aO _)).trans (bL ((aC rfl rfl (dO _)).trans (bL ((aC rfl rfl (dO _)).trans (bL ((aC rfl rfl (bR _)).trans (bL (cM (bR _)))))))))))))))))
theorem Kj (s:Block):(aP s)[204]? = some (.v (.int .u64 s.fin.aE)):=(aJ rfl (cH _)).trans ((aJ rfl (bB _)).trans ((aJ rfl (aO _)).trans ((aJ rfl (aO _)).trans ((aJ rfl (aO _)).trans ((aJ rfl (dO _)).trans ((aJ rfl (dO _)).trans ((aJ rfl (bR _)).trans ((eP (by rw[bR];decide)).trans (kE _)))))))))
theorem Mr (s:Block) (x:Int):dS (aP s) 204 ([.v (.int .u64 x)]) 205=aP { s with fin:={ s.fin with aE:=x }}:=(aC rfl rfl (cH _)).trans (bL ((aC rfl rfl (bB _)).trans (bL ((aC rfl rfl (aO _)).trans (bL ((aC rfl rfl (aO _)).trans (bL ((aC rfl rfl (aO _)).trans (bL ((aC rfl rfl (dO _)).trans (bL ((aC rfl rfl (dO _)).trans (bL ((aC rfl rfl (bR _)).trans (bL ((sR (by rw[bR];decide)).trans (Cr (qA _ x))))))))))))))))))
theorem Qd (s:Block) (x:cN):dS (aP s) 205 (bF x) 237=aP { s with fin:={ s.fin with root:=x }}:=(aC rfl rfl (cH _)).trans (bL ((aC rfl rfl (bB _)).trans (bL ((aC rfl rfl (aO _)).trans (bL ((aC rfl rfl (aO _)).trans (bL ((aC rfl rfl (aO _)).trans (bL ((aC rfl rfl (dO _)).trans (bL ((aC rfl rfl (dO _)).trans (bL ((aC rfl rfl (bR _)).trans (bL ((sR (by rw[bR];decide)).trans (Cr (Fq _ x))))))))))))))))))
theorem Sq (s:Block):(aP s)[237]? = some (.v (.bool s.Fb)):=(aJ rfl (cH _)).trans ((aJ rfl (bB _)).trans ((aJ rfl (aO _)).trans ((aJ rfl (aO _)).trans ((aJ rfl (aO _)).trans ((aJ rfl (dO _)).trans ((aJ rfl (dO _)).trans ((aJ rfl (bR _)).trans ((aJ rfl (bR _)).trans (rfl)))))))))
theorem Vg (s:Block) (x:Bool):dS (aP s) 237 ([.v (.bool x)]) 238=aP { s with Fb:=x }:=(aC rfl rfl (cH _)).trans (bL ((aC rfl rfl (bB _)).trans (bL ((aC rfl rfl (aO _)).trans (bL ((aC rfl rfl (aO _)).trans (bL ((aC rfl rfl (aO _)).trans (bL ((aC rfl rfl (dO _)).trans (bL ((aC rfl rfl (dO _)).trans (bL ((aC rfl rfl (bR _)).trans (bL ((aC rfl rfl (bR _)).trans (bL (eM (iC _)))))))))))))))))))
def eA:Block:=⟨Ev,0,dV,dV,dV,GW,GW,fV,fV,false⟩
def Fg:List Value:=Qa++([.int .u64 0]++(tO++(tO++(tO++(AJ++(AJ++(zS++(zS++([.bool false])))))))))
theorem Qe:Fg.map AV.v=aP eA:=by simp only[Fg,List.map_append,List.map_cons,List.map_nil,jM,jN,So,Bl];rfl
def XU:List Bool:=JV++([true]++(Ip++(Ip++(Ip++(A4++(A4++(Un++(Un++([false])))))))))
theorem Up (a b:Block):iS XU (aP a) (aP b):=(fW (Qb _ _) (fW (show iS [true] [_] [_] from ⟨rfl,trivial⟩) (fW (oA _ _) (fW (oA _ _) (fW (oA _ _) (fW (Mo _ _) (fW (Mo _ _) (fW (tH _ _) (fW (tH _ _) (show iS [false] [_] [_] from trivial))))))))))
theorem AM (a b:Block):aP a=aP b↔a=b:=by
 refine⟨fun h=>?_,fun h=>by rw[h]⟩
 cases a;cases b
 simp only[aP] at h;obtain⟨h0,h⟩:=List.append_inj h (by simp)
 obtain⟨h1,h⟩:=List.append_inj h (by simp)
 obtain⟨h2,h⟩:=List.append_inj h (by simp)
 obtain⟨h3,h⟩:=List.append_inj h (by simp)
 obtain⟨h4,h⟩:=List.append_inj h (by simp)
 obtain⟨h5,h⟩:=List.append_inj h (by simp)
 obtain⟨h6,h⟩:=List.append_inj h (by simp)
 obtain⟨h7,h⟩:=List.append_inj h (by simp)
 obtain⟨h8,h⟩:=List.append_inj h (by simp)
 have e0:=(Uo _ _).1 h0
 have e1:=(Io _ _).1 h1
 have e2:=(pZ _ _).1 h2
 have e3:=(pZ _ _).1 h3
 have e4:=(pZ _ _).1 h4
 have e5:=(Sn _ _).1 h5
 have e6:=(Sn _ _).1 h6
 have e7:=(mY _ _).1 h7
 have e8:=(mY _ _).1 h8
 have e9:=(GV _ _).1 h
 subst e0 e1 e2 e3 e4 e5 e6 e7 e8 e9;rfl
theorem JX (s:Block):rd (aP s) 0 238=aP s:=jA (bT _)
theorem JY (s x:Block):dS (aP s) 0 (aP x) 238=aP x:=eM (bT _)
structure Node where
 block:Block
 up:Int
 status:Int
def fK (s:Node):List AV:=aP s.block++(qV s.up++(qV s.status))
@[simp] theorem vO (s:Node):(fK s).length=240:=by simp[fK]
theorem Lq (s:Node):∀x∈fK s,Flat x:=by
 intro x hx;simp only[fK,List.mem_append,List.mem_singleton] at hx;rcases hx with hx|hx|hx
 ·(exact Bx _ _ hx)
 ·(exact mF _ _ hx)
 ·(exact mF _ _ hx)
theorem DQ (s:Node):rd (fK s) 0 238=aP s.block:=gN (bT _)
theorem DR (s:Node) (x:Block):dS (fK s) 0 (aP x) 238=fK { s with block:=x }:=cM (bT _)
theorem Is (s:Node):rd (fK s) 0 66=dM s.block.cV:=(sQ (by rw[bT];decide)).trans (Gd _)
theorem Ea (s:Node):rd (fK s) 0 33=aW s.block.cV.pj:=(sQ (by rw[bT];decide)).trans (Ah _)
theorem wB (s:Node):(fK s)[0]? = some (.v (.int .u64 s.block.cV.pj.aE)):=(eP (by rw[bT];decide)).trans (sC _)
theorem Eb (s:Node):rd (fK s) 33 33=aW s.block.cV.pf:=(sQ (by rw[bT];decide)).trans (Ai _)
theorem wC (s:Node):(fK s)[33]? = some (.v (.int .u64 s.block.cV.pf.aE)):=(eP (by rw[bT];decide)).trans (sD _)
theorem Kk (s:Node):(fK s)[66]? = some (.v (.int .u64 s.block.slot)):=(eP (by rw[bT];decide)).trans (Iq _)
theorem Ms (s:Node):rd (fK s) 67 32=bF s.block.root:=(sQ (by rw[bT];decide)).trans (La _)
theorem Gr (s:Node):rd (fK s) 131 32=bF s.block.jK:=(sQ (by rw[bT];decide)).trans (Dz _)
theorem Mt (s:Node):rd (fK s) 171 33=aW s.block.gD:=(sQ (by rw[bT];decide)).trans (Lb _)
theorem Qf (s:Node):rd (fK s) 204 33=aW s.block.fin:=(sQ (by rw[bT];decide)).trans (Qc _)
theorem QQ (s:Node):(fK s)[238]? = some (.v (.int .i64 s.up)):=(aJ rfl (bT _)).trans (rfl)
theorem XV (s:Node) (x:Int):dS (fK s) 238 ([.v (.int .i64 x)]) 239=fK { s with up:=x }:=(aC rfl rfl (bT _)).trans (bL (cM (bJ _)))
theorem Ga (s:Node):(fK s)[239]? = some (.v (.int .i64 s.status)):=(aJ rfl (bT _)).trans ((aJ rfl (bJ _)).trans (rfl))
theorem Hi (s:Node) (x:Int):dS (fK s) 239 ([.v (.int .i64 x)]) 240=fK { s with status:=x }:=(aC rfl rfl (bT _)).trans (bL ((aC rfl rfl (bJ _)).trans (bL (eM (bJ _)))))
def A6:Node:=⟨eA,0,0⟩
def AN:List Value:=Fg++([.int .i64 0]++([.int .i64 0]))
theorem JZ:AN.map AV.v=fK A6:=by simp only[AN,List.map_append,List.map_cons,List.map_nil,jM,jN,Qe];rfl
def aGd:List Bool:=XU++([true]++([true]))
theorem Xn (a b:Node):iS aGd (fK a) (fK b):=(fW (Up _ _) (fW (show iS [true] [_] [_] from ⟨rfl,trivial⟩) (show iS [true] [_] [_] from ⟨rfl,trivial⟩)))
theorem K4 (a b:Node):fK a=fK b↔a=b:=by
 refine⟨fun h=>?_,fun h=>by rw[h]⟩
 cases a;cases b
 simp only[fK] at h;obtain⟨h0,h⟩:=List.append_inj h (by simp)
 obtain⟨h1,h⟩:=List.append_inj h (by simp)
 have e0:=(AM _ _).1 h0
 have e1:=(xG _ _).1 h1
 have e2:=(xG _ _).1 h
 subst e0 e1 e2;rfl
theorem QR (s:Node):rd (fK s) 0 240=fK s:=jA (vO _)
theorem QS (s x:Node):dS (fK s) 0 (fK x) 240=fK x:=eM (vO _)
def bZ (l:List Node):List AV:=l.flatMap fK
@[simp] theorem Ls (l:List (Node)):(bZ l).length=l.length * 240:=by
 induction l with
 | nil=>rfl
 | cons x l ih=>simp only[bZ,List.flatMap_cons,List.length_append,vO,List.length_cons] at *;omega
theorem iF (l:List (Node)):∀x∈bZ l,Flat x:=by
 intro x hx;obtain⟨y,_,hy⟩:=List.mem_flatMap.1 hx
 exact Lq y x hy
theorem K5 (l:List (Node)) (i:Nat) (h:i<l.length):rd (bZ l) (i * 240) 240=fK l[i]:=Mm fK 240 (vO) l i h
structure Tree where
 nodes:List Node
def cJ (s:Tree):List AV:=[.sl s.nodes.length (bZ s.nodes)]
@[simp] theorem Sr (s:Tree):(cJ s).length=1:=by simp[cJ]
theorem XW (s:Tree):∀x∈cJ s,Flat x:=by
 intro x hx;simp only[cJ,List.mem_append,List.mem_singleton] at hx;(subst hx;exact .sl _ _ (iF _))
theorem AO (s:Tree):(cJ s)[0]? = some (.sl s.nodes.length (bZ s.nodes)):=rfl
theorem QT (s:Tree):rd (cJ s) 0 1=cJ s:=jA (Sr _)
theorem QU (s x:Tree):dS (cJ s) 0 (cJ x) 1=cJ x:=eM (Sr _)
end Go.Ab
end
section
namespace Go.Ab
open Classical
def yJ (e sz by_:Nat) (v:Option (Nat × List AV)):Option (Option (Nat × Nat) × oB) :=
 match v with
 | some (m,news)=>if news.length=m * sz∧m * by_≤140737488355328∧m≤maxLen then some (none,.row e sz m news) else none
 | none=>none
def xY (e sz by_:Nat) (o:Option oB) (s g:Nat) (v:Option (Nat × List AV)):Option (Option (Nat × Nat) × oB) :=
 match o,v with
 | some (.row e' tT n cs),some (m,news)=>if news.length=m * sz∧e'=e∧tT=sz∧(n+m) * by_≤140737488355328∧n+m≤maxLen then some (some (s,g),.row e sz (n+m) (cs++news)) else none
 | _,_=>none
def acE (e sz by_ n:Nat) (cs:List AV) (v:Option (Nat × List AV)):Option (Option (Nat × Nat) × oB) :=
 match v with
 | some (m,news)=>if news.length=m * sz∧cs.length=n * sz∧(n=0∨0<m)∧(n+m) * by_≤140737488355328∧n+m≤maxLen then some (none,.row e sz (n+m) (cs++news)) else none
 | none=>none
section
variable {P:Program} {st:St} {T e sz by_:Nat}
theorem uV (hs:dW P T=some (e,sz,by_)) (x:AV):dJ P st T (.v (.slice none 0 0)) x=yJ e sz by_ (aX st x):=by
 simp only[dJ,hs,yJ];cases aX st x with
 | none=>rfl
 | some v =>
   obtain⟨m,news⟩:=v
   by_cases h1:news.length=m * sz<;>simp[h1]
theorem sW (hs:dW P T=some (e,sz,by_)) (s g:Nat) (x:AV):dJ P st T (.own s g) x=xY e sz by_ (st.heap s g) s g (aX st x):=by
 simp only[dJ,hs,xY];cases aX st x with
 | none=>cases st.heap s g with
   | none=>rfl
   | some o=>cases o<;>rfl
 | some v =>
   obtain⟨m,news⟩:=v
   cases st.heap s g with
   | none=>by_cases h1:news.length=m * sz<;>simp[h1]
   | some o =>
     cases o with
     | row a b n cs=>by_cases h1:news.length=m * sz<;>simp[h1]
     | _=>by_cases h1:news.length=m * sz<;>simp[h1]
theorem aHZ (hs:dW P T=some (e,sz,by_)) (n:Nat) (cs:List AV) (x:AV):dJ P st T (.cl n cs) x=acE e sz by_ n cs (aX st x):=by
 simp only[dJ,hs,acE];cases aX st x with
 | none=>rfl
 | some v =>
   obtain⟨m,news⟩:=v
   by_cases h1:news.length=m * sz<;>simp[h1]
end
def LX (e sz:Nat) (o:Option oB) (s g:Nat) (i:Int):Option AV :=
 match o with
 | some (.row e' tT n _)=>if 0≤i∧i<n∧e'=e∧tT=sz then some (.ptr s g (i.toNat * sz)) else none
 | _=>none
theorem Ka {P:Program} {st:St} {T e sz by_:Nat} (hn:jJ P T=none) (hs:dW P T=some (e,sz,by_)) (s g:Nat) (k:IntKind) (i:Int):bH P st T (.own s g) (.v (.int k i))=LX e sz (st.heap s g) s g i:=by
 simp only[bH,hn,hs,LX];cases st.heap s g with
 | none=>rfl
 | some e=>cases e<;>rfl
theorem aD3 (e sz n:Nat) (cs:List AV) (s g:Nat) (i:Int) (h0:0≤i) (h1:i<n):LX e sz (some (.row e sz n cs)) s g i=some (.ptr s g (i.toNat * sz)):=by
 simp[LX,h0,h1]
theorem AP [Ext] {P:Program} {S e sz by_:Nat} {z:List Value} (hs:dW P S=some (e,sz,by_)) (hz:eI P e=some z) {call:Nat→List AV→Option AV} {ops:Array Oper} {st:St} {T:Nat} {pos:String} {eU:Array Edge} (d:Nat) :
 cI P call ops ⟨some d,.buildSlice S 0 #[],T,pos,eU,none⟩ st=some ((st.new d (.row e sz 0 [])).put (some d) (.own d (st.aT d))):=by
 rw[kZ,hs];simp[cT,hz,gS]
def elV {α:Type} (x:AV) (k:Value→Option α) (fb:Option α):Option α :=
 match x with
 | .v y=>if y.oneCell'=true then k y else fb
 | _=>fb
theorem aD5 {α:Type} (kk:IntKind) (n:Int) (k:Value→Option α) (fb:Option α):elV (.v (.int kk n)) k fb=k (.int kk n):=rfl
theorem aA6 {α:Type} (n:Bool) (k:Value→Option α) (fb:Option α):elV (.v (.bool n)) k fb=k (.bool n):=rfl
@[congr] theorem aKe {α:Type} {x y:AV} {k:Value→Option α} {fb:Option α} (h:x=y):elV x k fb=elV y k fb:=by rw[h]
theorem KA [Ext] {P:Program} {S e by_:Nat} {z:Value} (hs:dW P S=some (e,1,by_)) (hz:eI P e=some [z]) {call:Nat→List AV→Option AV} {ops:Array Oper} {st:St} {T:Nat} {pos:String} {eU:Array Edge} (d:Nat) (x:Operand) :
 cI P call ops ⟨some d,.buildSlice S 1 #[(0,x)],T,pos,eU,none⟩ st=elV (st.ev x) (fun y=>some ((st.new d (.row e 1 1 [.v y])).put (some d) (.own d (st.aT d)))) (cI P call ops ⟨some d,.buildSlice S 1 #[(0,x)],T,pos,eU,none⟩ st):=by
 unfold elV;split
 ·rename_i y h;split
  ·rename_i hy;rw[kZ,hs];simp[hz,cT,h,AV.jD,hy,gS,AV.cells]
  ·rfl
 ·rfl
def K6 {α:Type} (z:Nat) (x:AV) (k:List AV→Option α) (fb:Option α):Option α :=
 match x with
 | .agg cs=>if cs.length=z then k cs else fb
 | _=>fb
theorem aD6 {α:Type} (z:Nat) (cs:List AV) (k:List AV→Option α) (fb:Option α) (h:cs.length=z):K6 z (.agg cs) k fb=k cs:=if_pos h
@[congr] theorem aKf {α:Type} {z:Nat} {x y:AV} {k:List AV→Option α} {fb:Option α} (h:x=y):K6 z x k fb=K6 z y k fb:=by rw[h]
theorem By [Ext] {P:Program} {S e sz by_:Nat} {z:List Value} (hs:dW P S=some (e,sz,by_)) (hz:eI P e=some z) (hl:z.length=sz) (hm:sz≤2 ^ 24) {call:Nat→List AV→Option AV} {ops:Array Oper} {st:St} {T:Nat} {pos:String} {eU:Array Edge} (d:Nat) (x:Operand) :
 cI P call ops ⟨some d,.buildSlice S 1 #[(0,x)],T,pos,eU,none⟩ st=K6 sz (st.ev x) (fun cs=>some ((st.new d (.row e sz 1 cs)).put (some d) (.own d (st.aT d)))) (cI P call ops ⟨some d,.buildSlice S 1 #[(0,x)],T,pos,eU,none⟩ st):=by
 unfold K6;split
 ·rename_i cs h;split
  ·rename_i hc;have h2:((List.range 1).flatMap fun _=>z.map AV.v)=z.map AV.v:=by simp[List.range,List.range.loop]
   have hzl:(z.map AV.v).length=sz:=by simpa using hl
   rw[kZ,hs];simp only[hz,cT,List.toList_toArray,List.all_cons,List.all_nil,h,AV.jD,Bool.and_self,List.map_cons,List.map_nil,gS,AV.cells,hc,Nat.zero_mul,Nat.zero_add,List.take_zero,List.nil_append];rw[h2,if_pos (by simpa using hm),if_pos (by simp[hzl])]
   rw[List.drop_of_length_le (by rw[hzl];exact Nat.le_refl _),List.append_nil]
  ·rfl
 ·rfl
theorem Nz {e sz by_ s g n:Nat} {cs:List AV} (hl:cs.length=n * sz) (hb:(n:Int) * by_≤140737488355328) (hm:(n:Int)≤maxLen):xY e sz by_ (some (.row e sz 0 [])) s g (some (n,cs))=some (some (s,g),.row e sz n cs):=by
 simp only[xY];simp only[Nat.zero_add,true_and,List.nil_append];have oF:n * by_≤140737488355328:=by
  have:((n * by_:Nat):Int)≤140737488355328:=by rw[Int.natCast_mul];exact hb
  omega
 rw[if_pos ⟨hl,oF,by omega⟩]
end Go.Ab
end
section
namespace Go.Ab
open Classical
variable [Ext]
@[congr] theorem aKg {P:Program} {bi:Bool} {c:Code} {s t:St} (h:s=t):wX P bi c s=wX P bi c t:=by rw[h]
theorem K7 {P:Program} {bi:Bool} (c:Operand) (a b:Code) (st:St):wX P bi (.cond c a b) st=onB (st.ev c) fun t=>if t=true then wX P bi a st else wX P bi b st:=by
 cases h:st.ev c with
 | v x =>
   cases x with
   | bool t=>exact QD P c a b st h
   | _ =>
     apply Option.ext
     intro r;rw[gQ];constructor
     ·rintro⟨n,m,h'⟩
      cases m with
      | zero=>simp[uZ] at h'
      | succ m=>simp[uZ,h] at h'
     ·intro h';simp[onB] at h'
 | _ =>
   apply Option.ext
   intro r;rw[gQ];constructor
   ·rintro⟨n,m,h'⟩
    cases m with
    | zero=>simp[uZ] at h'
    | succ m=>simp[uZ,h] at h'
   ·intro h';simp[onB] at h'
section
variable {P:Program} {call:Nat→List AV→Option AV} {inl:Nat→List AV→St→Option (AV × St)} {ops:Array Oper} {st:St}
theorem XX:mH P true call inl ops [] st=some st:=rfl
theorem QV (o:Oper) (l:List Oper):mH P true call inl ops (o :: l) st=cT (gT P true call inl ops o st) (mH P true call inl ops l):=rfl
@[congr] theorem aGe {o:Oper} {s t:St} (h:s=t):gT P true call inl ops o s=gT P true call inl ops o t:=by rw[h]
theorem aA7 {o:Oper} (h:Fw o=none):gT P true call inl ops o st=cI P call ops o st:=by
 unfold gT;rw[if_pos rfl,h]
theorem K8 {d:Option Nat} {g:Nat} {args:Array Operand} {tQ:Array Nat} {T:Nat} {pos:String} {eU:Array Edge} (h:Ext.inl g d=true) :
 gT P true call inl ops ⟨d,.call ⟨.value (.func g),args,tQ⟩,T,pos,eU,none⟩ st=cT (inl g (args.toList.map st.ev) st) fun r=>some ((st.back r.2).put d r.1):=by
 have e:Fw ⟨d,.call ⟨.value (.func g),args,tQ⟩,T,pos,eU,none⟩=some (g,args.toList):=by
  unfold Fw;simp only
  rw[if_pos h]
 unfold gT;rw[if_pos rfl,e];simp only[gv,if_true];cases inl g (args.toList.map st.ev) st<;>rfl
end
theorem bU (st s:St):(st.back s).env=st.env:=rfl
theorem aV (st s:St):(st.back s).heap=s.heap:=rfl
theorem aZ (st s:St):(st.back s).aT=s.aT:=rfl
theorem wZ {P:Program} {fn:Func} {st:St} {e:Ex} {r:ResultVar} {x:AV} (he:e=.ret∨e=.normal) (hr:fn.results.toList=[r]) (h1:lR P st r=some x):aHQ P fn (e,st)=some (x,st):=by
 have h:Bc P fn st=some x:=by
  unfold Bc;rw[hr];exact h1
 rcases he with rfl|rfl<;>simp only[aHQ,h,Option.map_some]
theorem XY {P:Program} {bi:Bool} {b:Code} (Inv:Nat→St→Prop) (Q:Ex→St→Prop)
 (step:∀n st,Inv n st→∃e st',wX P bi b st=some (e,st')∧((e=.normal∧∃m,m<n∧Inv m st')∨(e≠.normal∧Q e st'))):∀n st,Inv n st→∃e st',wX P bi (.loop b) st=some (e,st')∧e≠.normal∧Q e st':=by
 intro n;induction n using Nat.strongRecOn with
 | _ n ih =>
   intro st h;obtain⟨e,s1,h1,h2⟩:=step n st h
   rw[QC,h1];rcases h2 with ⟨rfl,m,hm,hi⟩|⟨gP,hq⟩
   ·exact ih m hm s1 hi
   ·refine⟨e,s1, ?_,gP,hq⟩
    cases e with
    | normal=>exact absurd rfl gP
    | _=>rfl
theorem jH {P:Program} {bi:Bool} {b:Code} {st:St} {β:Type} {k:Ex × St→Option β} {R:β→Prop} (Inv:Nat→St→Prop) (Q:Ex→St→Prop) (n:Nat)
 (step:∀n st,Inv n st→∃e st',wX P bi b st=some (e,st')∧((e=.normal∧∃m,m<n∧Inv m st')∨(e≠.normal∧Q e st')))
 (start:Inv n st) (rest:∀e st',Q e st'→∃r,k (e,st')=some r∧R r):∃r,cT (wX P bi (.loop b) st) k=some r∧R r:=by
 obtain⟨e,s1,h1,h2,h3⟩:=XY Inv Q step n st start
 rw[h1];exact rest e s1 h3
theorem aH0 {P:Program} {bi:Bool} {b:Code} {st st':St} {n:Nat} {Inv:Nat→St→Prop} {Q:Ex→St→Prop} (h:wX P bi b st=some (.normal,st')) (m:Nat) (hm:m<n) (hi:Inv m st') :
 ∃e st',wX P bi b st=some (e,st')∧((e=.normal∧∃m,m<n∧Inv m st')∨(e≠.normal∧Q e st')):=⟨_,_,h,.inl ⟨rfl,m,hm,hi⟩⟩
theorem aD7 {P:Program} {bi:Bool} {b:Code} {st st':St} {e:Ex} {n:Nat} {Inv:Nat→St→Prop} {Q:Ex→St→Prop} (h:wX P bi b st=some (e,st')) (he:e≠.normal) (hq:Q e st') :
 ∃e st',wX P bi b st=some (e,st')∧((e=.normal∧∃m,m<n∧Inv m st')∨(e≠.normal∧Q e st')):=⟨_,_,h,.inr ⟨he,hq⟩⟩
theorem QW {P:Program} {id:Nat} {ops:Array Oper} {d:Bool} {st:St} {l:List (Nat × Nat)} (h:Ext.dyn id ops.size (sI ops)=l) :
 wX P true (.region id ops d) st=cT (mH P true (aB P) (pT P) ops ops.toList st) fun s=>if qJ ops s l then some (.normal,s) else none:=by
 rw[AH];congr 1
 funext s
 rw[h];by_cases hf:qJ ops s l
 ·rw[if_pos hf,if_neg];rintro⟨_,hn⟩
  exact hn hf
 ·rw[if_neg hf,if_pos ⟨rfl,hf⟩]
theorem K9 (ops:Array Oper) (s:St):qJ ops s []=True:=rfl
theorem XZ (ops:Array Oper) (s:St) (p:Nat × Nat) (l:List (Nat × Nat)):qJ ops s (p :: l)=(Ws ops s p∧qJ ops s l):=rfl
def QX (s:St) (x y:Option (List Nat)):Prop:=match x,y with|some aS,some bs=>Lj s aS bs|_,_=>False
theorem L1 (ops:Array Oper) (s:St) (i j:Nat):Ws ops s (i,j)=QX s ((ops[i]?).bind iA) ((ops[j]?).bind iA):=rfl
theorem aA8 (s:St) (a b:Nat):QX s (some [a]) (some [b])=fL (s.env a) (s.env b):=by simp[QX,Lj]
theorem aA9 (s:St) (a a' b:Nat):QX s (some [a,a']) (some [b])=(fL (s.env a) (s.env b)∧fL (s.env a') (s.env b)):=by simp[QX,Lj]
@[congr] theorem aBa {x y x' y':AV} (h:x=x') (h':y=y'):fL x y=fL x' y':=by rw[h,h']
theorem QY (s g o s' g' o':Nat):fL (.ptr s g o) (.ptr s' g' o')=((s,g)≠(s',g')):=rfl
theorem QZ (s g o s' g':Nat):fL (.ptr s g o) (.own s' g')=((s,g)≠(s',g')):=rfl
theorem RA (s g s' g' o':Nat):fL (.own s g) (.ptr s' g' o')=((s,g)≠(s',g')):=rfl
theorem RC (x:Value) (s g o:Nat):fL (.v x) (.ptr s g o)=True:=rfl
theorem RE (x:Value) (s g o:Nat):fL (.ptr s g o) (.v x)=True:=rfl
theorem RF (s g n:Nat) (cs:List AV):fL (.own s g) (.sl n cs)=True:=rfl
theorem RH (s g n:Nat) (cs:List AV):fL (.sl n cs) (.own s g)=True:=rfl
theorem RI (s g o n:Nat) (cs:List AV):fL (.sl n cs) (.ptr s g o)=True:=rfl
theorem RJ (s g o n:Nat) (cs:List AV):fL (.ptr s g o) (.sl n cs)=True:=rfl
theorem RK (n m:Nat) (cs ds:List AV):fL (.sl n cs) (.sl m ds)=True:=rfl
theorem RL (s g:Nat) (x:Value):fL (.own s g) (.v x)=True:=rfl
theorem RM (s g:Nat) (x:Value):fL (.v x) (.own s g)=True:=rfl
theorem RN (x:Value) (n:Nat) (cs:List AV):fL (.v x) (.sl n cs)=True:=rfl
theorem RO (x:Value) (n:Nat) (cs:List AV):fL (.sl n cs) (.v x)=True:=rfl
def aBb (x y:AV):Option AV :=
 match x,y with
 | .v (.int k a),.v (.int _ b)=>some (.v (.int k (if b<a then b else a)))
 | _,_=>none
def aBc (x y:AV):Option AV :=
 match x,y with
 | .v (.int k a),.v (.int _ b)=>some (.v (.int k (if b > a then b else a)))
 | _,_=>none
theorem aBd (k k':IntKind) (a b:Int):aBb (.v (.int k a)) (.v (.int k' b))=some (.v (.int k (if b<a then b else a))):=rfl
theorem aBe (k k':IntKind) (a b:Int):aBc (.v (.int k a)) (.v (.int k' b))=some (.v (.int k (if a<b then b else a))):=rfl
@[congr] theorem aH1 {x y x' y':AV} (h:x=x') (h':y=y'):aBb x y=aBb x' y':=by rw[h,h']
@[congr] theorem aH2 {x y x' y':AV} (h:x=x') (h':y=y'):aBc x y=aBc x' y':=by rw[h,h']
theorem aH3 {P:Program} {call:Nat→List AV→Option AV} {ops:Array Oper} {st:St} {d:Option Nat} {T:Nat} {pos:String} {eU:Array Edge} (x y:Operand) (tQ:Array Nat) :
 cI P call ops ⟨d,.call ⟨.builtin .min,#[x,y],tQ⟩,T,pos,eU,none⟩ st=cT (aBb (st.ev x) (st.ev y)) fun v=>some (st.put d v):=by
 rw[eE];simp only[dT,iT,aBb];cases st.ev x with
 | v a=>cases a with
   | int k a=>cases st.ev y with
     | v b=>cases b<;>rfl
     | _=>rfl
   | _=>rfl
 | _=>rfl
theorem aH4 {P:Program} {call:Nat→List AV→Option AV} {ops:Array Oper} {st:St} {d:Option Nat} {T:Nat} {pos:String} {eU:Array Edge} (x y:Operand) (tQ:Array Nat) :
 cI P call ops ⟨d,.call ⟨.builtin .max,#[x,y],tQ⟩,T,pos,eU,none⟩ st=cT (aBc (st.ev x) (st.ev y)) fun v=>some (st.put d v):=by
 rw[eE];simp only[dT,iT,aBc];cases st.ev x with
 | v a=>cases a with
   | int k a=>cases st.ev y with
     | v b=>cases b<;>rfl
     | _=>rfl
   | _=>rfl
 | _=>rfl
noncomputable def mvE (call:Nat→List AV→Option AV) (g:Nat) (rest:List AV) (s k d c:Nat) (o:Option oB):Option rX :=
 match o with
 | some (.row e sz n cs) =>
   if (∀c∈cs,Flat c)∧∀x∈rest,Flat x then
    match call g (.uniq e sz n cs :: rest) with
    | some (.uniq e' tT n' Ek)=>some { dst:=some d,val:=.own d c,dS:=some (s,k,none),new:=some (d,[.row e' tT n' Ek])}
    | some (.eG [.uniq e' tT n' Ek])=>some { dst:=some d,val:=.eG [],dS:=some (s,k,some (.row e' tT n' Ek))}
    | _=>none
   else none
 | _=>none
theorem YA (call:Nat→List AV→Option AV) (g s k d:Nat) (rest:List AV) (st:St):lQ call g (.own s k :: rest) st (some d)=mvE call g rest s k d (st.aT d) (st.heap s k):=by
 unfold lQ mvE;simp only
 cases st.heap s k with
 | none=>rfl
 | some o =>
   cases o with
   | row e sz n cs =>
     simp only
     by_cases hc:(∀c∈cs,Flat c)∧∀x∈rest,Flat x
     ·simp only[if_pos hc];cases call g (.uniq e sz n cs :: rest) with
      | none=>rfl
      | some r =>
        cases r with
        | eG vs =>
          cases vs with
          | nil=>rfl
          | cons x xs =>
            cases x with
            | uniq _ _ _ _=>cases xs<;>rfl
            | _=>rfl
        | _=>rfl
     ·simp only[if_neg hc]
   | _=>rfl
theorem V5 {call:Nat→List AV→Option AV} {g:Nat} {rest:List AV} {s k d c e sz n e' tT n':Nat} {cs Ek:List AV} (hf:∀c∈cs,Flat c) (hr:∀x∈rest,Flat x) (hc:call g (.uniq e sz n cs :: rest)=some (.uniq e' tT n' Ek)) :
 mvE call g rest s k d c (some (.row e sz n cs))=some { dst:=some d,val:=.own d c,dS:=some (s,k,none),new:=some (d,[.row e' tT n' Ek])}:=by
 unfold mvE;simp only
 rw[if_pos ⟨hf,hr⟩,hc]
@[congr] theorem aKh {call:Nat→List AV→Option AV} {g:Nat} {rest:List AV} {s k d c c':Nat} {o o':Option oB} (h:c=c') (h':o=o'):mvE call g rest s k d c o=mvE call g rest s k d c' o':=by rw[h,h']
theorem VH {call:Nat→List AV→Option AV} {g d:Nat} {rest:List AV} {st:St} {e sz n:Nat} {cs:List AV} (hr:∀x∈rest,Flat x) (hc:call g (.v (.slice none 0 0) :: rest)=some (.uniq e sz n cs)) :
 lQ call g (.v (.slice none 0 0) :: rest) st (some d)=some { dst:=some d,val:=.own d (st.aT d),new:=some (d,[.row e sz n cs])}:=by
 have hf:∀x∈AV.v (.slice none 0 0) :: rest,Flat x:=by
  intro x hx;rcases List.mem_cons.1 hx with rfl|hx
  ·exact .v _
  ·exact hr x hx
 have hnf:¬Flat (.uniq e sz n cs):=by intro h;cases h
 unfold lQ;simp only[if_pos hf];unfold aM;rw[if_pos hf,hc];simp only[cT];unfold jC;rw[if_neg hnf];rfl
theorem V1 {P:Program} {fn:Func} {st:St} {e:Ex} {r:ResultVar} {s g ee sz n:Nat} {cs:List AV} (he:e=.ret∨e=.normal) (hr:fn.results.toList=[r]) (h1:lR P st r=some (.own s g)) (h2:st.heap s g=some (.row ee sz n cs)) (hm:∀c∈cs,iE c) :
 V0 P fn (e,st)=some (.uniq ee sz n cs):=by
 have h:Jj P fn st=some (.uniq ee sz n cs):=by
  unfold Jj;rw[hr];simp only[h1,h2];rw[if_pos hm]
 rcases he with rfl|rfl<;>exact h
theorem mJ (e sz n:Nat) (cs rest:List AV):(St.tJ e sz n cs rest).env 0=.own 0 0:=rfl
theorem oQ (e sz n:Nat) (cs rest:List AV) (t:Nat):(St.tJ e sz n cs rest).env (t+1)=(rest[t]?).getD (.v undef):=rfl
theorem mK (e sz n:Nat) (cs rest:List AV):(St.tJ e sz n cs rest).heap 0 0=some (.row e sz n cs):=rfl
theorem mL (e sz n:Nat) (cs rest:List AV):(St.tJ e sz n cs rest).aT 0=1:=rfl
theorem oR (e sz n:Nat) (cs rest:List AV) (s:Nat) (h:s≠0):(St.tJ e sz n cs rest).aT s=0:=if_neg h
end Go.Ab
end
section
namespace Go.Ab
open Classical
variable [Ext]
theorem Oq {P:Program} {a:Code} {st:St} {β:Type} {k:Ex × St→Option β} {R:β→Prop} (Q:Ex→St→Prop) (h:∃e st',zJ P a st=some (e,st')∧Q e st')
 (rest:∀e st',Q e st'→∃r,k (e,st')=some r∧R r):∃r,cT (zJ P a st) k=some r∧R r:=by
 obtain⟨e,s1,h1,h2⟩:=h
 rw[h1];exact rest e s1 h2
theorem Jt {P:Program} {bi:Bool} {a:Code} {st:St} {β:Type} {k:Ex × St→Option β} {R:β→Prop} (Q:Ex→St→Prop) (h:∃e st',wX P bi a st=some (e,st')∧Q e st')
 (rest:∀e st',Q e st'→∃r,k (e,st')=some r∧R r):∃r,cT (wX P bi a st) k=some r∧R r:=by
 obtain⟨e,s1,h1,h2⟩:=h
 rw[h1];exact rest e s1 h2
theorem gX {β:Type} {x:Option β} {v:β} (h:∃r,x=some r∧r=v):x=some v:=by
 obtain⟨r,h,rfl⟩:=h;exact h
theorem RP {P:Program} {id:Nat} {ops:Array Oper} {d:Bool} {st:St} :
 wX P true (.region id ops d) st=cT (mH P true (aB P) (pT P) ops ops.toList st) fun s=>if qJ ops s (Ext.dyn id ops.size (sI ops)) then some (.normal,s) else none:=QW rfl
theorem YB (o:Oper) (l:List Oper):sI (o :: l).toArray=o.dst:=by simp[sI]
section
variable {P:Program} {call:Nat→List AV→Option AV} {inl:Nat→List AV→St→Option (AV × St)} {ops:Array Oper} {st:St} {d:Option Nat} {T:Nat} {pos:String} {eU:Array Edge} {g:Option (Nat × Bool)}
theorem aD8 (x:Operand):gT P true call inl ops ⟨d,.move x,T,pos,eU,g⟩ st=cI P call ops ⟨d,.move x,T,pos,eU,g⟩ st:=rfl
theorem L2 (x:Operand):gT P true call inl ops ⟨d,.assign x,T,pos,eU,g⟩ st=cI P call ops ⟨d,.assign x,T,pos,eU,g⟩ st:=rfl
theorem aD9 (x y z:Operand):gT P true call inl ops ⟨d,.pick x y z,T,pos,eU,g⟩ st=cI P call ops ⟨d,.pick x y z,T,pos,eU,g⟩ st:=rfl
theorem aBf (S:Nat):gT P true call inl ops ⟨d,.alloc S,T,pos,eU,g⟩ st=cI P call ops ⟨d,.alloc S,T,pos,eU,g⟩ st:=rfl
theorem aH5 (S:Nat) (x:Operand):gT P true call inl ops ⟨d,.box S x,T,pos,eU,g⟩ st=cI P call ops ⟨d,.box S x,T,pos,eU,g⟩ st:=rfl
theorem aBg (S:Nat) (x:Array (Nat × Operand)):gT P true call inl ops ⟨d,.build S x,T,pos,eU,g⟩ st=cI P call ops ⟨d,.build S x,T,pos,eU,g⟩ st:=rfl
theorem DS (S n:Nat) (x:Array (Nat × Operand)):gT P true call inl ops ⟨d,.buildSlice S n x,T,pos,eU,g⟩ st=cI P call ops ⟨d,.buildSlice S n x,T,pos,eU,g⟩ st:=rfl
theorem KB (S:Nat) (x y:Operand):gT P true call inl ops ⟨d,.makeSlice S x y,T,pos,eU,g⟩ st=cI P call ops ⟨d,.makeSlice S x y,T,pos,eU,g⟩ st:=rfl
theorem RQ (f:Fn) (x y:Array Operand):gT P true call inl ops ⟨d,.makeFunc f x y,T,pos,eU,g⟩ st=cI P call ops ⟨d,.makeFunc f x y,T,pos,eU,g⟩ st:=rfl
theorem aEa (S:Nat) (x:Operand):gT P true call inl ops ⟨d,.load S x,T,pos,eU,g⟩ st=cI P call ops ⟨d,.load S x,T,pos,eU,g⟩ st:=rfl
theorem aBh (S:Nat) (x y:Operand):gT P true call inl ops ⟨d,.store S x y,T,pos,eU,g⟩ st=cI P call ops ⟨d,.store S x y,T,pos,eU,g⟩ st:=rfl
theorem aBi (o:BinOp) (S S':Nat) (x y:Operand):gT P true call inl ops ⟨d,.binOp o S x y S',T,pos,eU,g⟩ st=cI P call ops ⟨d,.binOp o S x y S',T,pos,eU,g⟩ st:=rfl
theorem aEb (o:UnOp) (S:Nat) (x:Operand):gT P true call inl ops ⟨d,.unOp o S x,T,pos,eU,g⟩ st=cI P call ops ⟨d,.unOp o S x,T,pos,eU,g⟩ st:=rfl
theorem KC (S f:Nat) (x:Operand):gT P true call inl ops ⟨d,.fieldAddr S x f,T,pos,eU,g⟩ st=cI P call ops ⟨d,.fieldAddr S x f,T,pos,eU,g⟩ st:=rfl
theorem aBj (S f:Nat) (x:Operand):gT P true call inl ops ⟨d,.field S x f,T,pos,eU,g⟩ st=cI P call ops ⟨d,.field S x f,T,pos,eU,g⟩ st:=rfl
theorem KD (S:Nat) (x y:Operand):gT P true call inl ops ⟨d,.indexAddr S x y,T,pos,eU,g⟩ st=cI P call ops ⟨d,.indexAddr S x y,T,pos,eU,g⟩ st:=rfl
theorem YC (S S':Nat) (x:Operand):gT P true call inl ops ⟨d,.convert S S' x,T,pos,eU,g⟩ st=cI P call ops ⟨d,.convert S S' x,T,pos,eU,g⟩ st:=rfl
theorem YD (x:Operand) (i:Nat):gT P true call inl ops ⟨d,.extract x i,T,pos,eU,g⟩ st=cI P call ops ⟨d,.extract x i,T,pos,eU,g⟩ st:=rfl
theorem aBk (S:Nat) (x:Operand) (a b c:Option Operand):gT P true call inl ops ⟨d,.slice S x a b c,T,pos,eU,g⟩ st=cI P call ops ⟨d,.slice S x a b c,T,pos,eU,g⟩ st:=rfl
theorem YE (b:Builtin) (x:Array Operand) (y:Array Nat):gT P true call inl ops ⟨d,.call ⟨.builtin b,x,y⟩,T,pos,eU,g⟩ st=cI P call ops ⟨d,.call ⟨.builtin b,x,y⟩,T,pos,eU,g⟩ st:=rfl
theorem aH6 (t:Nat) (x:Array Operand) (y:Array Nat):gT P true call inl ops ⟨d,.call ⟨.value (.tmp t),x,y⟩,T,pos,eU,g⟩ st=cI P call ops ⟨d,.call ⟨.value (.tmp t),x,y⟩,T,pos,eU,g⟩ st:=rfl
theorem aEc (f:Nat) (x:Array Operand) (y:Array Nat) (h:Ext.inl f d=false):gT P true call inl ops ⟨d,.call ⟨.value (.func f),x,y⟩,T,pos,eU,g⟩ st=cI P call ops ⟨d,.call ⟨.value (.func f),x,y⟩,T,pos,eU,g⟩ st:=aA7 (by unfold Fw;simp[h])
theorem VP (f:Nat) (x:Array Operand) (y:Array Nat) (h:Ext.inl f d=true):gT P true call inl ops ⟨d,.call ⟨.value (.func f),x,y⟩,T,pos,eU,none⟩ st=cT (inl f (x.toList.map st.ev) st) fun r=>some ((st.back r.2).put d r.1):=K8 h
theorem aEd (S a:Nat):iA ⟨d,.load S (.tmp a),T,pos,eU,none⟩=some [a]:=rfl
theorem aBl (S a:Nat) (x:Operand):iA ⟨d,.store S (.tmp a) x,T,pos,eU,none⟩=some [a]:=rfl
theorem aBm (S a:Nat) (x:Operand):iA ⟨d,.indexAddr S (.tmp a) x,T,pos,eU,none⟩=some [a]:=rfl
theorem aBn (S a:Nat) (x y z:Option Operand):iA ⟨d,.slice S (.tmp a) x y z,T,pos,eU,none⟩=some [a]:=rfl
theorem aH7 (a:Nat) (y:Array Nat):iA ⟨d,.call ⟨.builtin .len,#[.tmp a],y⟩,T,pos,eU,none⟩=some [a]:=rfl
theorem L3 (a b:Nat) (y:Array Nat):iA ⟨d,.call ⟨.builtin .append,#[.tmp a,.tmp b],y⟩,T,pos,eU,none⟩=some [a,b]:=rfl
theorem aBo (f a:Nat) (b:Operand) (y:Array Nat) (h:Ext.mv f=true):iA ⟨d,.call ⟨.value (.func f),#[.tmp a,b],y⟩,T,pos,eU,none⟩=some [a]:=by simp[iA,h]
end
end Go.Ab
end
