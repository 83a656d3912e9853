/-
  Part 5 of the proof: an evaluator of programs, its soundness, and what functions of this program compute.
-/
import Derived.Test.YtmcjkemalibacaaGreatK4
set_option linter.all false
set_option maxRecDepth 20000
set_option maxHeartbeats 40000000
section
namespace Go.Ab
open Classical
variable [Ext]
def rd (cs:List AV) (o k:Nat):List AV:=(cs.drop o).take k
def onB {α:Type} (x:AV) (k:Bool→Option α):Option α :=
 match x with
 | .v (.bool b)=>k b
 | _=>none
section
variable (P:Program)
def fD (T:Nat) (cs:List AV) (o:Nat):Option AV :=
 match fP P T with
 | some (true,k)=>if 0<k∧k≤cs.length-o then some (.agg (rd cs o k)) else none
 | some (false,_)=>cs[o]?
 | none=>none
def Fs (st:St) (T:Nat) (x:AV):Option AV :=
 match x with
 | .ip cs o=>fD P T cs o
 | .ptr s g o =>
   match st.heap s g with
   | some (.cells cs)=>fD P T cs o
   | some (.row _ _ _ cs)=>fD P T cs o
   | _=>none
 | _=>none
theorem IF (T:Nat) (cs:List AV) (o:Nat):xO P T (cs.drop o)=fD P T cs o:=by
 unfold xO fD;cases fP P T with
 | none=>rfl
 | some bk =>
   obtain⟨b,k⟩:=bk
   cases b
   ·simp
   ·simp[rd]
theorem Ow (st:St) (T:Nat) (x:AV):cN (qI st x) (xO P T)=Fs P st T x:=by
 cases x<;>simp only[qI,cN,Fs,IF]
 split<;>rename_i h
 ·split at h
  ·rename_i h';cases h;rw[h'];exact IF P T _ _
  ·rename_i h';cases h;rw[h'];exact IF P T _ _
  ·cases h
 ·split at h
  ·cases h
  ·cases h
  ·rename_i h1 h2;split<;>first|rfl|(rename_i h';first|exact absurd h' (h1 _)|exact absurd h' (h2 _ _ _ _))
def Vi (st:St) (T:Nat) (a x:AV):Option St:=(pT P st T a x).map fun u=>st.iY u.1 u.2.1 (some u.2.2)
variable {P}
variable {call:Nat→List AV→Option AV} {ops:Array Oper} {st:St} {d:Option Nat} {T:Nat} {pos:String} {eP:Array Edge}
@[congr] theorem aIY {α β:Type} {x y:Option α} {f:α→Option β} (h:x=y):cN x f=cN y f:=by rw[h]
@[congr] theorem aIZ {α:Type} {x y:AV} {k:Bool→Option α} (h:x=y):onB x k=onB y k:=by rw[h]
@[congr] theorem aFe {l:List Oper} {s t:St} (h:s=t):Ms P call ops l s=Ms P call ops l t:=by rw[h]
@[congr] theorem aGL {o:Oper} {s t:St} (h:s=t):cF P call ops o s=cF P call ops o t:=by rw[h]
@[congr] theorem aI0 {c:Code} {s t:St} (h:s=t):yX P c s=yX P c t:=by rw[h]
theorem cZ {α β:Type} (a:α) (f:α→Option β):cN (some a) f=f a:=rfl
theorem MH {α β:Type} (f:α→Option β):cN none f=none:=rfl
theorem Z0 {α:Type} (b:Bool) (k:Bool→Option α):onB (.v (.bool b)) k=k b:=rfl
theorem E4:Ms P call ops [] st=some st:=rfl
theorem VN (o:Oper) (l:List Oper):Ms P call ops (o :: l) st=cN (cF P call ops o st) (Ms P call ops l):=rfl
theorem dT (op:Op):cF P call ops ⟨d,op,T,pos,eP,none⟩ st=(dI P call ⟨d,op,T,pos,eP,none⟩ st).map fun e=>e.apply st:=rfl
theorem aCM (x:Operand):cF P call ops ⟨d,.move x,T,pos,eP,none⟩ st=some (st.put d (st.ev x)):=rfl
theorem E5 (x:Operand):cF P call ops ⟨d,.assign x,T,pos,eP,none⟩ st=some (st.put d (st.ev x)):=rfl
theorem aCN (c a b:Operand):cF P call ops ⟨d,.pick c a b,T,pos,eP,none⟩ st=onB (st.ev c) fun t=>some (st.put d (if t=true then st.ev a else st.ev b)):=by
 rw[dT];simp only[dI,iV];cases st.ev c<;>try rfl
 rename_i x;cases x<;>rfl
theorem Z1 (op:BinOp) (S:Nat) (x y:Operand) (yT:Nat):cF P call ops ⟨d,.binOp op S x y yT,T,pos,eP,none⟩ st=cN (gD P op S (st.ev x) (st.ev y)) fun v=>some (st.put d v):=by
 rw[dT];simp only[dI,iV];cases gD P op S (st.ev x) (st.ev y)<;>rfl
theorem aCO (op:UnOp) (S:Nat) (x:Operand):cF P call ops ⟨d,.unOp op S x,T,pos,eP,none⟩ st=cN (unA op (st.ev x)) fun v=>some (st.put d v):=by
 rw[dT];simp only[dI,iV];cases unA op (st.ev x)<;>rfl
def OX (P:Program) (src dst:Nat) (x:AV):Option AV :=
 match x,intKind P dst,intKind P src with
 | .v (.int _ n),some k,some _=>some (.v (.int k (k.wrap n)))
 | _,_,_=>none
theorem VO (src dst:Nat) (x:Operand):cF P call ops ⟨d,.convert src dst x,T,pos,eP,none⟩ st=cN (OX P src dst (st.ev x)) fun v=>some (st.put d v):=by
 rw[dT];simp only[dI,iV];show Option.map _ (Option.map _ (OX P src dst (st.ev x)))=_
 cases OX P src dst (st.ev x)<;>rfl
theorem Z2 (S:Nat) (x:Operand) (f:Nat):cF P call ops ⟨d,.field S x f,T,pos,eP,none⟩ st=cN (Ks P S f (st.ev x)) fun v=>some (st.put d v):=by
 rw[dT];simp only[dI,iV];cases Ks P S f (st.ev x)<;>rfl
theorem VP {S f off k:Nat} {cs:List AV} (h:fieldInfo P S f=some (off,false,k)):Ks P S f (.agg cs)=cs[off]?:=by
 simp only[Ks,h]
theorem IG (S:Nat) (x:Operand) (f:Nat):cF P call ops ⟨d,.fieldAddr S x f,T,pos,eP,none⟩ st=cN (aV P S f) fun k=>cN (vA (st.ev x) k) fun v=>some (st.put d v):=by
 rw[dT];simp only[dI,iV];cases aV P S f with
 | none=>rfl
 | some k =>
   simp only[cN];cases vA (st.ev x) k<;>rfl
theorem II (S:Nat) (x i:Operand):cF P call ops ⟨d,.indexAddr S x i,T,pos,eP,none⟩ st=cN (bF P st S (st.ev x) (st.ev i)) fun v=>some (st.put d v):=by
 rw[dT];simp only[dI,iV];cases bF P st S (st.ev x) (st.ev i)<;>rfl
theorem aCP (S:Nat) (x:Operand):cF P call ops ⟨d,.load S x,T,pos,eP,none⟩ st=cN (Fs P st S (st.ev x)) fun v=>some (st.put d v):=by
 rw[dT];simp only[dI,iV,Ow];cases Fs P st S (st.ev x)<;>rfl
def eB (x:AV) (i:Nat):Option AV :=
 match x with
 | .eN vs=>vs[i]?
 | _=>none
theorem VQ (t:Operand) (i:Nat):cF P call ops ⟨d,.extract t i,T,pos,eP,none⟩ st=cN (eB (st.ev t) i) fun v=>some (st.put d v):=by
 rw[dT];simp only[dI,iV];show Option.map _ (Option.map _ (eB (st.ev t) i))=_
 cases eB (st.ev t) i<;>rfl
theorem Z3 (S:Nat) (parts:Array (Nat × Operand)):cF P call ops ⟨d,.build S parts,T,pos,eP,none⟩ st=cN (iU P st S parts.toList) fun v=>some (st.put d v):=by
 rw[dT];simp only[dI,iV];cases iU P st S parts.toList<;>rfl
theorem Z4 (S:Nat) (x:Operand) (lo hi:Option Operand):cF P call ops ⟨d,.slice S x lo hi none,T,pos,eP,none⟩ st=cN (cW P st S (st.ev x) lo hi) fun v=>some (st.put d v):=by
 rw[dT];simp only[dI,iV];cases cW P st S (st.ev x) lo hi<;>rfl
theorem Z5 (S d:Nat):cF P call ops ⟨some d,.alloc S,T,pos,eP,none⟩ st=cN (dZ P S) fun z=>some ((st.new d (.cells (z.map .v))).put (some d) (.ptr d (st.aP d) 0)):=by
 rw[dT];simp only[dI,cN];cases dZ P S with
 | none=>rfl
 | some z=>simp only[Option.map_some,lL]
theorem aGM (S d:Nat) (x:Operand):cF P call ops ⟨some d,.box S x,T,pos,eP,none⟩ st=if (st.ev x).jD=true then some ((st.new d (.cells (st.ev x).cells)).put (some d) (.ptr d (st.aP d) 0)) else none:=by
 rw[dT];simp only[dI,cN];split
 ·simp only[Option.map_some,lL]
 ·rfl
theorem Z6 (S:Nat) (x y:Operand):cF P call ops ⟨d,.store S x y,T,pos,eP,none⟩ st=cN (Vi P st S (st.ev x) (st.ev y)) fun s=>some (s.put d (.v undef)):=by
 rw[dT];simp only[dI,Vi];cases pT P st S (st.ev x) (st.ev y)<;>rfl
theorem aCQ (g:Nat) (args:Array Operand) (tH:Array Nat) (h:Ext.mv g=false) (h2:Ext.eat g d=false):cF P call ops ⟨d,.call ⟨.value (.func g),args,tH⟩,T,pos,eP,none⟩ st=cN (aL call g (args.toList.map st.ev) st d) fun e=>some (e.apply st):=by
 rw[dT];simp only[dI,iJ,oA,h,h2,Bool.false_eq_true,if_false];cases aL call g (args.toList.map st.ev) st d<;>rfl
theorem Z7 (g:Nat) (args:Array Operand) (tH:Array Nat) (h:Ext.mv g=true):cF P call ops ⟨d,.call ⟨.value (.func g),args,tH⟩,T,pos,eP,none⟩ st=cN (lN call g (args.toList.map st.ev) st d) fun e=>some (e.apply st):=by
 rw[dT];simp only[dI,iJ,oA,h,if_true];cases lN call g (args.toList.map st.ev) st d<;>rfl
theorem VR (g:Nat) (args:Array Operand) (tH:Array Nat) (h:Ext.mv g=false) (h2:Ext.eat g d=true):cF P call ops ⟨d,.call ⟨.value (.func g),args,tH⟩,T,pos,eP,none⟩ st=cN (fF call g (args.toList.map st.ev) st d) fun e=>some (e.apply st):=by
 rw[dT];simp only[dI,iJ,oA,h,h2,Bool.false_eq_true,if_false,if_true];cases fF call g (args.toList.map st.ev) st d<;>rfl
theorem Z9 (t:Nat) (args:Array Operand) (tH:Array Nat) {g:Nat} {nN:List AV} (h:st.env t=.uO g nN):cF P call ops ⟨d,.call ⟨.value (.tmp t),args,tH⟩,T,pos,eP,none⟩ st=cN (aL call g (args.toList.map st.ev++nN) st d) fun e=>some (e.apply st):=by
 rw[dT];simp only[dI,iJ,oA,St.ev,h,FJ];show Option.map _ (aL call g (args.toList.map st.ev++nN) st d)=cN (aL call g (args.toList.map st.ev++nN) st d) _
 cases aL call g (args.toList.map st.ev++nN) st d<;>rfl
theorem E6 (S:Nat) (x:Operand) (lo:Option Operand) (hi mx:Operand):cF P call ops ⟨d,.slice S x lo (some hi) (some mx),T,pos,eP,none⟩ st=cN (vX P st S (st.ev x) lo hi mx) fun v=>some (st.put d v):=by
 rw[dT];simp only[dI,iV];cases vX P st S (st.ev x) lo hi mx<;>rfl
theorem E7 (S:Nat) (x i:Operand) (ok:Bool):cF P call ops ⟨d,.lookup S x i ok,T,pos,eP,none⟩ st=cN (Sm P st S (st.ev x) (st.ev i) ok) fun v=>some (st.put d v):=by
 rw[dT];simp only[dI,iV];cases Sm P st S (st.ev x) (st.ev i) ok<;>rfl
theorem VS (S d:Nat):cF P call ops ⟨some d,.makeMap S none,T,pos,eP,none⟩ st=some ((st.new d (.map [])).put (some d) (.mp d (st.aP d))):=by
 rw[dT];simp only[dI,cN,Option.map_some,lL]
theorem IJ (S:Nat) (m x y:Operand):cF P call ops ⟨d,.mapUpdate S m x y,T,pos,eP,none⟩ st=cN (tQ P st S (st.ev m) (st.ev x) (st.ev y)) fun u=>some ((st.iY u.1 u.2.1 (some u.2.2)).put d (.v undef)):=by
 rw[dT];simp only[dI];cases tQ P st S (st.ev m) (st.ev x) (st.ev y)<;>rfl
theorem OY (g:Nat) (nN:Array Operand):cF P call ops ⟨d,.makeFunc (.func g) #[] nN,T,pos,eP,none⟩ st=some (st.put d (.uO g (nN.toList.map st.ev))):=by
 rw[dT];simp only[dI,iV,if_true,Option.map_some];rfl
theorem lB (S n d:Nat) (parts:Array (Nat × Operand)):cF P call ops ⟨some d,.buildSlice S n parts,T,pos,eP,none⟩ st=cN (dM P S) fun t=>cN (dZ P t.1) fun z =>
 if (0<n∨parts=#[])∧n * t.2.1≤2 ^ 24∧(parts.toList.all fun p=>(st.ev p.2).jD)=true then
  cN (gT (fun i=>some (i * t.2.1,t.2.1)) ((List.range n).flatMap fun _=>z.map .v) (parts.toList.map fun p=>(p.1,st.ev p.2))) fun cs =>
   some ((st.new d (.row t.1 t.2.1 n cs)).put (some d) (.own d (st.aP d)))
 else none:=by
 rw[dT];simp only[dI,cN];cases dM P S with
 | none=>rfl
 | some t =>
   simp only
   cases dZ P t.1 with
   | none=>rfl
   | some z =>
     simp only
     split
     ·cases gT (fun i=>some (i * t.2.1,t.2.1)) ((List.range n).flatMap fun _=>z.map .v) (parts.toList.map fun p=>(p.1,st.ev p.2)) with
      | none=>rfl
      | some cs=>simp only[Option.map_some,lL]
     ·rfl
theorem IK (S d:Nat) (l c:Operand) {n:Nat} (hl:st.ev l=.v (.int .i64 n)) (hc:st.ev c=.v (.int .i64 n)):cF P call ops ⟨some d,.makeSlice S l c,T,pos,eP,none⟩ st=cN (dM P S) fun t=>cN (dZ P t.1) fun z =>
 if (n:Int) * t.2.2≤140737488355328∧(n:Int)≤maxLen then some ((st.new d (.row t.1 t.2.1 n ((List.range n).flatMap fun _=>z.map .v))).put (some d) (.own d (st.aP d))) else none:=by
 rw[dT];simp only[dI,cN,hl,hc];cases dM P S with
 | none=>rfl
 | some t =>
   simp only
   cases dZ P t.1 with
   | none=>rfl
   | some z =>
     simp only[Int.toNat_natCast,Int.natCast_nonneg,true_and];split
     ·simp only[Option.map_some,lL]
     ·rfl
theorem aGN (x:Operand) (S:Nat) (tH:Array Nat) (h:tH=#[S]):cF P call ops ⟨d,.call ⟨.builtin .len,#[x],tH⟩,T,pos,eP,none⟩ st=cN (dM P S) fun _=>cN (aR st (st.ev x)) fun nc=>some (st.put d (.v (.int .i64 nc.1))):=by
 subst h;rw[dT];simp only[dI,iJ];cases dM P S with
 | none=>rfl
 | some t=>cases aR st (st.ev x) with
   | none=>rfl
   | some nc=>cases nc;rfl
theorem aCR (x:Operand) (S:Nat):cF P call ops ⟨d,.call ⟨.builtin .len,#[x],#[S]⟩,T,pos,eP,none⟩ st=cN (dM P S) fun _=>cN (aR st (st.ev x)) fun nc=>some (st.put d (.v (.int .i64 nc.1))):=aGN x S #[S] rfl
theorem FD (s x:Operand) (S d:Nat) (tH:Array Nat) (h:tH=#[S,S]) (hv:Ext.va S d=false) (hp:¬(Ext.pa S d=true∧Gp P st S (st.ev s) (st.ev x))):cF P call ops ⟨some d,.call ⟨.builtin .append,#[s,x],tH⟩,T,pos,eP,none⟩ st=cN (dE P st S (st.ev s) (st.ev x)) fun ur =>
 some (((match ur.1 with|some p=>st.iY p.1 p.2 none|none=>st).new d ur.2).put (some d) (.own d (st.aP d))):=by
 subst h;rw[dT];simp only[dI,iJ,cN,if_true,hv,Bool.false_eq_true,if_false];rw[if_neg hp];cases dE P st S (st.ev s) (st.ev x) with
 | none=>rfl
 | some ur =>
   obtain⟨u,r⟩:=ur
   cases u with
   | none=>simp only[Option.map_some,Option.map_none,lL]
   | some p=>simp only[Option.map_some,Ri]
theorem VT (s x:Operand) (S d:Nat) (hv:Ext.va S d=false) (hp:Ext.pa S d=false):cF P call ops ⟨some d,.call ⟨.builtin .append,#[s,x],#[S,S]⟩,T,pos,eP,none⟩ st=cN (dE P st S (st.ev s) (st.ev x)) fun ur =>
 some (((match ur.1 with|some p=>st.iY p.1 p.2 none|none=>st).new d ur.2).put (some d) (.own d (st.aP d))):=FD s x S d #[S,S] rfl hv (by rw[hp];exact fun h=>absurd h.1 (by simp))
theorem aAa (s x:Operand) (S d:Nat) (hv:Ext.va S d=false) (hp:Ext.pa S d=true) (hn:¬(st.ev s=.v (.slice none 0 0)∧(aR st (st.ev x)).map Prod.fst=some 0)):cF P call ops ⟨some d,.call ⟨.builtin .append,#[s,x],#[S,S]⟩,T,pos,eP,none⟩ st=cN (dE P st S (st.ev s) (st.ev x)) fun ur =>
 some (((match ur.1 with|some p=>st.iY p.1 p.2 none|none=>st).new d ur.2).put (some d) (.own d (st.aP d))):=FD s x S d #[S,S] rfl hv (fun h=>hn ⟨h.2.1,h.2.2.2⟩)
theorem aAb (s x:Operand) (S d:Nat) (hv:Ext.va S d=false) (hp:Ext.pa S d=true) (hi:(dM P S).isSome=true) (h1:st.ev s=.v (.slice none 0 0)) (h2:(aR st (st.ev x)).map Prod.fst=some 0):cF P call ops ⟨some d,.call ⟨.builtin .append,#[s,x],#[S,S]⟩,T,pos,eP,none⟩ st=some (st.put (some d) (.v (.slice none 0 0))):=by
 rw[dT];simp only[dI,iJ,cN,if_true,hv,Bool.false_eq_true,if_false];rw[if_pos ⟨hp,h1,hi,h2⟩];simp only[rC.apply];rfl
theorem UJ (s x:Operand) (S d:Nat) (hv:Ext.va S d=true):cF P call ops ⟨some d,.call ⟨.builtin .append,#[s,x],#[S,S]⟩,T,pos,eP,none⟩ st=cN (kY P st S (st.ev s) (st.ev x)) fun u =>
 some ((st.iY u.1 u.2.1 (some u.2.2.1)).put (some d) (.vw u.1 u.2.1 0 u.2.2.2)):=by
 rw[dT];simp only[dI,iJ,cN,if_true,hv];cases kY P st S (st.ev s) (st.ev x) with
 | none=>rfl
 | some u=>rfl
theorem NG (x:Operand) (S:Nat):cF P call ops ⟨d,.call ⟨.builtin .clear,#[x],#[S]⟩,T,pos,eP,none⟩ st=cN (rV P st S (st.ev x)) fun u =>
 some ((match u with|some p=>st.iY p.1 p.2.1 (some p.2.2)|none=>st).put d (.eN [])):=by
 rw[dT];simp only[dI,iJ];cases rV P st S (st.ev x) with
 | none=>rfl
 | some u=>cases u<;>rfl
theorem aAc (x:Value):st.ev (.const x)=.v x:=rfl
theorem aGO (t:Nat):st.ev (.tmp t)=st.env t:=rfl
theorem aCS (t d:Nat) (x:AV):(st.put (some d) x).env t=if t=d then x else st.env t:=rfl
theorem IL (t:Nat) (x:AV):(st.put none x).env t=st.env t:=rfl
theorem aCT (t d:Nat) (e:nM):(st.new d e).env t=st.env t:=rfl
theorem aAd (t s g:Nat) (e:Option nM):(st.iY s g e).env t=st.env t:=rfl
theorem aCU (t:Nat) (d:Option Nat) (x:AV):(st.put d x).aP t=st.aP t:=by cases d<;>rfl
theorem aCV (t d:Nat) (e:nM):(st.new d e).aP t=if t=d then st.aP d+1 else st.aP t:=rfl
theorem aAe (t s g:Nat) (e:Option nM):(st.iY s g e).aP t=st.aP t:=rfl
theorem Xw (s g:Nat) (d:Option Nat) (x:AV):(st.put d x).heap s g=st.heap s g:=by cases d<;>rfl
theorem Xx (s g d:Nat) (e:nM):(st.new d e).heap s g=if s=d∧g=st.aP d then some e else st.heap s g:=rfl
theorem yP (s g s0 g0:Nat) (e:Option nM):(st.iY s0 g0 e).heap s g=if s=s0∧g=g0 then e else st.heap s g:=rfl
theorem aAf (t:Nat) (xs:List AV):(St.init xs).env t=(xs[t]?).getD (.v undef):=rfl
theorem aAg (t:Nat) (xs:List AV):(St.init xs).aP t=0:=rfl
theorem E9 (s g:Nat) (xs:List AV):(St.init xs).heap s g=none:=rfl
theorem aAh (x:AV):st.put none x=st:=rfl
theorem OZ (d:Option Nat) (x:AV):({ dst:=d,val:=x }:rC).apply st=st.put d x:=rfl
theorem F0 (d:Option Nat) (x:AV) (n:Nat) (e:nM):({ dst:=d,val:=x,new:=some (n,[e])}:rC).apply st=(st.new n e).put d x:=lL d x n e
theorem F1 (d:Option Nat) (x:AV) (s g:Nat) (e:Option nM):({ dst:=d,val:=x,dK:=some (s,g,e)}:rC).apply st=(st.iY s g e).put d x:=rfl
theorem IM (d:Option Nat) (x:AV) (s g n:Nat) (z:Option nM) (e:nM):({ dst:=d,val:=x,dK:=some (s,g,z),new:=some (n,[e])}:rC).apply st=((st.iY s g z).new n e).put d x:=Ri d x s g n z e
theorem bK {g:Nat} {args:List AV} {r:AV} (hf:∀x∈args,Flat x) (h:call g args=some r) (hr:Flat r):aL call g args st d=some { dst:=d,val:=r }:=by
 unfold aL;rw[if_pos hf,h];simp only[cN,jA,if_pos hr]
theorem jF {g:Nat} {args:List AV} {d e sz n:Nat} {cs:List AV} (hf:∀x∈args,Flat x) (h:call g args=some (.uniq e sz n cs)) :
 aL call g args st (some d)=some { dst:=some d,val:=.own d (st.aP d),new:=some (d,[.row e sz n cs])}:=by
 unfold aL;rw[if_pos hf,h];have:¬Flat (.uniq e sz n cs):=by intro h;cases h
 simp only[cN,jA,if_neg this];rfl
end
end Go.Ab
end
section
namespace Go.Ab
open Classical
abbrev cK:=Vector Int 32
abbrev qR:=Vector Int 4
def sF (x:Int):List AV:=[.v (.int .u64 x)]
def pV (x:Int):List AV:=[.v (.int .i64 x)]
def tJ (x:Bool):List AV:=[.v (.bool x)]
def aX (r:cK):List AV:=r.toList.map fun x=>.v (.int .u8 x)
def gH (r:qR):List AV:=r.toList.map fun x=>.v (.int .u64 x)
@[simp] theorem aW (x:Int):(sF x).length=1:=rfl
@[simp] theorem bC (x:Int):(pV x).length=1:=rfl
@[simp] theorem gX (x:Bool):(tJ x).length=1:=rfl
@[simp] theorem aM (r:cK):(aX r).length=32:=by simp[aX]
@[simp] theorem dU (r:qR):(gH r).length=4:=by simp[gH]
theorem eD (x:Int):∀y∈sF x,Flat y:=by intro y hy;simp[sF] at hy;subst hy;exact .v _
theorem mK (x:Int):∀y∈pV x,Flat y:=by intro y hy;simp[pV] at hy;subst hy;exact .v _
theorem mO (x:Bool):∀y∈tJ x,Flat y:=by intro y hy;simp[tJ] at hy;subst hy;exact .v _
theorem dJ (x:cK):∀y∈aX x,Flat y:=by intro y hy;obtain⟨z,_,rfl⟩:=List.mem_map.1 hy;exact .v _
theorem iO (x:qR):∀y∈gH x,Flat y:=by intro y hy;obtain⟨z,_,rfl⟩:=List.mem_map.1 hy;exact .v _
theorem Hl (x:Int):∀y∈sF x,dY y:=by intro y hy;simp[sF] at hy;subst hy;exact .v _
theorem Dg (x:Int):∀y∈pV x,dY y:=by intro y hy;simp[pV] at hy;subst hy;exact .v _
theorem C3 (x:Bool):∀y∈tJ x,dY y:=by intro y hy;simp[tJ] at hy;subst hy;exact .v _
theorem yO (x:cK):∀y∈aX x,dY y:=by intro y hy;obtain⟨z,_,rfl⟩:=List.mem_map.1 hy;exact .v _
theorem C4 (x:qR):∀y∈gH x,dY y:=by intro y hy;obtain⟨z,_,rfl⟩:=List.mem_map.1 hy;exact .v _
theorem Lw {α:Type} (c:α→List AV) (z:Nat) (hz:∀a,(c a).length=z):∀(l:List α) (i:Nat) (h:i<l.length),rd (l.flatMap c) (i * z) z=c l[i]
 | [],i,h=>by simp at h
 | a :: l,0,h=>by simp[rd,List.take_append,hz,List.take_of_length_le]
 | a :: l,i+1,h=>by
   have ih:=Lw c z hz l i (by simpa using h)
   simp only[List.flatMap_cons,List.getElem_cons_succ];rw[← ih];simp only[rd];rw[List.drop_append,List.drop_of_length_le (by rw[hz,Nat.succ_mul];omega),hz,Nat.succ_mul]
   simp
theorem oP (a b:cK):aX a=aX b↔a=b:=by
 constructor
 ·intro h;unfold aX at h;have h2:a.toList=b.toList:=by
   have:=congrArg (List.map (fun x:AV=>match x with|.v (.int _ n)=>n|_=>0)) h
   simpa [List.map_map,Function.comp_def] using this
  exact Vector.toList_inj.1 h2
 ·intro h;rw[h]
theorem Rn (a b:qR):gH a=gH b↔a=b:=by
 constructor
 ·intro h;unfold gH at h;have h2:a.toList=b.toList:=by
   have:=congrArg (List.map (fun x:AV=>match x with|.v (.int _ n)=>n|_=>0)) h
   simpa [List.map_map,Function.comp_def] using this
  exact Vector.toList_inj.1 h2
 ·intro h;rw[h]
def dK (cs:List AV) (o:Nat) (xs:List AV) (e:Nat):List AV:=cs.take o++xs++cs.drop e
section
variable {a b xs:List AV} {n o o' e e' k:Nat}
theorem bI (h:xs=b):a++xs=a++b:=by rw[h]
theorem Fc (h:xs=b):xs++a=b++a:=by rw[h]
theorem aZ (h:o'=o+n) (ha:a.length=n):rd (a++b) o' k=rd b o k:=by
 subst h;subst ha;simp only[rd];rw[List.drop_append,List.drop_of_length_le (by omega),List.nil_append,show o+a.length-a.length=o by omega]
theorem gI (ha:a.length=n):rd (a++b) 0 n=a:=by
 subst ha;simp[rd]
theorem iZ (ha:a.length=n):rd a 0 n=a:=by
 subst ha;simp[rd]
theorem qE (h:o+k≤a.length):rd (a++b) o k=rd a o k:=by
 simp only[rd];rw[List.drop_append,List.take_append,show o-a.length=0 by omega,show k-(a.drop o).length=0 by simp;omega]
 simp
theorem aG (h:o'=o+n) (ha:a.length=n):(a++b)[o']? = b[o]?:=by
 subst h;subst ha;rw[List.getElem?_append_right (by omega),show o+a.length-a.length=o by omega]
theorem eM (h:o<a.length):(a++b)[o]? = a[o]?:=List.getElem?_append_left h
theorem aD (h:o'=o+n) (h':e'=e+n) (ha:a.length=n):dK (a++b) o' xs e'=a++dK b o xs e:=by
 subst h;subst h';subst ha;simp only[dK];rw[List.take_append,List.take_of_length_le (by omega),List.drop_append,List.drop_of_length_le (by omega),show o+a.length-a.length=o by omega,show e+a.length-a.length=e by omega]
 simp
theorem cJ (ha:a.length=n):dK (a++b) 0 xs n=xs++b:=by
 subst ha;simp[dK]
theorem eI (ha:a.length=n):dK a 0 xs n=xs:=by
 subst ha;simp[dK]
theorem uH (h:o≤e∧e≤a.length):dK (a++b) o xs e=dK a o xs e++b:=by
 simp only[dK];rw[List.take_append,List.drop_append,show o-a.length=0 by omega,show e-a.length=0 by omega]
 simp
end
theorem Dh (a b:Int):sF a=sF b↔a=b:=by simp[sF]
theorem uI (a b:Int):pV a=pV b↔a=b:=by simp[pV]
theorem FE (a b:Bool):tJ a=tJ b↔a=b:=by simp[tJ]
def dL:cK:=Vector.replicate 32 0
def FF:qR:=Vector.replicate 4 0
def tE:List Value:=List.replicate 32 (.int .u8 0)
def Zb:List Value:=List.replicate 4 (.int .u64 0)
theorem jP:tE.map AV.v=aX dL:=by simp[tE,aX,dL]
theorem jQ:Zb.map AV.v=gH FF:=by simp[Zb,gH,FF]
def Ft:List Bool:=List.replicate 32 true
def ZK:List Bool:=List.replicate 4 true
theorem eU {l m:List Bool}:∀ {xs ys xs' ys':List AV},iC l xs ys→iC m xs' ys'→iC (l++m) (xs++xs') (ys++ys'):=by
 induction l with
 | nil=>intro xs ys xs' ys' h h';cases xs<;>cases ys<;>first|exact h'|exact h.elim
 | cons b l ih =>
   intro xs ys xs' ys' h h'
   cases b
   ·cases xs with
    | nil=>exact h.elim
    | cons x xs=>cases ys with
      | nil=>unfold iC at h;split at h<;>first|exact h.elim|simp_all
      | cons y ys =>
        unfold iC at h;split at h<;>simp_all [iC]
   ·cases xs with
    | nil=>exact h.elim
    | cons x xs=>cases ys with
      | nil=>unfold iC at h;split at h<;>first|exact h.elim|simp_all
      | cons y ys =>
        unfold iC at h;split at h<;>simp_all [iC]
theorem Lx (k:IntKind):∀(a b:List Int),a.length=b.length→iC (List.replicate a.length true) (a.map fun x=>.v (.int k x)) (b.map fun x=>.v (.int k x))
 | [],[],_=>trivial
 | [],_ :: _,h=>by simp at h
 | _ :: _,[],h=>by simp at h
 | a :: l,b :: m,h=>⟨rfl,Lx k l m (by simpa using h)⟩
theorem mQ (a b:cK):iC Ft (aX a) (aX b):=by
 have:=Lx .u8 a.toList b.toList (by simp)
 rw[Vector.length_toList] at this;exact this
theorem Ly (a b:qR):iC ZK (gH a) (gH b):=by
 have:=Lx .u64 a.toList b.toList (by simp)
 rw[Vector.length_toList] at this;exact this
def PA (P:Program) (T:Nat):Option (List (Nat × Nat)) :=
 match P.underlying T with
 | some (.struct fs)=>if fs.all (fun f=>(P.info? f.type).isSome) then some (fs.toList.map fun f=>(f.offset,P.cellsOf f.type)) else none
 | _=>none
def PB (P:Program) (T:Nat):Option Nat :=
 match P.underlying T with
 | some (.array _ e)=>if (P.info? e).isSome then some (P.cellsOf e) else none
 | _=>none
theorem fB {P:Program} {T:Nat} {l:List (Nat × Nat)} (h:PA P T=some l):placeOf P T=some fun i=>l[i]?:=by
 unfold PA at h;unfold placeOf;split at h
 ·rename_i fs hu;split at h
  ·rename_i Kv;simp only[Option.some.injEq] at h;subst h;simp only[hu,Kv,if_true];congr 1
   funext i
   simp
  ·cases h
 ·cases h
theorem Tk {P:Program} {T k:Nat} (h:PB P T=some k):placeOf P T=some fun i=>some (i * k,k):=by
 unfold PB at h;unfold placeOf;split at h
 ·rename_i n e hu;split at h
  ·rename_i Kv;simp only[Option.some.injEq] at h;subst h;simp only[hu,Kv,if_true]
  ·cases h
 ·cases h
theorem iF {P:Program} {st:St} {T:Nat} {parts:List (Nat × Operand)} {z:List Value} {place:Nat→Option (Nat × Nat)} {c:List AV} (hz:dZ P T=some z) (hc:z.map AV.v=c) (hp:placeOf P T=some place) :
 iU P st T parts=if (parts.all fun p=>(st.ev p.2).jD)=true then (gT place c (parts.map fun p=>(p.1,st.ev p.2))).map .agg else none:=by
 simp only[iU,hz,hp,hc]
theorem LX (place:Nat→Option (Nat × Nat)) (c:List AV):gT place c []=some c:=rfl
theorem DW (place:Nat→Option (Nat × Nat)) (c:List AV) (i:Nat) (x:AV) (r:List (Nat × AV)):gT place c ((i,x) :: r)=cN (place i) fun os =>
 if x.cells.length=os.2∧os.1+os.2≤c.length then gT place (dK c os.1 x.cells (os.1+os.2)) r else none:=by
 simp only[gT];cases place i<;>rfl
theorem qZ {P:Program} {T:Nat} {l:List Bool} {xs ys:List AV} {p:Prop} [Decidable p] (hl:eZ P 20 T=some l) (ha:dB P T=true) (hg:P.eqGuardType P.depth T=false) (hf:iC l xs ys) (hp:xs=ys↔p) :
 uS P T xs ys=some (decide p):=by
 unfold uS;rw[hl];simp only[ha,hg,hf,and_self,if_true];congr 1
 rw[Bool.eq_iff_iff];simp[hp]
def tC (P:Program) (T:Nat):Option Nat :=
 match fP P T with
 | some (_,k)=>some k
 | none=>none
theorem F2 {P:Program} {st:St} {T s g o:Nat} {x:AV}:Vi P st T (.ptr s g o) x=cN (tC P T) fun k=>if x.cells.length=k∧x.jD=true then
 (match st.heap s g with
  | some (.cells cs)=>if o+k≤cs.length then some (st.iY s g (some (.cells (dK cs o x.cells (o+k))))) else none
  | some (.row e sz n cs)=>if o+k≤cs.length then some (st.iY s g (some (.row e sz n (dK cs o x.cells (o+k))))) else none
  | _=>none) else none:=by
 simp only[Vi,pT,tC];cases fP P T with
 | none=>rfl
 | some bk =>
   obtain⟨b,k⟩:=bk
   simp only[cN];split
   ·split
    ·rename_i h;simp only[h];split<;>rfl
    ·rename_i h;simp only[h];split<;>rfl
    ·rename_i h1 h2;split<;>rename_i h<;>first|rfl|exact absurd h (h1 _)|exact absurd h (h2 _ _ _ _)
   ·rfl
theorem PC (s:cK):rd (aX s) 0 32=aX s:=iZ (aM _)
theorem PD (s x:cK):dK (aX s) 0 (aX x) 32=aX x:=eI (aM _)
theorem PE (s:qR):rd (gH s) 0 4=gH s:=iZ (dU _)
theorem PF (s x:qR):dK (gH s) 0 (gH x) 4=gH x:=eI (dU _)
theorem wrap_i64 (x:Int) (h1:-9223372036854775808≤x) (h2:x≤9223372036854775807):IntKind.i64.wrap x=x:=by
 rw[IntKind.wrap_i64];omega
theorem nF (s g:Nat):¬Flat (.own s g):=by intro h;cases h
theorem xT (s g o:Nat):¬Flat (.ptr s g o):=by intro h;cases h
theorem dP {st:St} {x:AV} (h:Flat x):fK st x=some x:=by unfold fK;rw[if_pos h]
theorem jJ {st:St} {s g e sz n:Nat} {cs:List AV} (h:st.heap s g=some (.row e sz n cs)) (hf:∀c∈cs,Flat c):cA st (.own s g)=some (.sl n cs):=by
 unfold cA;rw[if_neg (nF s g)];simp only[h];rw[if_pos hf]
theorem cO {st:St} {x:AV} (h:Flat x):cA st x=some x:=by unfold cA;rw[if_pos h]
theorem NL {st:St} {x:AV} (h:Flat x):qA st x=some x:=by unfold qA;rw[if_pos h]
theorem Sr {st:St}:∀ {cs:List AV},(∀c∈cs,Flat c)→cC (cs.map (qA st))=some cs
 | [],_=>rfl
 | c :: cs,h=>by
   rw[List.map_cons,NL (h c (by simp))]
   have ih:=Sr (st:=st) (cs:=cs) fun d hd=>h d (List.mem_cons_of_mem _ hd)
   simp only[cC,ih,Option.map_some]
theorem NJ {st:St} {s g e sz n:Nat} {cs:List AV} (h:st.heap s g=some (.row e sz n cs)) (hf:∀c∈cs,Flat c):fK st (.own s g)=some (.sl n cs):=by
 unfold fK;rw[if_neg (nF s g)];exact jJ h hf
section
variable [Ext]
theorem aAi {P:Program} {f:Nat} {fn:Func} {t:Nat} {st:St} {x:AV} {e:Ex} (hk:Ext.qH f=false) (he:e=.ret∨e=.normal) (hr:fn.results.toList=[.tmp t]) (hx:st.env t=x) (hf:Flat x):Af P f fn (e,st)=some x:=by
 have h1:jT P f fn st=some x:=by
  unfold jT;rw[hk,if_neg (by simp)]
  unfold vY;rw[hr];simp only[kE,cN,hx,Sn];cases hf<;>simp only[fK]<;>rw[if_pos]<;>constructor<;>assumption
 rcases he with rfl|rfl<;>exact h1
theorem F3 {P:Program} {f:Nat} {fn:Func} {t T:Nat} {st:St} {y x:AV} {e:Ex} (hk:Ext.qH f=false) (he:e=.ret∨e=.normal) (hr:fn.results.toList=[.cell t T]) (hy:st.env t=y) (hx:Fs P st T y=some x) (hf:Flat x):Af P f fn (e,st)=some x:=by
 have h1:jT P f fn st=some x:=by
  unfold jT;rw[hk,if_neg (by simp)]
  unfold vY;rw[hr];show cN (cN (qI st (st.env t)) (xO P T)) (Sn st)=some x
  rw[hy,Ow,hx];simp only[cN,Sn];cases hf<;>simp only[fK]<;>rw[if_pos]<;>constructor<;>assumption
 rcases he with rfl|rfl<;>exact h1
theorem Xc {P:Program} {f:Nat} {fn:Func} {t:Nat} {st:St} {e:Ex} {s g e' sz n:Nat} {cs:List AV} (hk:Ext.qH f=false) (he:e=.ret∨e=.normal) (hr:fn.results.toList=[.tmp t]) (hx:st.env t=.own s g) (hh:st.heap s g=some (.row e' sz n cs)) (hf:∀c∈cs,Flat c):Af P f fn (e,st)=some (.uniq e' sz n cs):=by
 have h1:jT P f fn st=some (.uniq e' sz n cs):=by
  unfold jT;rw[hk,if_neg (by simp)]
  unfold vY;rw[hr];simp only[kE,cN,hx,Sn,hh];rw[if_pos hf]
 rcases he with rfl|rfl<;>exact h1
theorem VU {P:Program} {f:Nat} {fn:Func} {t T:Nat} {st:St} {e:Ex} {z:AV} {cs:List AV} {y:AV} (hk:Ext.qH f=false) (he:e=.ret∨e=.normal) (hr:fn.results.toList=[.cell t T]) (hz:st.env t=z) (hx:Fs P st T z=some (.agg cs)) (hy:fK st (.agg cs)=some y):Af P f fn (e,st)=some y:=by
 have h1:jT P f fn st=some y:=by
  unfold jT;rw[hk,if_neg (by simp)]
  unfold vY;rw[hr];show cN (cN (qI st (st.env t)) (xO P T)) (Sn st)=some y
  rw[hz,Ow,hx];simp only[cN,Sn,hy]
 rcases he with rfl|rfl<;>exact h1
def bV (P:Program) (st:St) (r:ResultVar):Option AV :=
 match r with
 | .tmp t=>some (st.env t)
 | .cell t T=>Fs P st T (st.env t)
theorem tU (P:Program) (st:St) (r:ResultVar):kE P st r=bV P st r:=by
 cases r with
 | tmp t=>rfl
 | cell t T=>exact Ow P st T _
theorem aAj {P:Program} {f:Nat} {fn:Func} {st:St} {e:Ex} {r1 r2:ResultVar} {x1 x2 y1 y2:AV} (hk:Ext.qH f=false) (he:e=.ret∨e=.normal) (hr:fn.results.toList=[r1,r2])
 (h1:bV P st r1=some x1) (h2:bV P st r2=some x2) (e1:fK st x1=some y1) (e2:fK st x2=some y2):Af P f fn (e,st)=some (.eN [y1,y2]):=by
 have h:jT P f fn st=some (.eN [y1,y2]):=by
  unfold jT;rw[hk,if_neg (by simp)]
  unfold vY;rw[hr];simp only[List.map_cons,List.map_nil,tU,h1,h2,cN,De e1,De e2,cC,Option.map_some]
 rcases he with rfl|rfl<;>exact h
theorem F4 {P:Program} {f:Nat} {fn:Func} {st:St} {e:Ex} {r1 r2:ResultVar} {x1 x2 y1 y2:AV} (hk:Ext.qH f=false) (he:e=.ret∨e=.normal) (hr:fn.results.toList=[r1,r2])
 (h1:bV P st r1=some x1) (h2:bV P st r2=some x2) (e0:fK st x1=none) (e1:Mt st x1=some y1) (e2:fK st x2=some y2):Af P f fn (e,st)=some (.eN [y1,y2]):=by
 have V6:Ch st x1=some y1:=(UW e0).trans e1
 have h:jT P f fn st=some (.eN [y1,y2]):=by
  unfold jT;rw[hk,if_neg (by simp)]
  unfold vY;rw[hr];simp only[List.map_cons,List.map_nil,tU,h1,h2,cN,V6,De e2,cC,Option.map_some]
 rcases he with rfl|rfl<;>exact h
theorem VV {P:Program} {f:Nat} {fn:Func} {st:St} {e:Ex} {r1 r2 r3:ResultVar} {x1 x2 x3 y1 y2 y3:AV} (hk:Ext.qH f=false) (he:e=.ret∨e=.normal) (hr:fn.results.toList=[r1,r2,r3])
 (h1:bV P st r1=some x1) (h2:bV P st r2=some x2) (h3:bV P st r3=some x3) (e1:fK st x1=some y1) (e2:fK st x2=some y2) (e3:fK st x3=some y3):Af P f fn (e,st)=some (.eN [y1,y2,y3]):=by
 have h:jT P f fn st=some (.eN [y1,y2,y3]):=by
  unfold jT;rw[hk,if_neg (by simp)]
  unfold vY;rw[hr];simp only[List.map_cons,List.map_nil,tU,h1,h2,h3,cN,De e1,De e2,De e3,cC,Option.map_some]
 rcases he with rfl|rfl<;>exact h
end
section
variable [Ext]
theorem F5 {P:Program} (c:Operand) (a b:Code) (st:St):yX P (.cond c a b) st=onB (st.ev c) fun t=>if t=true then yX P a st else yX P b st:=by
 cases h:st.ev c with
 | v x =>
   cases x with
   | bool t=>exact Y8 P c a b st h
   | _ =>
     apply Option.ext
     intro r;rw[ZJ];constructor
     ·rintro⟨n,m,h'⟩
      cases m with
      | zero=>simp[uP] at h'
      | succ m=>simp[uP,h] at h'
     ·intro h';simp[onB] at h'
 | _ =>
   apply Option.ext
   intro r;rw[ZJ];constructor
   ·rintro⟨n,m,h'⟩
    cases m with
    | zero=>simp[uP] at h'
    | succ m=>simp[uP,h] at h'
   ·intro h';simp[onB] at h'
def ZL (ops:Array Oper) (j:Nat):Option Nat:=(ops[j]?).bind (·.dst)
def VW {α:Type} (x:AV) (want:Bool) (y n:Option α):Option α :=
 match x with
 | .v (.bool b)=>if b=want then y else n
 | .v _=>n
 | _=>none
def onS {α:Type} (d:Option Nat) (k:Nat→Option α) (n:Option α):Option α :=
 match d with
 | some d=>k d
 | none=>n
@[congr] theorem aGP {α:Type} {x x':AV} {want:Bool} {y n:Option α} (h:x=x'):VW x want y n=VW x' want y n:=by rw[h]
@[congr] theorem aI2 {α:Type} {d d':Option Nat} {k:Nat→Option α} {n:Option α} (h:d=d'):onS d k n=onS d' k n:=by rw[h]
theorem F6 {α:Type} (b:Bool) (y n:Option α):VW (.v (.bool b)) true y n=if b=true then y else n:=rfl
theorem VX {α:Type} (b:Bool) (y n:Option α):VW (.v (.bool b)) false y n=if b=false then y else n:=rfl
theorem VY {α:Type} (w:Bool) (y n:Option α):VW (.v undef) w y n=n:=rfl
theorem aAk {α:Type} (d:Nat) (k:Nat→Option α) (n:Option α):onS (some d) k n=k d:=rfl
theorem F7 {P:Program} {call:Nat→List AV→Option AV} {ops:Array Oper} {st:St} {d:Option Nat} {T:Nat} {pos:String} {eP:Array Edge} (op:Op) (j:Nat) (want:Bool) :
 cF P call ops ⟨d,op,T,pos,eP,some (j,want)⟩ st=onS (ZL ops j) (fun s=>VW (st.env s) want (cF P call ops ⟨d,op,T,pos,eP,none⟩ st) (some (st.put d (.v undef)))) (some (st.put d (.v undef))):=by
 simp only[cF,gv,ZL];cases (ops[j]?).bind (·.dst) with
 | none=>simp[onS]
 | some s =>
   simp only[onS];cases st.env s with
   | v x=>cases x<;>simp[VW,dI]<;>rename_i b<;>cases b<;>cases want<;>simp[dI]
   | _=>rfl
end
section
variable {P:Program} {T:Nat} {k k1:IntKind} {a b:Int}
theorem aCW:gD P .add T (.v (.int k a)) (.v (.int k b))=some (.v (.int k (k.wrap (a+b)))):=by simp[gD]
theorem aCX:gD P .sub T (.v (.int k a)) (.v (.int k b))=some (.v (.int k (k.wrap (a-b)))):=by simp[gD]
theorem aCY:gD P .mul T (.v (.int k a)) (.v (.int k b))=some (.v (.int k (k.wrap (a * b)))):=by simp[gD]
theorem aCZ:gD P .and T (.v (.int k a)) (.v (.int k b))=some (.v (.int k (k.wrap (BitVec.ofInt k.bits a &&& BitVec.ofInt k.bits b).toNat))):=by simp[gD]
theorem aC0:gD P .eql T (.v (.int k a)) (.v (.int k b))=some (.v (.bool (a == b))):=by simp[gD]
theorem aC1:gD P .neq T (.v (.int k a)) (.v (.int k b))=some (.v (.bool (a != b))):=by simp[gD]
theorem aC2:gD P .lss T (.v (.int k a)) (.v (.int k b))=some (.v (.bool (decide (a<b)))):=by simp[gD]
theorem aC3:gD P .leq T (.v (.int k a)) (.v (.int k b))=some (.v (.bool (decide (a≤b)))):=by simp[gD]
theorem aC4:gD P .gtr T (.v (.int k a)) (.v (.int k b))=some (.v (.bool (decide (a > b)))):=by simp[gD]
theorem aC5:gD P .geq T (.v (.int k a)) (.v (.int k b))=some (.v (.bool (decide (a≥b)))):=by simp[gD]
theorem aC6 (h:b≠0):gD P .quo T (.v (.int k a)) (.v (.int k b))=some (.v (.int k (k.wrap (a.tdiv b)))):=by simp[gD,h]
theorem aC7 (h:b≠0):gD P .rem T (.v (.int k a)) (.v (.int k b))=some (.v (.int k (a.tmod b))):=by simp[gD,h]
theorem aC8 (h:¬b<0):gD P .shr T (.v (.int k a)) (.v (.int k1 b))=some (.v (.int k (a.fdiv (2 ^ (min b.toNat k.bits))))):=by simp[gD,h]
theorem aC9 (h:¬b<0):gD P .shl T (.v (.int k a)) (.v (.int k1 b))=some (.v (.int k (k.wrap (a * 2 ^ (min b.toNat k.bits))))):=by simp[gD,h]
end
theorem IN (s:St) (k:St→Option (Ex × St)):Za (.normal,s) k=k s:=rfl
theorem F9 (s:St) (k:St→Option (Ex × St)):Za (.ret,s) k=some (.ret,s):=rfl
theorem VZ (i:Nat) (s:St) (k:St→Option (Ex × St)):Za (.exit i,s) k=some (.exit i,s):=rfl
theorem Vv (r:cK) (i e:Nat) (x:Int) (h:i<32) (he:e=i+1):dK (aX r) i [.v (.int .u8 x)] e=aX (r.set i x):=by
 subst he;simp only[dK,aX,Vector.toList_set,List.map_set];rw[List.set_eq_take_append_cons_drop,if_pos (by simp[h])]
 simp
theorem qU (r:qR) (i e:Nat) (x:Int) (h:i<4) (he:e=i+1):dK (gH r) i [.v (.int .u64 x)] e=gH (r.set i x):=by
 subst he;simp only[dK,gH,Vector.toList_set,List.map_set];rw[List.set_eq_take_append_cons_drop,if_pos (by simp[h])]
 simp
theorem Ql [Ext] {P:Program} {b:Code} (Inv:Nat→St→Prop) (Q:Ex→St→Prop)
 (step:∀n st,Inv n st→∃e st',yX P b st=some (e,st')∧((e=.normal∧∃m,m<n∧Inv m st')∨(e≠.normal∧Q e st'))):∀n st,Inv n st→∃e st',yX P (.loop b) st=some (e,st')∧e≠.normal∧Q e st':=by
 intro n;induction n using Nat.strongRecOn with
 | _ n ih =>
   intro st h;obtain⟨e,s1,h1,h2⟩:=step n st h
   rw[Gu,h1];rcases h2 with ⟨rfl,m,hm,hi⟩|⟨gW,hq⟩
   ·exact ih m hm s1 hi
   ·refine⟨e,s1, ?_,gW,hq⟩
    cases e with
    | normal=>exact absurd rfl gW
    | _=>rfl
theorem lV [Ext] {P:Program} {b:Code} {st:St} {β:Type} {k:Ex × St→Option β} {r:β} (Inv:Nat→St→Prop) (Q:Ex→St→Prop) (n:Nat)
 (step:∀n st,Inv n st→∃e st',yX P b st=some (e,st')∧((e=.normal∧∃m,m<n∧Inv m st')∨(e≠.normal∧Q e st')))
 (start:Inv n st) (rest:∀e st',Q e st'→k (e,st')=some r):cN (yX P (.loop b) st) k=some r:=by
 obtain⟨e,s1,h1,h2,h3⟩:=Ql Inv Q step n st start
 rw[h1];exact rest e s1 h3
theorem cM [Ext] {P:Program} {b:Code} {st:St} {β:Type} {k:Ex × St→Option β} {R:β→Prop} (Inv:Nat→St→Prop) (Q:Ex→St→Prop) (n:Nat)
 (step:∀n st,Inv n st→∃e st',yX P b st=some (e,st')∧((e=.normal∧∃m,m<n∧Inv m st')∨(e≠.normal∧Q e st')))
 (start:Inv n st) (rest:∀e st',Q e st'→∃r,k (e,st')=some r∧R r):∃r,cN (yX P (.loop b) st) k=some r∧R r:=by
 obtain⟨e,s1,h1,h2,h3⟩:=Ql Inv Q step n st start
 rw[h1];exact rest e s1 h3
theorem mZ {α β γ:Type} (x:Option α) (f:α→Option β) (g:β→Option γ):cN (cN x f) g=cN x fun a=>cN (f a) g:=by cases x<;>rfl
theorem oV [Ext] {P:Program} {b:Code} {st st':St} {n:Nat} {Inv:Nat→St→Prop} {Q:Ex→St→Prop} (h:yX P b st=some (.normal,st')) (m:Nat) (hm:m<n) (hi:Inv m st') :
 ∃e st',yX P b st=some (e,st')∧((e=.normal∧∃m,m<n∧Inv m st')∨(e≠.normal∧Q e st')):=⟨_,_,h,.inl ⟨rfl,m,hm,hi⟩⟩
theorem aGQ [Ext] {P:Program} {b:Code} {st st':St} {e:Ex} {n:Nat} {Inv:Nat→St→Prop} {Q:Ex→St→Prop} (h:yX P b st=some (e,st')) (he:e≠.normal) (hq:Q e st') :
 ∃e st',yX P b st=some (e,st')∧((e=.normal∧∃m,m<n∧Inv m st')∨(e≠.normal∧Q e st')):=⟨_,_,h,.inr ⟨he,hq⟩⟩
def aJ (l:List Int):List AV:=l.flatMap pV
@[simp] theorem Jf (l:List (Int)):(aJ l).length=l.length * 1:=by
 induction l with
 | nil=>rfl
 | cons x l ih=>simp only[aJ,List.flatMap_cons,List.length_append,bC,List.length_cons] at *;omega
theorem gF (l:List (Int)):∀x∈aJ l,Flat x:=by
 intro x hx;obtain⟨y,_,hy⟩:=List.mem_flatMap.1 hx
 exact mK y x hy
theorem aAl (l:List (Int)) (i:Nat) (h:i<l.length):rd (aJ l) (i * 1) 1=pV l[i]:=Lw pV 1 (bC) l i h
def bD (l:List Int):List AV:=l.flatMap sF
@[simp] theorem Qy (l:List (Int)):(bD l).length=l.length * 1:=by
 induction l with
 | nil=>rfl
 | cons x l ih=>simp only[bD,List.flatMap_cons,List.length_append,aW,List.length_cons] at *;omega
theorem iE (l:List (Int)):∀x∈bD l,Flat x:=by
 intro x hx;obtain⟨y,_,hy⟩:=List.mem_flatMap.1 hx
 exact eD y x hy
def gM (l:List cK):List AV:=l.flatMap aX
@[simp] theorem aGR (l:List (cK)):(gM l).length=l.length * 32:=by
 induction l with
 | nil=>rfl
 | cons x l ih=>simp only[gM,List.flatMap_cons,List.length_append,aM,List.length_cons] at *;omega
theorem Tl (l:List (cK)):∀x∈gM l,Flat x:=by
 intro x hx;obtain⟨y,_,hy⟩:=List.mem_flatMap.1 hx
 exact dJ y x hy
structure fS where
 aK:Int
 root:cK
def bY (s:fS):List AV:=sF s.aK++(aX s.root)
@[simp] theorem bT (s:fS):(bY s).length=33:=by simp[bY]
theorem dC (s:fS):∀x∈bY s,Flat x:=by
 intro x hx;simp only[bY,List.mem_append,List.mem_singleton] at hx;rcases hx with hx|hx
 ·(exact eD _ _ hx)
 ·(exact dJ _ _ hx)
theorem FG (s:fS):∀x∈bY s,dY x:=by
 intro x hx;simp only[bY,List.mem_append] at hx;rcases hx with hx|hx
 ·exact Hl _ _ hx
 ·exact yO _ _ hx
theorem jY (s:fS):(bY s)[0]? = some (.v (.int .u64 s.aK)):=rfl
theorem Cc (s:fS) (x:Int):dK (bY s) 0 ([.v (.int .u64 x)]) 1=bY { s with aK:=x }:=cJ (aW _)
theorem uJ (s:fS):rd (bY s) 1 32=aX s.root:=(aZ rfl (aW _)).trans (iZ (aM _))
theorem Fe (s:fS) (x:cK):dK (bY s) 1 (aX x) 33=bY { s with root:=x }:=(aD rfl rfl (aW _)).trans (bI (eI (aM _)))
def iA:fS:=⟨0,dL⟩
def Cr:List Value:=[.int .u64 0]++(tE)
theorem Ax:Cr.map AV.v=bY iA:=by simp only[Cr,List.map_append,List.map_cons,List.map_nil,jP,jQ];rfl
def Tm:List Bool:=[true]++(Ft)
theorem sX (a b:fS):iC Tm (bY a) (bY b):=(eU (show iC [true] [_] [_] from ⟨rfl,trivial⟩) (mQ _ _))
theorem mY (a b:fS):bY a=bY b↔a=b:=by
 refine⟨fun h=>?_,fun h=>by rw[h]⟩
 cases a;cases b
 simp only[bY] at h;obtain⟨h0,h⟩:=List.append_inj h (by simp)
 have e0:=(Dh _ _).1 h0
 have e1:=(oP _ _).1 h
 subst e0 e1;rfl
theorem PG (s:fS):rd (bY s) 0 33=bY s:=iZ (bT _)
theorem PH (s x:fS):dK (bY s) 0 (bY x) 33=bY x:=eI (bT _)
structure pC where
 pj:fS
 pf:fS
def fN (s:pC):List AV:=bY s.pj++(bY s.pf)
@[simp] theorem cS (s:pC):(fN s).length=66:=by simp[fN]
theorem El (s:pC):∀x∈fN s,Flat x:=by
 intro x hx;simp only[fN,List.mem_append,List.mem_singleton] at hx;rcases hx with hx|hx
 ·(exact dC _ _ hx)
 ·(exact dC _ _ hx)
theorem Ox (s:pC):rd (fN s) 0 33=bY s.pj:=gI (bT _)
theorem Oy (s:pC) (x:fS):dK (fN s) 0 (bY x) 33=fN { s with pj:=x }:=cJ (bT _)
theorem xL (s:pC):(fN s)[0]? = some (.v (.int .u64 s.pj.aK)):=(eM (by rw[bT];decide)).trans (jY _)
theorem zT (s:pC) (x:Int):dK (fN s) 0 ([.v (.int .u64 x)]) 1=fN { s with pj:={ s.pj with aK:=x }}:=(uH (by rw[bT];decide)).trans (Fc (Cc _ x))
theorem Oz (s:pC):rd (fN s) 33 33=bY s.pf:=(aZ rfl (bT _)).trans (iZ (bT _))
theorem Pa (s:pC) (x:fS):dK (fN s) 33 (bY x) 66=fN { s with pf:=x }:=(aD rfl rfl (bT _)).trans (bI (eI (bT _)))
theorem xM (s:pC):(fN s)[33]? = some (.v (.int .u64 s.pf.aK)):=(aG rfl (bT _)).trans (jY _)
def Nr:pC:=⟨iA,iA⟩
def Pb:List Value:=Cr++(Cr)
theorem Ro:Pb.map AV.v=fN Nr:=by simp only[Pb,List.map_append,List.map_cons,List.map_nil,jP,jQ,Ax];rfl
def ZM:List Bool:=Tm++(Tm)
theorem IP (a b:pC):iC ZM (fN a) (fN b):=(eU (sX _ _) (sX _ _))
theorem PI (a b:pC):fN a=fN b↔a=b:=by
 refine⟨fun h=>?_,fun h=>by rw[h]⟩
 cases a;cases b
 simp only[fN] at h;obtain⟨h0,h⟩:=List.append_inj h (by simp)
 have e0:=(mY _ _).1 h0
 have e1:=(mY _ _).1 h
 subst e0 e1;rfl
theorem BX (s:pC):rd (fN s) 0 66=fN s:=iZ (cS _)
theorem BY (s x:pC):dK (fN s) 0 (fN x) 66=fN x:=eI (cS _)
structure Block where
 dS:pC
 slot:Int
 root:cK
 parent:cK
 iQ:cK
 diff:qR
 Wo:qR
 hU:fS
 fin:fS
 Bu:Bool
def aU (s:Block):List AV:=fN s.dS++(sF s.slot++(aX s.root++(aX s.parent++(aX s.iQ++(gH s.diff++(gH s.Wo++(bY s.hU++(bY s.fin++(tJ s.Bu)))))))))
@[simp] theorem bQ (s:Block):(aU s).length=238:=by simp[aU]
theorem Bj (s:Block):∀x∈aU s,Flat x:=by
 intro x hx;simp only[aU,List.mem_append,List.mem_singleton] at hx;rcases hx with hx|hx|hx|hx|hx|hx|hx|hx|hx|hx
 ·(exact El _ _ hx)
 ·(exact eD _ _ hx)
 ·(exact dJ _ _ hx)
 ·(exact dJ _ _ hx)
 ·(exact dJ _ _ hx)
 ·(exact iO _ _ hx)
 ·(exact iO _ _ hx)
 ·(exact dC _ _ hx)
 ·(exact dC _ _ hx)
 ·(exact mO _ _ hx)
theorem Fu (s:Block):rd (aU s) 0 66=fN s.dS:=gI (cS _)
theorem Uc (s:Block) (x:pC):dK (aU s) 0 (fN x) 66=aU { s with dS:=x }:=cJ (cS _)
theorem zU (s:Block):rd (aU s) 0 33=bY s.dS.pj:=(qE (by rw[cS];decide)).trans (Ox _)
theorem Lz (s:Block) (x:fS):dK (aU s) 0 (bY x) 33=aU { s with dS:={ s.dS with pj:=x }}:=(uH (by rw[cS];decide)).trans (Fc (Oy _ x))
theorem rT (s:Block):(aU s)[0]? = some (.v (.int .u64 s.dS.pj.aK)):=(eM (by rw[cS];decide)).trans (xL _)
theorem Cd (s:Block) (x:Int):dK (aU s) 0 ([.v (.int .u64 x)]) 1=aU { s with dS:={ s.dS with pj:={ s.dS.pj with aK:=x }} }:=(uH (by rw[cS];decide)).trans (Fc (zT _ x))
theorem zV (s:Block):rd (aU s) 33 33=bY s.dS.pf:=(qE (by rw[cS];decide)).trans (Oz _)
theorem Ma (s:Block) (x:fS):dK (aU s) 33 (bY x) 66=aU { s with dS:={ s.dS with pf:=x }}:=(uH (by rw[cS];decide)).trans (Fc (Pa _ x))
theorem rU (s:Block):(aU s)[33]? = some (.v (.int .u64 s.dS.pf.aK)):=(eM (by rw[cS];decide)).trans (xM _)
theorem Hw (s:Block):(aU s)[66]? = some (.v (.int .u64 s.slot)):=(aG rfl (cS _)).trans (rfl)
theorem BZ (s:Block) (x:Int):dK (aU s) 66 ([.v (.int .u64 x)]) 67=aU { s with slot:=x }:=(aD rfl rfl (cS _)).trans (bI (cJ (aW _)))
theorem Kj (s:Block):rd (aU s) 67 32=aX s.root:=(aZ rfl (cS _)).trans ((aZ rfl (aW _)).trans (gI (aM _)))
theorem CA (s:Block) (x:cK):dK (aU s) 67 (aX x) 99=aU { s with root:=x }:=(aD rfl rfl (cS _)).trans (bI ((aD rfl rfl (aW _)).trans (bI (cJ (aM _)))))
theorem Ud (s:Block):rd (aU s) 99 32=aX s.parent:=(aZ rfl (cS _)).trans ((aZ rfl (aW _)).trans ((aZ rfl (aM _)).trans (gI (aM _))))
theorem Ue (s:Block) (x:cK):dK (aU s) 99 (aX x) 131=aU { s with parent:=x }:=(aD rfl rfl (cS _)).trans (bI ((aD rfl rfl (aW _)).trans (bI ((aD rfl rfl (aM _)).trans (bI (cJ (aM _)))))))
theorem Di (s:Block):rd (aU s) 131 32=aX s.iQ:=(aZ rfl (cS _)).trans ((aZ rfl (aW _)).trans ((aZ rfl (aM _)).trans ((aZ rfl (aM _)).trans (gI (aM _)))))
theorem Rp (s:Block) (x:cK):dK (aU s) 131 (aX x) 163=aU { s with iQ:=x }:=(aD rfl rfl (cS _)).trans (bI ((aD rfl rfl (aW _)).trans (bI ((aD rfl rfl (aM _)).trans (bI ((aD rfl rfl (aM _)).trans (bI (cJ (aM _)))))))))
theorem CB (s:Block):rd (aU s) 163 4=gH s.diff:=(aZ rfl (cS _)).trans ((aZ rfl (aW _)).trans ((aZ rfl (aM _)).trans ((aZ rfl (aM _)).trans ((aZ rfl (aM _)).trans (gI (dU _))))))
theorem CC (s:Block) (x:qR):dK (aU s) 163 (gH x) 167=aU { s with diff:=x }:=(aD rfl rfl (cS _)).trans (bI ((aD rfl rfl (aW _)).trans (bI ((aD rfl rfl (aM _)).trans (bI ((aD rfl rfl (aM _)).trans (bI ((aD rfl rfl (aM _)).trans (bI (cJ (dU _)))))))))))
theorem Zc (s:Block):rd (aU s) 167 4=gH s.Wo:=(aZ rfl (cS _)).trans ((aZ rfl (aW _)).trans ((aZ rfl (aM _)).trans ((aZ rfl (aM _)).trans ((aZ rfl (aM _)).trans ((aZ rfl (dU _)).trans (gI (dU _)))))))
theorem Zd (s:Block) (x:qR):dK (aU s) 167 (gH x) 171=aU { s with Wo:=x }:=(aD rfl rfl (cS _)).trans (bI ((aD rfl rfl (aW _)).trans (bI ((aD rfl rfl (aM _)).trans (bI ((aD rfl rfl (aM _)).trans (bI ((aD rfl rfl (aM _)).trans (bI ((aD rfl rfl (dU _)).trans (bI (cJ (dU _)))))))))))))
theorem Kk (s:Block):rd (aU s) 171 33=bY s.hU:=(aZ rfl (cS _)).trans ((aZ rfl (aW _)).trans ((aZ rfl (aM _)).trans ((aZ rfl (aM _)).trans ((aZ rfl (aM _)).trans ((aZ rfl (dU _)).trans ((aZ rfl (dU _)).trans (gI (bT _))))))))
theorem CD (s:Block) (x:fS):dK (aU s) 171 (bY x) 204=aU { s with hU:=x }:=(aD rfl rfl (cS _)).trans (bI ((aD rfl rfl (aW _)).trans (bI ((aD rfl rfl (aM _)).trans (bI ((aD rfl rfl (aM _)).trans (bI ((aD rfl rfl (aM _)).trans (bI ((aD rfl rfl (dU _)).trans (bI ((aD rfl rfl (dU _)).trans (bI (cJ (bT _)))))))))))))))
theorem Hx (s:Block):(aU s)[171]? = some (.v (.int .u64 s.hU.aK)):=(aG rfl (cS _)).trans ((aG rfl (aW _)).trans ((aG rfl (aM _)).trans ((aG rfl (aM _)).trans ((aG rfl (aM _)).trans ((aG rfl (dU _)).trans ((aG rfl (dU _)).trans ((eM (by rw[bT];decide)).trans (jY _))))))))
theorem Pc (s:Block):rd (aU s) 204 33=bY s.fin:=(aZ rfl (cS _)).trans ((aZ rfl (aW _)).trans ((aZ rfl (aM _)).trans ((aZ rfl (aM _)).trans ((aZ rfl (aM _)).trans ((aZ rfl (dU _)).trans ((aZ rfl (dU _)).trans ((aZ rfl (bT _)).trans (gI (bT _)))))))))
theorem IQ (s:Block) (x:fS):dK (aU s) 204 (bY x) 237=aU { s with fin:=x }:=(aD rfl rfl (cS _)).trans (bI ((aD rfl rfl (aW _)).trans (bI ((aD rfl rfl (aM _)).trans (bI ((aD rfl rfl (aM _)).trans (bI ((aD rfl rfl (aM _)).trans (bI ((aD rfl rfl (dU _)).trans (bI ((aD rfl rfl (dU _)).trans (bI ((aD rfl rfl (bT _)).trans (bI (cJ (bT _)))))))))))))))))
theorem Jq (s:Block):(aU s)[204]? = some (.v (.int .u64 s.fin.aK)):=(aG rfl (cS _)).trans ((aG rfl (aW _)).trans ((aG rfl (aM _)).trans ((aG rfl (aM _)).trans ((aG rfl (aM _)).trans ((aG rfl (dU _)).trans ((aG rfl (dU _)).trans ((aG rfl (bT _)).trans ((eM (by rw[bT];decide)).trans (jY _)))))))))
theorem Pd (s:Block) (x:cK):dK (aU s) 205 (aX x) 237=aU { s with fin:={ s.fin with root:=x }}:=(aD rfl rfl (cS _)).trans (bI ((aD rfl rfl (aW _)).trans (bI ((aD rfl rfl (aM _)).trans (bI ((aD rfl rfl (aM _)).trans (bI ((aD rfl rfl (aM _)).trans (bI ((aD rfl rfl (dU _)).trans (bI ((aD rfl rfl (dU _)).trans (bI ((aD rfl rfl (bT _)).trans (bI ((uH (by rw[bT];decide)).trans (Fc (Fe _ x))))))))))))))))))
theorem Rq (s:Block):(aU s)[237]? = some (.v (.bool s.Bu)):=(aG rfl (cS _)).trans ((aG rfl (aW _)).trans ((aG rfl (aM _)).trans ((aG rfl (aM _)).trans ((aG rfl (aM _)).trans ((aG rfl (dU _)).trans ((aG rfl (dU _)).trans ((aG rfl (bT _)).trans ((aG rfl (bT _)).trans (rfl)))))))))
theorem Uf (s:Block) (x:Bool):dK (aU s) 237 ([.v (.bool x)]) 238=aU { s with Bu:=x }:=(aD rfl rfl (cS _)).trans (bI ((aD rfl rfl (aW _)).trans (bI ((aD rfl rfl (aM _)).trans (bI ((aD rfl rfl (aM _)).trans (bI ((aD rfl rfl (aM _)).trans (bI ((aD rfl rfl (dU _)).trans (bI ((aD rfl rfl (dU _)).trans (bI ((aD rfl rfl (bT _)).trans (bI ((aD rfl rfl (bT _)).trans (bI (eI (gX _)))))))))))))))))))
def fC:Block:=⟨Nr,0,dL,dL,dL,FF,FF,iA,iA,false⟩
def Rr:List Value:=Pb++([.int .u64 0]++(tE++(tE++(tE++(Zb++(Zb++(Cr++(Cr++([.bool false])))))))))
theorem Pe:Rr.map AV.v=aU fC:=by simp only[Rr,List.map_append,List.map_cons,List.map_nil,jP,jQ,Ro,Ax];rfl
def WA:List Bool:=ZM++([true]++(Ft++(Ft++(Ft++(ZK++(ZK++(Tm++(Tm++([false])))))))))
theorem Tn (a b:Block):iC WA (aU a) (aU b):=(eU (IP _ _) (eU (show iC [true] [_] [_] from ⟨rfl,trivial⟩) (eU (mQ _ _) (eU (mQ _ _) (eU (mQ _ _) (eU (Ly _ _) (eU (Ly _ _) (eU (sX _ _) (eU (sX _ _) (show iC [false] [_] [_] from trivial))))))))))
theorem Ze (a b:Block):aU a=aU b↔a=b:=by
 refine⟨fun h=>?_,fun h=>by rw[h]⟩
 cases a;cases b
 simp only[aU] at h;obtain⟨h0,h⟩:=List.append_inj h (by simp)
 obtain⟨h1,h⟩:=List.append_inj h (by simp)
 obtain⟨h2,h⟩:=List.append_inj h (by simp)
 obtain⟨h3,h⟩:=List.append_inj h (by simp)
 obtain⟨h4,h⟩:=List.append_inj h (by simp)
 obtain⟨h5,h⟩:=List.append_inj h (by simp)
 obtain⟨h6,h⟩:=List.append_inj h (by simp)
 obtain⟨h7,h⟩:=List.append_inj h (by simp)
 obtain⟨h8,h⟩:=List.append_inj h (by simp)
 have e0:=(PI _ _).1 h0
 have e1:=(Dh _ _).1 h1
 have e2:=(oP _ _).1 h2
 have e3:=(oP _ _).1 h3
 have e4:=(oP _ _).1 h4
 have e5:=(Rn _ _).1 h5
 have e6:=(Rn _ _).1 h6
 have e7:=(mY _ _).1 h7
 have e8:=(mY _ _).1 h8
 have e9:=(FE _ _).1 h
 subst e0 e1 e2 e3 e4 e5 e6 e7 e8 e9;rfl
theorem IS (s:Block):rd (aU s) 0 238=aU s:=iZ (bQ _)
theorem IT (s x:Block):dK (aU s) 0 (aU x) 238=aU x:=eI (bQ _)
structure Node where
 block:Block
 up:Int
 status:Int
def fG (s:Node):List AV:=aU s.block++(pV s.up++(pV s.status))
@[simp] theorem vC (s:Node):(fG s).length=240:=by simp[fG]
theorem La (s:Node):∀x∈fG s,Flat x:=by
 intro x hx;simp only[fG,List.mem_append,List.mem_singleton] at hx;rcases hx with hx|hx|hx
 ·(exact Bj _ _ hx)
 ·(exact mK _ _ hx)
 ·(exact mK _ _ hx)
theorem CE (s:Node):rd (fG s) 0 238=aU s.block:=gI (bQ _)
theorem CF (s:Node) (x:Block):dK (fG s) 0 (aU x) 238=fG { s with block:=x }:=cJ (bQ _)
theorem Hy (s:Node):rd (fG s) 0 66=fN s.block.dS:=(qE (by rw[bQ];decide)).trans (Fu _)
theorem Dj (s:Node):rd (fG s) 0 33=bY s.block.dS.pj:=(qE (by rw[bQ];decide)).trans (zU _)
theorem vT (s:Node):(fG s)[0]? = some (.v (.int .u64 s.block.dS.pj.aK)):=(eM (by rw[bQ];decide)).trans (rT _)
theorem Dk (s:Node):rd (fG s) 33 33=bY s.block.dS.pf:=(qE (by rw[bQ];decide)).trans (zV _)
theorem vU (s:Node):(fG s)[33]? = some (.v (.int .u64 s.block.dS.pf.aK)):=(eM (by rw[bQ];decide)).trans (rU _)
theorem Jr (s:Node):(fG s)[66]? = some (.v (.int .u64 s.block.slot)):=(eM (by rw[bQ];decide)).trans (Hw _)
theorem Mb (s:Node):rd (fG s) 67 32=aX s.block.root:=(qE (by rw[bQ];decide)).trans (Kj _)
theorem Gg (s:Node):rd (fG s) 131 32=aX s.block.iQ:=(qE (by rw[bQ];decide)).trans (Di _)
theorem Mc (s:Node):rd (fG s) 171 33=bY s.block.hU:=(qE (by rw[bQ];decide)).trans (Kk _)
theorem Pf (s:Node):rd (fG s) 204 33=bY s.block.fin:=(qE (by rw[bQ];decide)).trans (Pc _)
theorem PJ (s:Node):(fG s)[238]? = some (.v (.int .i64 s.up)):=(aG rfl (bQ _)).trans (rfl)
theorem WB (s:Node) (x:Int):dK (fG s) 238 ([.v (.int .i64 x)]) 239=fG { s with up:=x }:=(aD rfl rfl (bQ _)).trans (bI (cJ (bC _)))
theorem Fm (s:Node):(fG s)[239]? = some (.v (.int .i64 s.status)):=(aG rfl (bQ _)).trans ((aG rfl (bC _)).trans (rfl))
theorem Gv (s:Node) (x:Int):dK (fG s) 239 ([.v (.int .i64 x)]) 240=fG { s with status:=x }:=(aD rfl rfl (bQ _)).trans (bI ((aD rfl rfl (bC _)).trans (bI (eI (bC _)))))
def ZN:Node:=⟨fC,0,0⟩
def Zf:List Value:=Rr++([.int .i64 0]++([.int .i64 0]))
theorem IU:Zf.map AV.v=fG ZN:=by simp only[Zf,List.map_append,List.map_cons,List.map_nil,jP,jQ,Pe];rfl
def aFf:List Bool:=WA++([true]++([true]))
theorem We (a b:Node):iC aFf (fG a) (fG b):=(eU (Tn _ _) (eU (show iC [true] [_] [_] from ⟨rfl,trivial⟩) (show iC [true] [_] [_] from ⟨rfl,trivial⟩)))
theorem G0 (a b:Node):fG a=fG b↔a=b:=by
 refine⟨fun h=>?_,fun h=>by rw[h]⟩
 cases a;cases b
 simp only[fG] at h;obtain⟨h0,h⟩:=List.append_inj h (by simp)
 obtain⟨h1,h⟩:=List.append_inj h (by simp)
 have e0:=(Ze _ _).1 h0
 have e1:=(uI _ _).1 h1
 have e2:=(uI _ _).1 h
 subst e0 e1 e2;rfl
theorem PK (s:Node):rd (fG s) 0 240=fG s:=iZ (vC _)
theorem PL (s x:Node):dK (fG s) 0 (fG x) 240=fG x:=eI (vC _)
def cD (l:List Node):List AV:=l.flatMap fG
@[simp] theorem Lc (l:List (Node)):(cD l).length=l.length * 240:=by
 induction l with
 | nil=>rfl
 | cons x l ih=>simp only[cD,List.flatMap_cons,List.length_append,vC,List.length_cons] at *;omega
theorem kD (l:List (Node)):∀x∈cD l,Flat x:=by
 intro x hx;obtain⟨y,_,hy⟩:=List.mem_flatMap.1 hx
 exact La y x hy
theorem G3 (l:List (Node)) (i:Nat) (h:i<l.length):rd (cD l) (i * 240) 240=fG l[i]:=Lw fG 240 (vC) l i h
structure Tree where
 nodes:List Node
def cX (s:Tree):List AV:=[.sl s.nodes.length (cD s.nodes)]
@[simp] theorem Rs (s:Tree):(cX s).length=1:=by simp[cX]
theorem WC (s:Tree):∀x∈cX s,Flat x:=by
 intro x hx;simp only[cX,List.mem_append,List.mem_singleton] at hx;(subst hx;exact .sl _ _ (kD _))
theorem Zg (s:Tree):(cX s)[0]? = some (.sl s.nodes.length (cD s.nodes)):=rfl
theorem PM (s:Tree):rd (cX s) 0 1=cX s:=iZ (Rs _)
theorem PN (s x:Tree):dK (cX s) 0 (cX x) 1=cX x:=eI (Rs _)
end Go.Ab
end
section
namespace Go.Ab
open Classical
def xY (e sz by_:Nat) (v:Option (Nat × List AV)):Option (Option (Nat × Nat) × nM) :=
 match v with
 | some (m,news)=>if news.length=m * sz∧m * by_≤140737488355328∧m≤maxLen then some (none,.row e sz m news) else none
 | none=>none
def xJ (e sz by_:Nat) (o:Option nM) (s g:Nat) (v:Option (Nat × List AV)):Option (Option (Nat × Nat) × nM) :=
 match o,v with
 | some (.row e' tM n cs),some (m,news)=>if news.length=m * sz∧e'=e∧tM=sz∧(n+m) * by_≤140737488355328∧n+m≤maxLen then some (some (s,g),.row e sz (n+m) (cs++news)) else none
 | _,_=>none
def acE (e sz by_ n:Nat) (cs:List AV) (v:Option (Nat × List AV)):Option (Option (Nat × Nat) × nM) :=
 match v with
 | some (m,news)=>if news.length=m * sz∧cs.length=n * sz∧(n=0∨0<m)∧(n+m) * by_≤140737488355328∧n+m≤maxLen then some (none,.row e sz (n+m) (cs++news)) else none
 | none=>none
section
variable {P:Program} {st:St} {T e sz by_:Nat}
theorem uK (hs:dM P T=some (e,sz,by_)) (x:AV):dE P st T (.v (.slice none 0 0)) x=xY e sz by_ (aR st x):=by
 simp only[dE,hs,xY];cases aR st x with
 | none=>rfl
 | some v =>
   obtain⟨m,news⟩:=v
   by_cases h1:news.length=m * sz<;>simp[h1]
theorem sN (hs:dM P T=some (e,sz,by_)) (s g:Nat) (x:AV):dE P st T (.own s g) x=xJ e sz by_ (st.heap s g) s g (aR st x):=by
 simp only[dE,hs,xJ];cases aR st x with
 | none=>cases st.heap s g with
   | none=>rfl
   | some o=>cases o<;>rfl
 | some v =>
   obtain⟨m,news⟩:=v
   cases st.heap s g with
   | none=>by_cases h1:news.length=m * sz<;>simp[h1]
   | some o =>
     cases o with
     | row a b n cs=>by_cases h1:news.length=m * sz<;>simp[h1]
     | _=>by_cases h1:news.length=m * sz<;>simp[h1]
theorem aGT (hs:dM P T=some (e,sz,by_)) (n:Nat) (cs:List AV) (x:AV):dE P st T (.cl n cs) x=acE e sz by_ n cs (aR st x):=by
 simp only[dE,hs,acE];cases aR st x with
 | none=>rfl
 | some v =>
   obtain⟨m,news⟩:=v
   by_cases h1:news.length=m * sz<;>simp[h1]
end
def PO (e sz:Nat) (o:Option nM) (s g:Nat) (i:Int):Option AV :=
 match o with
 | some (.row e' tM n _)=>if 0≤i∧i<n∧e'=e∧tM=sz then some (.ptr s g (i.toNat * sz)) else none
 | _=>none
theorem Pg {P:Program} {st:St} {T e sz by_:Nat} (hn:jM P T=none) (hs:dM P T=some (e,sz,by_)) (s g:Nat) (k:IntKind) (i:Int):bF P st T (.own s g) (.v (.int k i))=PO e sz (st.heap s g) s g i:=by
 simp only[bF,hn,hs,PO];cases st.heap s g with
 | none=>rfl
 | some e=>cases e<;>rfl
theorem aDa (e sz n:Nat) (cs:List AV) (s g:Nat) (i:Int) (h0:0≤i) (h1:i<n):PO e sz (some (.row e sz n cs)) s g i=some (.ptr s g (i.toNat * sz)):=by
 simp[PO,h0,h1]
theorem Rt [Ext] {P:Program} {S e sz by_:Nat} {z:List Value} (hs:dM P S=some (e,sz,by_)) (hz:dZ P e=some z) {call:Nat→List AV→Option AV} {ops:Array Oper} {st:St} {T:Nat} {pos:String} {eP:Array Edge} (d:Nat) :
 cF P call ops ⟨some d,.buildSlice S 0 #[],T,pos,eP,none⟩ st=some ((st.new d (.row e sz 0 [])).put (some d) (.own d (st.aP d))):=by
 rw[lB,hs];simp[cN,hz,gT]
def elV {α:Type} (x:AV) (k:Value→Option α) (fb:Option α):Option α :=
 match x with
 | .v y=>if y.oneCell'=true then k y else fb
 | _=>fb
theorem aDc {α:Type} (kk:IntKind) (n:Int) (k:Value→Option α) (fb:Option α):elV (.v (.int kk n)) k fb=k (.int kk n):=rfl
theorem aAm {α:Type} (n:Bool) (k:Value→Option α) (fb:Option α):elV (.v (.bool n)) k fb=k (.bool n):=rfl
@[congr] theorem aI3 {α:Type} {x y:AV} {k:Value→Option α} {fb:Option α} (h:x=y):elV x k fb=elV y k fb:=by rw[h]
theorem IV [Ext] {P:Program} {S e by_:Nat} {z:Value} (hs:dM P S=some (e,1,by_)) (hz:dZ P e=some [z]) {call:Nat→List AV→Option AV} {ops:Array Oper} {st:St} {T:Nat} {pos:String} {eP:Array Edge} (d:Nat) (x:Operand) :
 cF P call ops ⟨some d,.buildSlice S 1 #[(0,x)],T,pos,eP,none⟩ st=elV (st.ev x) (fun y=>some ((st.new d (.row e 1 1 [.v y])).put (some d) (.own d (st.aP d)))) (cF P call ops ⟨some d,.buildSlice S 1 #[(0,x)],T,pos,eP,none⟩ st):=by
 unfold elV;split
 ·rename_i y h;split
  ·rename_i hy;rw[lB,hs];simp[hz,cN,h,AV.jD,hy,gT,AV.cells]
  ·rfl
 ·rfl
def K5 {α:Type} (z:Nat) (x:AV) (k:List AV→Option α) (fb:Option α):Option α :=
 match x with
 | .agg cs=>if cs.length=z then k cs else fb
 | _=>fb
theorem aDd {α:Type} (z:Nat) (cs:List AV) (k:List AV→Option α) (fb:Option α) (h:cs.length=z):K5 z (.agg cs) k fb=k cs:=if_pos h
@[congr] theorem aI4 {α:Type} {z:Nat} {x y:AV} {k:List AV→Option α} {fb:Option α} (h:x=y):K5 z x k fb=K5 z y k fb:=by rw[h]
theorem Ff [Ext] {P:Program} {S e sz by_:Nat} {z:List Value} (hs:dM P S=some (e,sz,by_)) (hz:dZ P e=some z) (hl:z.length=sz) (hm:sz≤2 ^ 24) {call:Nat→List AV→Option AV} {ops:Array Oper} {st:St} {T:Nat} {pos:String} {eP:Array Edge} (d:Nat) (x:Operand) :
 cF P call ops ⟨some d,.buildSlice S 1 #[(0,x)],T,pos,eP,none⟩ st=K5 sz (st.ev x) (fun cs=>some ((st.new d (.row e sz 1 cs)).put (some d) (.own d (st.aP d)))) (cF P call ops ⟨some d,.buildSlice S 1 #[(0,x)],T,pos,eP,none⟩ st):=by
 unfold K5;split
 ·rename_i cs h;split
  ·rename_i hc;have h2:((List.range 1).flatMap fun _=>z.map AV.v)=z.map AV.v:=by simp[List.range,List.range.loop]
   have hzl:(z.map AV.v).length=sz:=by simpa using hl
   rw[lB,hs];simp only[hz,cN,List.toList_toArray,List.all_cons,List.all_nil,h,AV.jD,Bool.and_self,List.map_cons,List.map_nil,gT,AV.cells,hc,Nat.zero_mul,Nat.zero_add,List.take_zero,List.nil_append];rw[h2,if_pos (by simpa using hm),if_pos (by simp[hzl])]
   rw[List.drop_of_length_le (by rw[hzl];exact Nat.le_refl _),List.append_nil]
  ·rfl
 ·rfl
theorem Iu {e sz by_ s g n:Nat} {cs:List AV} (hl:cs.length=n * sz) (hb:(n:Int) * by_≤140737488355328) (hm:(n:Int)≤maxLen):xJ e sz by_ (some (.row e sz 0 [])) s g (some (n,cs))=some (some (s,g),.row e sz n cs):=by
 simp only[xJ];simp only[Nat.zero_add,true_and,List.nil_append];have oC:n * by_≤140737488355328:=by
  have:((n * by_:Nat):Int)≤140737488355328:=by rw[Int.natCast_mul];exact hb
  omega
 rw[if_pos ⟨hl,oC,by omega⟩]
end Go.Ab
end
section
namespace Go.Ab
open Classical
variable [Ext]
@[congr] theorem aI5 {P:Program} {bi:Bool} {c:Code} {s t:St} (h:s=t):wM P bi c s=wM P bi c t:=by rw[h]
theorem G4 {P:Program} {bi:Bool} (c:Operand) (a b:Code) (st:St):wM P bi (.cond c a b) st=onB (st.ev c) fun t=>if t=true then wM P bi a st else wM P bi b st:=by
 cases h:st.ev c with
 | v x =>
   cases x with
   | bool t=>exact OV P c a b st h
   | _ =>
     apply Option.ext
     intro r;rw[gS];constructor
     ·rintro⟨n,m,h'⟩
      cases m with
      | zero=>simp[uP] at h'
      | succ m=>simp[uP,h] at h'
     ·intro h';simp[onB] at h'
 | _ =>
   apply Option.ext
   intro r;rw[gS];constructor
   ·rintro⟨n,m,h'⟩
    cases m with
    | zero=>simp[uP] at h'
    | succ m=>simp[uP,h] at h'
   ·intro h';simp[onB] at h'
section
variable {P:Program} {call:Nat→List AV→Option AV} {inl:Nat→List AV→St→Option (AV × St)} {ops:Array Oper} {st:St}
theorem WD:mL P true call inl ops [] st=some st:=rfl
theorem PQ (o:Oper) (l:List Oper):mL P true call inl ops (o :: l) st=cN (gU P true call inl ops o st) (mL P true call inl ops l):=rfl
@[congr] theorem aFg {o:Oper} {s t:St} (h:s=t):gU P true call inl ops o s=gU P true call inl ops o t:=by rw[h]
theorem aAn {o:Oper} (h:Fk o=none):gU P true call inl ops o st=cF P call ops o st:=by
 unfold gU;rw[if_pos rfl,h]
theorem G5 {d:Option Nat} {g:Nat} {args:Array Operand} {tH:Array Nat} {T:Nat} {pos:String} {eP:Array Edge} (h:Ext.inl g d=true) :
 gU P true call inl ops ⟨d,.call ⟨.value (.func g),args,tH⟩,T,pos,eP,none⟩ st=cN (inl g (args.toList.map st.ev) st) fun r=>some ((st.back r.2).put d r.1):=by
 have e:Fk ⟨d,.call ⟨.value (.func g),args,tH⟩,T,pos,eP,none⟩=some (g,args.toList):=by
  unfold Fk;simp only
  rw[if_pos h]
 unfold gU;rw[if_pos rfl,e];simp only[gv,if_true];cases inl g (args.toList.map st.ev) st<;>rfl
end
theorem cE (st s:St):(st.back s).env=st.env:=rfl
theorem bE (st s:St):(st.back s).heap=s.heap:=rfl
theorem bB (st s:St):(st.back s).aP=s.aP:=rfl
theorem Cx {P:Program} {fn:Func} {st:St} {e:Ex} {r:ResultVar} {x:AV} (he:e=.ret∨e=.normal) (hr:fn.results.toList=[r]) (h1:kE P st r=some x):aGK P fn (e,st)=some (x,st):=by
 have h:Ao P fn st=some x:=by
  unfold Ao;rw[hr];exact h1
 rcases he with rfl|rfl<;>simp only[aGK,h,Option.map_some]
theorem WE {P:Program} {bi:Bool} {b:Code} (Inv:Nat→St→Prop) (Q:Ex→St→Prop)
 (step:∀n st,Inv n st→∃e st',wM P bi b st=some (e,st')∧((e=.normal∧∃m,m<n∧Inv m st')∨(e≠.normal∧Q e st'))):∀n st,Inv n st→∃e st',wM P bi (.loop b) st=some (e,st')∧e≠.normal∧Q e st':=by
 intro n;induction n using Nat.strongRecOn with
 | _ n ih =>
   intro st h;obtain⟨e,s1,h1,h2⟩:=step n st h
   rw[OU,h1];rcases h2 with ⟨rfl,m,hm,hi⟩|⟨gW,hq⟩
   ·exact ih m hm s1 hi
   ·refine⟨e,s1, ?_,gW,hq⟩
    cases e with
    | normal=>exact absurd rfl gW
    | _=>rfl
theorem lJ {P:Program} {bi:Bool} {b:Code} {st:St} {β:Type} {k:Ex × St→Option β} {R:β→Prop} (Inv:Nat→St→Prop) (Q:Ex→St→Prop) (n:Nat)
 (step:∀n st,Inv n st→∃e st',wM P bi b st=some (e,st')∧((e=.normal∧∃m,m<n∧Inv m st')∨(e≠.normal∧Q e st')))
 (start:Inv n st) (rest:∀e st',Q e st'→∃r,k (e,st')=some r∧R r):∃r,cN (wM P bi (.loop b) st) k=some r∧R r:=by
 obtain⟨e,s1,h1,h2,h3⟩:=WE Inv Q step n st start
 rw[h1];exact rest e s1 h3
theorem aGU {P:Program} {bi:Bool} {b:Code} {st st':St} {n:Nat} {Inv:Nat→St→Prop} {Q:Ex→St→Prop} (h:wM P bi b st=some (.normal,st')) (m:Nat) (hm:m<n) (hi:Inv m st') :
 ∃e st',wM P bi b st=some (e,st')∧((e=.normal∧∃m,m<n∧Inv m st')∨(e≠.normal∧Q e st')):=⟨_,_,h,.inl ⟨rfl,m,hm,hi⟩⟩
theorem aDe {P:Program} {bi:Bool} {b:Code} {st st':St} {e:Ex} {n:Nat} {Inv:Nat→St→Prop} {Q:Ex→St→Prop} (h:wM P bi b st=some (e,st')) (he:e≠.normal) (hq:Q e st') :
 ∃e st',wM P bi b st=some (e,st')∧((e=.normal∧∃m,m<n∧Inv m st')∨(e≠.normal∧Q e st')):=⟨_,_,h,.inr ⟨he,hq⟩⟩
theorem PR {P:Program} {id:Nat} {ops:Array Oper} {d:Bool} {st:St} {l:List (Nat × Nat)} (h:Ext.dyn id ops.size (rZ ops)=l) :
 wM P true (.region id ops d) st=cN (mL P true (aC P) (sH P) ops ops.toList st) fun s=>if qB ops s l then some (.normal,s) else none:=by
 rw[Yz];congr 1
 funext s
 rw[h];by_cases hf:qB ops s l
 ·rw[if_pos hf,if_neg];rintro⟨_,hn⟩
  exact hn hf
 ·rw[if_neg hf,if_pos ⟨rfl,hf⟩]
theorem G6 (ops:Array Oper) (s:St):qB ops s []=True:=rfl
theorem WG (ops:Array Oper) (s:St) (p:Nat × Nat) (l:List (Nat × Nat)):qB ops s (p :: l)=(Vm ops s p∧qB ops s l):=rfl
def PS (s:St) (x y:Option (List Nat)):Prop:=match x,y with|some aS,some bs=>Kt s aS bs|_,_=>False
theorem G7 (ops:Array Oper) (s:St) (i j:Nat):Vm ops s (i,j)=PS s ((ops[i]?).bind gY) ((ops[j]?).bind gY):=rfl
theorem aAo (s:St) (a b:Nat):PS s (some [a]) (some [b])=fW (s.env a) (s.env b):=by simp[PS,Kt]
theorem aAp (s:St) (a a' b:Nat):PS s (some [a,a']) (some [b])=(fW (s.env a) (s.env b)∧fW (s.env a') (s.env b)):=by simp[PS,Kt]
@[congr] theorem aAq {x y x' y':AV} (h:x=x') (h':y=y'):fW x y=fW x' y':=by rw[h,h']
theorem PT (s g o s' g' o':Nat):fW (.ptr s g o) (.ptr s' g' o')=((s,g)≠(s',g')):=rfl
theorem PU (s g o s' g':Nat):fW (.ptr s g o) (.own s' g')=((s,g)≠(s',g')):=rfl
theorem PV (s g s' g' o':Nat):fW (.own s g) (.ptr s' g' o')=((s,g)≠(s',g')):=rfl
theorem PW (x:Value) (s g o:Nat):fW (.v x) (.ptr s g o)=True:=rfl
theorem PX (x:Value) (s g o:Nat):fW (.ptr s g o) (.v x)=True:=rfl
theorem PY (s g n:Nat) (cs:List AV):fW (.own s g) (.sl n cs)=True:=rfl
theorem PZ (s g n:Nat) (cs:List AV):fW (.sl n cs) (.own s g)=True:=rfl
theorem QA (s g o n:Nat) (cs:List AV):fW (.sl n cs) (.ptr s g o)=True:=rfl
theorem QB (s g o n:Nat) (cs:List AV):fW (.ptr s g o) (.sl n cs)=True:=rfl
theorem QC (n m:Nat) (cs ds:List AV):fW (.sl n cs) (.sl m ds)=True:=rfl
theorem QD (s g:Nat) (x:Value):fW (.own s g) (.v x)=True:=rfl
theorem QE (s g:Nat) (x:Value):fW (.v x) (.own s g)=True:=rfl
theorem QF (x:Value) (n:Nat) (cs:List AV):fW (.v x) (.sl n cs)=True:=rfl
theorem QG (x:Value) (n:Nat) (cs:List AV):fW (.sl n cs) (.v x)=True:=rfl
def aAr (x y:AV):Option AV :=
 match x,y with
 | .v (.int k a),.v (.int _ b)=>some (.v (.int k (if b<a then b else a)))
 | _,_=>none
def aAs (x y:AV):Option AV :=
 match x,y with
 | .v (.int k a),.v (.int _ b)=>some (.v (.int k (if b > a then b else a)))
 | _,_=>none
theorem aAt (k k':IntKind) (a b:Int):aAr (.v (.int k a)) (.v (.int k' b))=some (.v (.int k (if b<a then b else a))):=rfl
theorem aAu (k k':IntKind) (a b:Int):aAs (.v (.int k a)) (.v (.int k' b))=some (.v (.int k (if a<b then b else a))):=rfl
@[congr] theorem aGV {x y x' y':AV} (h:x=x') (h':y=y'):aAr x y=aAr x' y':=by rw[h,h']
@[congr] theorem aGW {x y x' y':AV} (h:x=x') (h':y=y'):aAs x y=aAs x' y':=by rw[h,h']
theorem aGX {P:Program} {call:Nat→List AV→Option AV} {ops:Array Oper} {st:St} {d:Option Nat} {T:Nat} {pos:String} {eP:Array Edge} (x y:Operand) (tH:Array Nat) :
 cF P call ops ⟨d,.call ⟨.builtin .min,#[x,y],tH⟩,T,pos,eP,none⟩ st=cN (aAr (st.ev x) (st.ev y)) fun v=>some (st.put d v):=by
 rw[dT];simp only[dI,iJ,aAr];cases st.ev x with
 | v a=>cases a with
   | int k a=>cases st.ev y with
     | v b=>cases b<;>rfl
     | _=>rfl
   | _=>rfl
 | _=>rfl
theorem aGY {P:Program} {call:Nat→List AV→Option AV} {ops:Array Oper} {st:St} {d:Option Nat} {T:Nat} {pos:String} {eP:Array Edge} (x y:Operand) (tH:Array Nat) :
 cF P call ops ⟨d,.call ⟨.builtin .max,#[x,y],tH⟩,T,pos,eP,none⟩ st=cN (aAs (st.ev x) (st.ev y)) fun v=>some (st.put d v):=by
 rw[dT];simp only[dI,iJ,aAs];cases st.ev x with
 | v a=>cases a with
   | int k a=>cases st.ev y with
     | v b=>cases b<;>rfl
     | _=>rfl
   | _=>rfl
 | _=>rfl
noncomputable def mvE (call:Nat→List AV→Option AV) (g:Nat) (rest:List AV) (s k d c:Nat) (o:Option nM):Option rC :=
 match o with
 | some (.row e sz n cs) =>
   if (∀c∈cs,Flat c)∧∀x∈rest,Flat x then
    match call g (.uniq e sz n cs :: rest) with
    | some (.uniq e' tM n' Du)=>some { dst:=some d,val:=.own d c,dK:=some (s,k,none),new:=some (d,[.row e' tM n' Du])}
    | some (.eN [.uniq e' tM n' Du])=>some { dst:=some d,val:=.eN [],dK:=some (s,k,some (.row e' tM n' Du))}
    | _=>none
   else none
 | _=>none
theorem WH (call:Nat→List AV→Option AV) (g s k d:Nat) (rest:List AV) (st:St):lN call g (.own s k :: rest) st (some d)=mvE call g rest s k d (st.aP d) (st.heap s k):=by
 unfold lN mvE;simp only
 cases st.heap s k with
 | none=>rfl
 | some o =>
   cases o with
   | row e sz n cs =>
     simp only
     by_cases hc:(∀c∈cs,Flat c)∧∀x∈rest,Flat x
     ·simp only[if_pos hc];cases call g (.uniq e sz n cs :: rest) with
      | none=>rfl
      | some r =>
        cases r with
        | eN vs =>
          cases vs with
          | nil=>rfl
          | cons x xs =>
            cases x with
            | uniq _ _ _ _=>cases xs<;>rfl
            | _=>rfl
        | _=>rfl
     ·simp only[if_neg hc]
   | _=>rfl
theorem ML {call:Nat→List AV→Option AV} {g:Nat} {rest:List AV} {s k d c e sz n e' tM n':Nat} {cs Du:List AV} (hf:∀c∈cs,Flat c) (hr:∀x∈rest,Flat x) (hc:call g (.uniq e sz n cs :: rest)=some (.uniq e' tM n' Du)) :
 mvE call g rest s k d c (some (.row e sz n cs))=some { dst:=some d,val:=.own d c,dK:=some (s,k,none),new:=some (d,[.row e' tM n' Du])}:=by
 unfold mvE;simp only
 rw[if_pos ⟨hf,hr⟩,hc]
@[congr] theorem aI6 {call:Nat→List AV→Option AV} {g:Nat} {rest:List AV} {s k d c c':Nat} {o o':Option nM} (h:c=c') (h':o=o'):mvE call g rest s k d c o=mvE call g rest s k d c' o':=by rw[h,h']
theorem TZ {call:Nat→List AV→Option AV} {g d:Nat} {rest:List AV} {st:St} {e sz n:Nat} {cs:List AV} (hr:∀x∈rest,Flat x) (hc:call g (.v (.slice none 0 0) :: rest)=some (.uniq e sz n cs)) :
 lN call g (.v (.slice none 0 0) :: rest) st (some d)=some { dst:=some d,val:=.own d (st.aP d),new:=some (d,[.row e sz n cs])}:=by
 have hf:∀x∈AV.v (.slice none 0 0) :: rest,Flat x:=by
  intro x hx;rcases List.mem_cons.1 hx with rfl|hx
  ·exact .v _
  ·exact hr x hx
 have hnf:¬Flat (.uniq e sz n cs):=by intro h;cases h
 unfold lN;simp only[if_pos hf];unfold aL;rw[if_pos hf,hc];simp only[cN];unfold jA;rw[if_neg hnf];rfl
theorem MK {P:Program} {fn:Func} {st:St} {e:Ex} {r:ResultVar} {s g ee sz n:Nat} {cs:List AV} (he:e=.ret∨e=.normal) (hr:fn.results.toList=[r]) (h1:kE P st r=some (.own s g)) (h2:st.heap s g=some (.row ee sz n cs)) (hm:∀c∈cs,dY c) :
 A5 P fn (e,st)=some (.uniq ee sz n cs):=by
 have h:An P fn st=some (.uniq ee sz n cs):=by
  unfold An;rw[hr];simp only[h1,h2];rw[if_pos hm]
 rcases he with rfl|rfl<;>exact h
theorem aCp {P:Program} {fn:Func} {st:St} {e:Ex} {r:ResultVar} {s g ee sz n k:Nat} {cs:List AV} (he:e=.ret∨e=.normal) (hr:fn.results.toList=[r]) (h1:kE P st r=some (.vw s g 0 k)) (h2:st.heap s g=some (.row ee sz n cs)) (hk:k≤n) (hl:cs.length=n * sz) (hm:∀c∈cs,dY c) :
 A5 P fn (e,st)=some (.uniq ee sz k (cs.take (k * sz))):=by
 have h:An P fn st=some (.uniq ee sz k (cs.take (k * sz))):=by
  unfold An;rw[hr];simp only[h1,h2];rw[if_pos ⟨hk,hl,hm⟩]
 rcases he with rfl|rfl<;>exact h
theorem jB (e sz n:Nat) (cs rest:List AV):(St.sZ e sz n cs rest).env 0=.own 0 0:=rfl
theorem mI (e sz n:Nat) (cs rest:List AV) (t:Nat):(St.sZ e sz n cs rest).env (t+1)=(rest[t]?).getD (.v undef):=rfl
theorem jC (e sz n:Nat) (cs rest:List AV):(St.sZ e sz n cs rest).heap 0 0=some (.row e sz n cs):=rfl
theorem kU (e sz n:Nat) (cs rest:List AV):(St.sZ e sz n cs rest).aP 0=1:=rfl
theorem mJ (e sz n:Nat) (cs rest:List AV) (s:Nat) (h:s≠0):(St.sZ e sz n cs rest).aP s=0:=if_neg h
end Go.Ab
end
section
namespace Go.Ab
open Classical
variable [Ext]
theorem Nz {P:Program} {a:Code} {st:St} {β:Type} {k:Ex × St→Option β} {R:β→Prop} (Q:Ex→St→Prop) (h:∃e st',yX P a st=some (e,st')∧Q e st')
 (rest:∀e st',Q e st'→∃r,k (e,st')=some r∧R r):∃r,cN (yX P a st) k=some r∧R r:=by
 obtain⟨e,s1,h1,h2⟩:=h
 rw[h1];exact rest e s1 h2
theorem Je {P:Program} {bi:Bool} {a:Code} {st:St} {β:Type} {k:Ex × St→Option β} {R:β→Prop} (Q:Ex→St→Prop) (h:∃e st',wM P bi a st=some (e,st')∧Q e st')
 (rest:∀e st',Q e st'→∃r,k (e,st')=some r∧R r):∃r,cN (wM P bi a st) k=some r∧R r:=by
 obtain⟨e,s1,h1,h2⟩:=h
 rw[h1];exact rest e s1 h2
theorem jG {β:Type} {x:Option β} {v:β} (h:∃r,x=some r∧r=v):x=some v:=by
 obtain⟨r,h,rfl⟩:=h;exact h
theorem QH {P:Program} {id:Nat} {ops:Array Oper} {d:Bool} {st:St} :
 wM P true (.region id ops d) st=cN (mL P true (aC P) (sH P) ops ops.toList st) fun s=>if qB ops s (Ext.dyn id ops.size (rZ ops)) then some (.normal,s) else none:=PR rfl
theorem WI (o:Oper) (l:List Oper):rZ (o :: l).toArray=o.dst:=by simp[rZ]
section
variable {P:Program} {call:Nat→List AV→Option AV} {inl:Nat→List AV→St→Option (AV × St)} {ops:Array Oper} {st:St} {d:Option Nat} {T:Nat} {pos:String} {eP:Array Edge} {g:Option (Nat × Bool)}
theorem aDf (x:Operand):gU P true call inl ops ⟨d,.move x,T,pos,eP,g⟩ st=cF P call ops ⟨d,.move x,T,pos,eP,g⟩ st:=rfl
theorem G8 (x:Operand):gU P true call inl ops ⟨d,.assign x,T,pos,eP,g⟩ st=cF P call ops ⟨d,.assign x,T,pos,eP,g⟩ st:=rfl
theorem aDg (x y z:Operand):gU P true call inl ops ⟨d,.pick x y z,T,pos,eP,g⟩ st=cF P call ops ⟨d,.pick x y z,T,pos,eP,g⟩ st:=rfl
theorem aAv (S:Nat):gU P true call inl ops ⟨d,.alloc S,T,pos,eP,g⟩ st=cF P call ops ⟨d,.alloc S,T,pos,eP,g⟩ st:=rfl
theorem aGZ (S:Nat) (x:Operand):gU P true call inl ops ⟨d,.box S x,T,pos,eP,g⟩ st=cF P call ops ⟨d,.box S x,T,pos,eP,g⟩ st:=rfl
theorem aAw (S:Nat) (x:Array (Nat × Operand)):gU P true call inl ops ⟨d,.build S x,T,pos,eP,g⟩ st=cF P call ops ⟨d,.build S x,T,pos,eP,g⟩ st:=rfl
theorem CG (S n:Nat) (x:Array (Nat × Operand)):gU P true call inl ops ⟨d,.buildSlice S n x,T,pos,eP,g⟩ st=cF P call ops ⟨d,.buildSlice S n x,T,pos,eP,g⟩ st:=rfl
theorem IW (S:Nat) (x y:Operand):gU P true call inl ops ⟨d,.makeSlice S x y,T,pos,eP,g⟩ st=cF P call ops ⟨d,.makeSlice S x y,T,pos,eP,g⟩ st:=rfl
theorem QI (f:Fn) (x y:Array Operand):gU P true call inl ops ⟨d,.makeFunc f x y,T,pos,eP,g⟩ st=cF P call ops ⟨d,.makeFunc f x y,T,pos,eP,g⟩ st:=rfl
theorem aDh (S:Nat) (x:Operand):gU P true call inl ops ⟨d,.load S x,T,pos,eP,g⟩ st=cF P call ops ⟨d,.load S x,T,pos,eP,g⟩ st:=rfl
theorem aAx (S:Nat) (x y:Operand):gU P true call inl ops ⟨d,.store S x y,T,pos,eP,g⟩ st=cF P call ops ⟨d,.store S x y,T,pos,eP,g⟩ st:=rfl
theorem aAy (o:BinOp) (S S':Nat) (x y:Operand):gU P true call inl ops ⟨d,.binOp o S x y S',T,pos,eP,g⟩ st=cF P call ops ⟨d,.binOp o S x y S',T,pos,eP,g⟩ st:=rfl
theorem aDi (o:UnOp) (S:Nat) (x:Operand):gU P true call inl ops ⟨d,.unOp o S x,T,pos,eP,g⟩ st=cF P call ops ⟨d,.unOp o S x,T,pos,eP,g⟩ st:=rfl
theorem IX (S f:Nat) (x:Operand):gU P true call inl ops ⟨d,.fieldAddr S x f,T,pos,eP,g⟩ st=cF P call ops ⟨d,.fieldAddr S x f,T,pos,eP,g⟩ st:=rfl
theorem aAz (S f:Nat) (x:Operand):gU P true call inl ops ⟨d,.field S x f,T,pos,eP,g⟩ st=cF P call ops ⟨d,.field S x f,T,pos,eP,g⟩ st:=rfl
theorem IY (S:Nat) (x y:Operand):gU P true call inl ops ⟨d,.indexAddr S x y,T,pos,eP,g⟩ st=cF P call ops ⟨d,.indexAddr S x y,T,pos,eP,g⟩ st:=rfl
theorem WJ (S S':Nat) (x:Operand):gU P true call inl ops ⟨d,.convert S S' x,T,pos,eP,g⟩ st=cF P call ops ⟨d,.convert S S' x,T,pos,eP,g⟩ st:=rfl
theorem WK (x:Operand) (i:Nat):gU P true call inl ops ⟨d,.extract x i,T,pos,eP,g⟩ st=cF P call ops ⟨d,.extract x i,T,pos,eP,g⟩ st:=rfl
theorem aAA (S:Nat) (x:Operand) (a b c:Option Operand):gU P true call inl ops ⟨d,.slice S x a b c,T,pos,eP,g⟩ st=cF P call ops ⟨d,.slice S x a b c,T,pos,eP,g⟩ st:=rfl
theorem WL (b:Builtin) (x:Array Operand) (y:Array Nat):gU P true call inl ops ⟨d,.call ⟨.builtin b,x,y⟩,T,pos,eP,g⟩ st=cF P call ops ⟨d,.call ⟨.builtin b,x,y⟩,T,pos,eP,g⟩ st:=rfl
theorem aG0 (t:Nat) (x:Array Operand) (y:Array Nat):gU P true call inl ops ⟨d,.call ⟨.value (.tmp t),x,y⟩,T,pos,eP,g⟩ st=cF P call ops ⟨d,.call ⟨.value (.tmp t),x,y⟩,T,pos,eP,g⟩ st:=rfl
theorem aDj (f:Nat) (x:Array Operand) (y:Array Nat) (h:Ext.inl f d=false):gU P true call inl ops ⟨d,.call ⟨.value (.func f),x,y⟩,T,pos,eP,g⟩ st=cF P call ops ⟨d,.call ⟨.value (.func f),x,y⟩,T,pos,eP,g⟩ st:=aAn (by unfold Fk;simp[h])
theorem UH (f:Nat) (x:Array Operand) (y:Array Nat) (h:Ext.inl f d=true):gU P true call inl ops ⟨d,.call ⟨.value (.func f),x,y⟩,T,pos,eP,none⟩ st=cN (inl f (x.toList.map st.ev) st) fun r=>some ((st.back r.2).put d r.1):=G5 h
theorem aDk (S a:Nat):gY ⟨d,.load S (.tmp a),T,pos,eP,none⟩=some [a]:=rfl
theorem aAB (S a:Nat) (x:Operand):gY ⟨d,.store S (.tmp a) x,T,pos,eP,none⟩=some [a]:=rfl
theorem aAC (S a:Nat) (x:Operand):gY ⟨d,.indexAddr S (.tmp a) x,T,pos,eP,none⟩=some [a]:=rfl
theorem aAD (S a:Nat) (x y z:Option Operand):gY ⟨d,.slice S (.tmp a) x y z,T,pos,eP,none⟩=some [a]:=rfl
theorem aG1 (a:Nat) (y:Array Nat):gY ⟨d,.call ⟨.builtin .len,#[.tmp a],y⟩,T,pos,eP,none⟩=some [a]:=rfl
theorem G9 (a b:Nat) (y:Array Nat):gY ⟨d,.call ⟨.builtin .append,#[.tmp a,.tmp b],y⟩,T,pos,eP,none⟩=some [a,b]:=rfl
theorem aAE (f a:Nat) (b:Operand) (y:Array Nat) (h:Ext.mv f=true):gY ⟨d,.call ⟨.value (.func f),#[.tmp a,b],y⟩,T,pos,eP,none⟩=some [a]:=by simp[gY,h]
end
end Go.Ab
end
