/-
  Part 9 of the proof: an evaluator of programs, its soundness, and what functions of this program compute.
-/
import Derived.Test.YtmcjkemalibacaaGreatK8
import Derived.Test.YtmcjkemalibacaaGreatK5
set_option linter.all false
set_option maxRecDepth 20000
set_option maxHeartbeats 40000000
open List Go.Proofs.Tryz
noncomputable section
section
namespace Go.Ab
open Classical
instance:Inhabited Node:=⟨K4⟩
def nd (ns:List Node) (i:Int):Node:=ns.getD i.toNat K4
def it (l:List Int) (i:Int):Int:=l.getD i.toNat 0
def Jc {ns:List Node} {i:Int} (h0:0<=i) (h1:i<ns.length):∃h:i.toNat<ns.length,nd ns i=ns[i.toNat]:=by
 have h:i.toNat<ns.length:=by omega
 exact⟨h,by simp[nd,h]⟩
def yR {l:List Int} {i:Int} (h0:0<=i) (h1:i<l.length):∃h:i.toNat<l.length,it l i=l[i.toNat]:=by
 have h:i.toNat<l.length:=by omega
 exact⟨h,by simp[it,h]⟩
def WS (l:List Int):aM l=l.map fun x=>.v (.int .i64 x):=by
 induction l with
 | nil=>rfl
 | cons a l ih=>simp only[aM,flatMap_cons,map_cons,rK] at *;rw[ih];rfl
def PV (l:List Int):bF l=l.map fun x=>.v (.int .u64 x):=by
 induction l with
 | nil=>rfl
 | cons a l ih=>simp only[bF,flatMap_cons,map_cons,lV] at *;rw[ih];rfl
def V9 (a b:List Int):aM (a++b)=aM a++aM b:=by simp[aM]
def FB (a b:List Node):bV (a++b)=bV a++bV b:=by simp[bV]
def P4 (l:List Int):∀c∈aM l,iE c:=by rw[WS];intro c hc;obtain⟨x,_,rfl⟩:=mem_map.1 hc;exact .v _
def W0 {l:List Int} {i:Int} (h0:0<=i) (h1:i<l.length):(aM l)[i.toNat]? = some (.v (.int .i64 (it l i))):=by
 obtain⟨h,e⟩:=yR h0 h1
 rw[WS,getElem?_map,getElem?_eq_getElem h,e];rfl
def P2 {l:List Int} {i:Int} (h0:0<=i) (h1:i<l.length):(bF l)[i.toNat]? = some (.v (.int .u64 (it l i))):=by
 obtain⟨h,e⟩:=yR h0 h1
 rw[PV,getElem?_map,getElem?_eq_getElem h,e];rfl
def D2 {ns:List Node} {i:Int} (h0:0<=i) (h1:i<ns.length):((bV ns).drop (i.toNat * 240)).take 240=fF (nd ns i):=by
 obtain⟨h,e⟩:=Jc h0 h1
 rw[e,<- U3 ns i.toNat h];rfl
def PB:((1:Nat)=0)=False:=by simp
def PC:((0:Nat)=1)=False:=by simp
def cP {x:AV} (h:Flat x):∀y∈[x],Flat y:=by simpa using h
def bB {x y:AV} (h:Flat x) (h':Flat y):∀z∈[x,y],Flat z:=by simp[h,h']
def mM {x y u:AV} (h:Flat x) (h':Flat y) (h2:Flat u):∀z∈[x,y,u],Flat z:=by simp[h,h',h2]
def lL (t:Tree):Flat (.agg (cH t)):=.agg _ (A5 t)
def tW (t:Block):Flat (.agg (aU t)):=.agg _ (Dc t)
def rH (t:cC):Flat (.agg (bC t)):=.agg _ (dY t)
def Ud (l:List Int):Flat (.sl l.length (aM l)):=.sl _ _ (gG l)
def aFQ (st:St) (n:Nat) (cs:List AV):aV st (.sl n cs)=some (n,cs):=rfl
def aCT (st:St):aV st (.v (.slice none 0 0))=some (0,[]):=rfl
def aKv (x:Int):rK x=[.v (.int .i64 x)]:=rfl
def aKw (x:Int):lV x=[.v (.int .u64 x)]:=rfl
def aFR (x:Bool):vW x=[.v (.bool x)]:=rfl
namespace Tryz
open Go.Proofs
def aOf (st:St) {ns:List Node} {k:IntKind} {i:Int} (h0:0<=i) (h1:i<ns.length):bI prog st 48 (.sl ns.length (bV ns)) (.v (.int k i))=some (.ip (fF (nd ns i)) 0):=by
 have hl:i.toNat<ns.length:=by omega
 have:i.toNat * 240+240<=ns.length * 240:=by rw[<- Nat.succ_mul];exact Nat.mul_le_mul_right _ hl
 simp only[bI,aKs,KV,h0,h1,On,this,and_self,if_true,D2 h0 h1]
def aGC (st:St) {l:List Int} {k:IntKind} {i:Int} (h0:0<=i) (h1:i<l.length):bI prog st 22 (.sl l.length (aM l)) (.v (.int k i))=some (.ip (rK (it l i)) 0):=by
 obtain⟨h,e⟩:=yR h0 h1
 have:i.toNat * 1+1<=l.length * 1:=by omega
 have hr:=aCt l i.toNat h
 simp only[bI,aFO,Oh,h0,h1,Lt,this,and_self,if_true,e,<- hr];rfl
def aCU {call:Nat->List AV->Option AV} {ops:Array Oper} {st:St} {d:Option Nat} {T:Nat} {pos:String} {fB:Array Edge} (g:Nat) (args:Array Operand) (uF:Array Nat) (h:(g == 215 || g == 226 || g == 227 || g == 229 || g == 228 || g == 230 || g == 231 || g == 210 || g == 81 || g == 217 || g == 222 || g == 235 || g == 220 || g == 101 || g == 57 || g == 32 || (g == 43 && d == some 72) || (g == 31 && d == some 40) || (g == 31 && d == some 56))=false) :
 cI prog call ops ⟨d,.call ⟨.value (.func g),args,uF⟩,T,pos,fB,none⟩ st=cT (bH call g (args.toList.map st.ev) st d) fun e=>some (e.apply st):=by
 simp only[Bool.or_eq_false_iff] at h;exact aE9 g args uF (aFs (by simp only[h,Bool.or_self])) (aCL (by simp only[h,Bool.or_self])) (V1 (by simp only[h]))
def W1 {call:Nat->List AV->Option AV} {ops:Array Oper} {st:St} {d:Option Nat} {T:Nat} {pos:String} {fB:Array Edge} (g:Nat) (args:Array Operand) (uF:Array Nat) (h:(g == 215 || g == 226 || g == 227 || g == 229 || g == 228 || g == 230 || g == 231 || g == 210 || g == 81)=true) :
 cI prog call ops ⟨d,.call ⟨.value (.func g),args,uF⟩,T,pos,fB,none⟩ st=cT (lP call g (args.toList.map st.ev) st d) fun e=>some (e.apply st):=aCn g args uF (K7 h)
def aCV {call:Nat->List AV->Option AV} {ops:Array Oper} {st:St} {d:Option Nat} {T:Nat} {pos:String} {fB:Array Edge} (g:Nat) (args:Array Operand) (uF:Array Nat) (h:(g == 217 || g == 222 || g == 235 || g == 220 || g == 101 || g == 57 || g == 32 || (g == 43 && d == some 72) || (g == 31 && d == some 40))=true) :
 cI prog call ops ⟨d,.call ⟨.value (.func g),args,uF⟩,T,pos,fB,none⟩ st=cT (fJ call g (args.toList.map st.ev) st d) fun e=>some (e.apply st):=by
 refine z7 g args uF ?_ (aCM h)
 simp only[Bool.or_eq_true,Bool.and_eq_true,beq_iff_eq] at h;rcases h with (((((((h|h)|h)|h)|h)|h)|h)|⟨h,_⟩)|⟨h,_⟩<;>(subst h;rfl)
def aOg {S d:Nat} (h:((S == 54 && (d == 36 || d == 42 || d == 26)) || (S == 45 && (d == 84 || d == 91)))=false):Ext.va S d=false:=K5 (by
 simp only[Bool.or_eq_false_iff,Bool.and_eq_false_iff] at h ⊢;exact h.1.imp id fun h=>h.2)
def aOh {S d:Nat} (h:((S == 54 && (d == 36 || d == 42 || d == 26)) || (S == 45 && (d == 84 || d == 91)))=false):Ext.pa S d=false:=aFr (by
 simp only[Bool.or_eq_false_iff,Bool.and_eq_false_iff] at h ⊢;exact⟨h.1.imp id fun h=>h.1,h.2⟩)
def aCW {S d:Nat} (h:((S == 54 && (d == 36 || d == 42)) || (S == 45 && (d == 84 || d == 91)))=true):Ext.va S d=false:=K5 (by
 by_cases h2:d=26
 ·subst h2;simp at h
 ·simp[h2])
def aFS {call:Nat->List AV->Option AV} {ops:Array Oper} {st:St} {T:Nat} {pos:String} {fB:Array Edge} (s x:Operand) (S d:Nat) (h:((S == 54 && (d == 36 || d == 42 || d == 26)) || (S == 45 && (d == 84 || d == 91)))=false):cI prog call ops ⟨some d,.call ⟨.builtin .append,#[s,x],#[S,S]⟩,T,pos,fB,none⟩ st=cT (dJ prog st S (st.ev s) (st.ev x)) fun ur =>
 some (((match ur.1 with|some p=>st.jG p.1 p.2 none|none=>st).new d ur.2).put (some d) (.own d (st.aQ d))):=DP s x S d (aOg h) (aOh h)
def iO {call:Nat->List AV->Option AV} {ops:Array Oper} {st:St} {T:Nat} {pos:String} {fB:Array Edge} (s x:Operand) (S d:Nat) (h:((S == 54 && (d == 36 || d == 42)) || (S == 45 && (d == 84 || d == 91)))=true) (hn:¬(st.ev s=.v (.slice none 0 0)/\(aV st (st.ev x)).map Prod.fst=some 0)):cI prog call ops ⟨some d,.call ⟨.builtin .append,#[s,x],#[S,S]⟩,T,pos,fB,none⟩ st=cT (dJ prog st S (st.ev s) (st.ev x)) fun ur =>
 some (((match ur.1 with|some p=>st.jG p.1 p.2 none|none=>st).new d ur.2).put (some d) (.own d (st.aQ d))):=aCp s x S d (aCW h) (K6 h) hn
def iN {call:Nat->List AV->Option AV} {ops:Array Oper} {st:St} {T:Nat} {pos:String} {fB:Array Edge} (s x:Operand) (S d:Nat) (h:((S == 54 && (d == 36 || d == 42)) || (S == 45 && (d == 84 || d == 91)))=true) (hi:(dX prog S).isSome=true) (h1:st.ev s=.v (.slice none 0 0)) (h2:(aV st (st.ev x)).map Prod.fst=some 0):cI prog call ops ⟨some d,.call ⟨.builtin .append,#[s,x],#[S,S]⟩,T,pos,fB,none⟩ st=some (st.put (some d) (.v (.slice none 0 0))):=aCq s x S d (aCW h) (K6 h) hi h1 h2
end Tryz
end Go.Ab
end
section
namespace Go.Ab
open Classical
def uT (call:Nat->List AV->Option AV) (g:Nat) (xs:Option (List AV)) (fl:Bool) (st:St) (d:Option Nat):Option qZ :=
 cT xs fun xs=>cT (call g xs) fun r=>if fl=true\/Zr r then iZ r st d else none
def Ez {st:St}:∀(args:List AV),(∀x∈args,Flat x)->cK (args.map (fS st))=some args
 | [],_=>rfl
 | x :: xs,h=>by
   simp only[map_cons,eC (h x (by simp)),cK,Ez xs fun y hy=>h y (by simp[hy]),Option.map_some]
def jY (call:Nat->List AV->Option AV) (g:Nat) (args:List AV) (st:St) (d:Option Nat):bH call g args st d=uT call g (cK (args.map (fS st))) (decide (∀x∈args,Flat x)) st d:=by
 unfold bH uT;by_cases h:∀x∈args,Flat x
 ·rw[if_pos h,Ez args h];have hd:decide (∀x∈args,Flat x)=true:=decide_eq_true h
  rw[hd];simp only[cF,true_or,if_true]
 ·rw[if_neg h];cases cK (args.map (fS st)) with
  | none=>rfl
  | some xs =>
    have hd:decide (∀x∈args,Flat x)=false:=decide_eq_false h
    rw[hd];simp only[cF,Bool.false_eq_true,false_or]
def N3 {call:Nat->List AV->Option AV} {g:Nat} {xs:List AV} {r:AV} {fl:Bool} {st:St} {d:Option Nat} (h:call g xs=some r) (hr:Zr r) (hf:Flat r):uT call g (some xs) fl st d=some { dst:=d,val:=r }:=by
 unfold uT;simp only[cF,h,hr,or_true,if_true,iZ,if_pos hf]
def Uc {call:Nat->List AV->Option AV} {g:Nat} {xs:List AV} {b:Bool} {fl:Bool} {st:St} {d:Option Nat} (h:call g xs=some (.v (.bool b))):uT call g (some xs) fl st d=some { dst:=d,val:=.v (.bool b)}:=N3 h (.v _) (.v _)
def Wy {call:Nat->List AV->Option AV} {g:Nat} {xs:List AV} {k:IntKind} {b:Int} {fl:Bool} {st:St} {d:Option Nat} (h:call g xs=some (.v (.int k b))):uT call g (some xs) fl st d=some { dst:=d,val:=.v (.int k b)}:=N3 h (.v _) (.v _)
def aAN {call:Nat->List AV->Option AV} {g:Nat} {xs:List AV} {e sz n:Nat} {cs:List AV} {fl:Bool} {st:St} {d:Nat} (h:call g xs=some (.uniq e sz n cs)) (hr:∀c∈cs,iE c):uT call g (some xs) fl st (some d)=some { dst:=some d,val:=.own d (st.aQ d),new:=some (d,[.row e sz n cs])}:=by
 have XJ:Zr (.uniq e sz n cs):=hr
 have hnf:¬Flat (.uniq e sz n cs):=by intro h;cases h
 unfold uT;simp only[cF,h,XJ,or_true,if_true,iZ,if_neg hnf];rfl
def jN (o:Option oA):Option AV :=
 match o with
 | some (.row _ _ n cs)=>if ∀c∈cs,Flat c then some (.sl n cs) else none
 | _=>none
def wN (st:St) (s g:Nat):fS st (.own s g)=jN (st.heap s g):=by
 unfold fS cN jN;rw[if_neg (nK s g)];simp only[if_neg (nK s g)];cases st.heap s g with
 | none=>rfl
 | some e=>cases e<;>rfl
def W3 (e sz n:Nat) (l:List Int):jN (some (.row e sz n (aM l)))=some (.sl n (aM l)):=by
 unfold jN;simp only;rw[if_pos (gG l)]
def W4 (e sz n:Nat) (l:List Int):jN (some (.row e sz n (bF l)))=some (.sl n (bF l)):=by
 unfold jN;simp only;rw[if_pos (iG l)]
def D3 (e sz n:Nat) (l:List Node):jN (some (.row e sz n (bV l)))=some (.sl n (bV l)):=by
 unfold jN;simp only;rw[if_pos (iU l)]
def WU (e sz:Nat) (x:Node):jN (some (.row e sz 1 (fF x)))=some (.sl [x].length (bV [x])):=by
 unfold jN;simp only;rw[if_pos (Om x)];simp[bV]
def Oq (st:St) (x:Value):fS st (.v x)=some (.v x):=eC (.v x)
def Lo (st:St) (t:Tree):fS st (.agg (cH t))=some (.agg (cH t)):=eC (lL t)
def Us (st:St) (t:cC):fS st (.agg (bC t))=some (.agg (bC t)):=eC (rH t)
def Oz (st:St) (t:Block):fS st (.agg (aU t))=some (.agg (aU t)):=eC (tW t)
def aCX (st:St) (n:Nat) (l:List Int):fS st (.sl n (aM l))=some (.sl n (aM l)):=eC (.sl _ _ (gG l))
def aCY (st:St) (n:Nat) (l:List Int):fS st (.sl n (bF l))=some (.sl n (bF l)):=eC (.sl _ _ (iG l))
def aFT (st:St):fS st (.agg [.v (.slice none 0 0)])=some (.agg [.v (.slice none 0 0)]):=eC (.agg _ (by simp;exact .v _))
def fY {α:Type}:cK ([]:List (Option α))=some []:=rfl
def bK {α:Type} (x:α) (r:List (Option α)):cK (some x :: r)=(cK r).map (x :: ·):=rfl
def aFU (x:Int):zQ 3 1 8 (some (1,[.v (.int .i64 x)]))=some (none,.row 3 1 [x].length (aM [x])):=by
 simp[zQ,maxLen];rfl
def aFV (l:List Int) (x:Int) (s g:Nat) (h:(l.length:Int)<1000000):zF 3 1 8 (some (.row 3 1 l.length (aM l))) s g (some (1,[.v (.int .i64 x)]))=some (some (s,g),.row 3 1 (l++[x]).length (aM (l++[x]))):=by
 simp only[zF];rw[if_pos ⟨by simp,by simp,by simp,by omega,by simp only[maxLen];omega⟩,V9]
 simp[aM,rK]
def aCZ (x:Node):zQ 76 240 352 (some (1,fF x))=some (none,.row 76 240 [x].length (bV [x])):=by
 simp[zQ,maxLen,bV]
def aC0 (l:List Node) (x:Node) (s g:Nat) (h:(l.length:Int)<1000000):zF 76 240 352 (some (.row 76 240 l.length (bV l))) s g (some (1,fF x))=some (some (s,g),.row 76 240 (l++[x]).length (bV (l++[x]))):=by
 simp only[zF];rw[if_pos ⟨by simp,by simp,by simp,by omega,by simp only[maxLen];omega⟩,FB]
 simp[bV]
def aC1 (l:List Node) (h:(l.length:Int)<1000000):zQ 76 240 352 (some (l.length,bV l))=some (none,.row 76 240 l.length (bV l)):=by
 simp only[zQ];rw[if_pos (by refine⟨by simp, ?_, ?_⟩<;>(try simp only[maxLen])<;>omega)]
def aC2 (l:List Node) (h:(l.length:Int)<1000000):acE 76 240 352 0 [] (some (l.length,bV l))=some (none,.row 76 240 l.length (bV l)):=by
 simp only[acE];rw[if_pos ⟨by simp,by simp,by simp,by omega,by simp only[maxLen];omega⟩]
 simp
def aC3 (l:List Node) (x:Node) (h:(l.length:Int)<1000000):acE 76 240 352 l.length (bV l) (some (1,fF x))=some (none,.row 76 240 (l++[x]).length (bV (l++[x]))):=by
 simp only[acE];rw[if_pos (by refine⟨by simp,by simp,.inr (by omega), ?_, ?_⟩<;>(try simp only[maxLen])<;>omega),FB]
 simp[bV]
def onI {α:Type} (x:AV) (k:Int->Option α):Option α :=
 match x with
 | .v (.int .i64 v)=>k v
 | _=>none
def aHn {α:Type} (z:Nat) (x:AV) (k:List AV->Option α):Option α :=
 match x with
 | .agg cs=>if cs.length=z then k cs else none
 | _=>none
@[congr] theorem aLk {α:Type} {x y:AV} {k:Int->Option α} (h:x=y):onI x k=onI y k:=by rw[h]
@[congr] theorem aHo {α:Type} {z:Nat} {x y:AV} {k:List AV->Option α} (h:x=y):aHn z x k=aHn z y k:=by rw[h]
def Oi {α:Type} (x:AV) (k:Int->Option α) (fb:Option α):Option α :=
 match x with
 | .v (.int .i64 v)=>k v
 | _=>fb
def WV {α:Type} (z:Nat) (x:AV) (k:List AV->Option α) (fb:Option α):Option α :=
 match x with
 | .agg cs=>if cs.length=z then k cs else fb
 | _=>fb
def WW {α:Type} (x:AV) (k:Nat->List AV->Option α) (fb:Option α):Option α :=
 match x with
 | .sH g cs=>k g cs
 | _=>fb
def aFW {α:Type} (v:Int) (k:Int->Option α) (fb:Option α):Oi (.v (.int .i64 v)) k fb=k v:=rfl
def W5 {α:Type} (z:Nat) (cs:List AV) (k:List AV->Option α) (fb:Option α) (h:cs.length=z):WV z (.agg cs) k fb=k cs:=if_pos h
def W6 {α:Type} (g:Nat) (cs:List AV) (k:Nat->List AV->Option α) (fb:Option α):WW (.sH g cs) k fb=k g cs:=rfl
@[congr] theorem aLl {α:Type} {x y:AV} {k:Int->Option α} {fb:Option α} (h:x=y):Oi x k fb=Oi y k fb:=by rw[h]
@[congr] theorem aHp {α:Type} {z:Nat} {x y:AV} {k:List AV->Option α} {fb:Option α} (h:x=y):WV z x k fb=WV z y k fb:=by rw[h]
@[congr] theorem aHq {α:Type} {x y:AV} {k:Nat->List AV->Option α} {fb:Option α} (h:x=y):WW x k fb=WW y k fb:=by rw[h]
namespace Tryz
open Go.Proofs
def W7 (st:St) (x:AV):dJ prog st 22 (.v (.slice none 0 0)) x=zQ 3 1 8 (aV st x):=vL Oh x
def W8 (st:St) (s g:Nat) (x:AV):dJ prog st 22 (.own s g) x=zF 3 1 8 (st.heap s g) s g (aV st x):=sF Oh s g x
def W9 (st:St) (x:AV):dJ prog st 48 (.v (.slice none 0 0)) x=zQ 76 240 352 (aV st x):=vL KV x
def X0 (st:St) (s g:Nat) (x:AV):dJ prog st 48 (.own s g) x=zF 76 240 352 (st.heap s g) s g (aV st x):=sF KV s g x
def aC4 (st:St) (n:Nat) (cs:List AV) (x:AV):dJ prog st 48 (.cl n cs) x=acE 76 240 352 n cs (aV st x):=aI4 KV n cs x
def X3 (st:St) (s g:Nat) (k:IntKind) (i:Int):bI prog st 22 (.own s g) (.v (.int k i))=PO 3 1 (st.heap s g) s g i:=by
 simp only[bI,aFO,Oh,PO];cases st.heap s g with
 | none=>rfl
 | some e=>cases e<;>rfl
def X4 (st:St) (s g:Nat) (k:IntKind) (i:Int):bI prog st 48 (.own s g) (.v (.int k i))=PO 76 240 (st.heap s g) s g i:=by
 simp only[bI,aKs,KV,PO];cases st.heap s g with
 | none=>rfl
 | some e=>cases e<;>rfl
def aFX (l:List Int) (s g:Nat) (i:Int) (h0:0<=i) (h1:i<l.length):PO 3 1 (some (.row 3 1 l.length (aM l))) s g i=some (.ptr s g i.toNat):=by
 simp[PO,h0,h1]
def aC5 (l:List Node) (s g:Nat) (i:Int) (h0:0<=i) (h1:i<l.length):PO 76 240 (some (.row 76 240 l.length (bV l))) s g i=some (.ptr s g (i.toNat * 240)):=by
 simp[PO,h0,h1]
def WX (st:St) (s g:Nat):fS st (.agg [.own s g])=(jN (st.heap s g)).map fun y=>.agg [y]:=by
 have hn:¬Flat (.agg [.own s g]):=by intro h;cases h with|agg _ h=>exact nK s g (h _ (by simp))
 unfold fS jN;rw[if_neg hn];simp only[map_cons,map_nil];unfold cN;rw[if_neg (nK s g)];simp only
 cases st.heap s g with
 | none=>rfl
 | some e=>cases e with
   | row a b n cs =>
     by_cases h:∀c∈cs,Flat c
     ·simp only[if_pos h,cK,aAo]
     ·simp only[if_neg h,cK,Option.map_none]
   | _=>rfl
def aKx (x:AV):rd [x] 0 1=[x]:=rfl
def aKy (x y:AV):dP [x] 0 [y] 1=[y]:=rfl
def aC6 (x:AV) (t:Tree):dP [x] 0 (cH t) 1=cH t:=rfl
def aC7 (x:AV) (t:Tree):dP (cH t) 0 [x] 1=[x]:=rfl
def oI {l:List Int} {i:Int} (h0:0<=i) (h1:i<l.length):(aM l)[i.toNat]? = some (.v (.int .i64 (it l i))):=W0 h0 h1
def vow (o:Option oA):Option (Nat × List AV) :=
 match o with
 | some (.row _ _ n cs)=>some (n,cs)
 | some (.Ii _ _ n cs)=>some (n,cs)
 | _=>none
def aFY (e sz n:Nat) (cs:List AV):vow (some (.row e sz n cs))=some (n,cs):=rfl
def X5 (st:St) (s g:Nat):aV st (.own s g)=vow (st.heap s g):=by
 simp only[aV,vow];cases st.heap s g with
 | none=>rfl
 | some o=>cases o<;>rfl
section
variable {call:Nat->List AV->Option AV} {ops:Array Oper} {st:St} {T:Nat} {pos:String} {fB:Array Edge}
theorem aFZ (d:Nat) (x:Operand) {v:Int} (h:st.ev x=.v (.int .i64 v)):cI prog call ops ⟨some d,.buildSlice 22 1 #[(0,x)],T,pos,fB,none⟩ st=some ((st.new d (.row 3 1 1 [.v (.int .i64 v)])).put (some d) (.own d (st.aQ d))):=by
 rw[lC];simp[Oh,ze3,cT,h,AV.jH,Value.oneCell',gS,AV.cells]
theorem aF0 (d:Nat) (x:Operand) {cs:List AV} (h:st.ev x=.agg cs) (hl:cs.length=240):cI prog call ops ⟨some d,.buildSlice 48 1 #[(0,x)],T,pos,fB,none⟩ st=some ((st.new d (.row 76 240 1 cs)).put (some d) (.own d (st.aQ d))):=by
 rw[lC];have hz:(DU.map AV.v).length=240:=by rw[NQ];simp
 simp only[KV,aJy,cT,toList_toArray,all_cons,all_nil,h,AV.jH,Bool.and_self,map_cons,map_nil,gS,AV.cells,hl,Nat.zero_mul,Nat.zero_add,true_and,take_zero,nil_append];have h2:((List.range 1).flatMap fun _=>DU.map AV.v)=DU.map AV.v:=by simp[List.range,List.range.loop]
 rw[h2,if_pos (by simp),if_pos (by rw[hz];exact Nat.le_refl _)]
 rw[drop_of_length_le (by rw[hz];exact Nat.le_refl _),append_nil]
theorem aC8 (d:Nat) (x:Operand):cI prog call ops ⟨some d,.buildSlice 22 1 #[(0,x)],T,pos,fB,none⟩ st =
 Oi (st.ev x) (fun v=>some ((st.new d (.row 3 1 1 [.v (.int .i64 v)])).put (some d) (.own d (st.aQ d)))) (cI prog call ops ⟨some d,.buildSlice 22 1 #[(0,x)],T,pos,fB,none⟩ st):=by
 unfold Oi;split
 ·rename_i v h;exact aFZ d x h
 ·rfl
theorem X6 (d:Nat) (x y z:Operand) {a b c:Int} (h1:st.ev x=.v (.int .i64 a)) (h2:st.ev y=.v (.int .i64 b)) (h3:st.ev z=.v (.int .i64 c)):cI prog call ops ⟨some d,.buildSlice 22 3 #[(0,x),(1,y),(2,z)],T,pos,fB,none⟩ st =
 some ((st.new d (.row 3 1 [a,b,c].length (aM [a,b,c]))).put (some d) (.own d (st.aQ d))):=by
 rw[lC];simp[Oh,ze3,cT,h1,h2,h3,AV.jH,Value.oneCell',gS,AV.cells,List.range,List.range.loop,aM,rK]
theorem D4 (d:Nat) (x y z:Operand):cI prog call ops ⟨some d,.buildSlice 22 3 #[(0,x),(1,y),(2,z)],T,pos,fB,none⟩ st =
 Oi (st.ev x) (fun a=>Oi (st.ev y) (fun b=>Oi (st.ev z) (fun c=>some ((st.new d (.row 3 1 [a,b,c].length (aM [a,b,c]))).put (some d) (.own d (st.aQ d)))) (cI prog call ops ⟨some d,.buildSlice 22 3 #[(0,x),(1,y),(2,z)],T,pos,fB,none⟩ st))
  (cI prog call ops ⟨some d,.buildSlice 22 3 #[(0,x),(1,y),(2,z)],T,pos,fB,none⟩ st)) (cI prog call ops ⟨some d,.buildSlice 22 3 #[(0,x),(1,y),(2,z)],T,pos,fB,none⟩ st):=by
 unfold Oi;split
 ·rename_i a h1;try dsimp only
  split
  ·rename_i b h2;try dsimp only
   split
   ·rename_i c h3;exact X6 d x y z h1 h2 h3
   ·rfl
  ·rfl
 ·rfl
theorem aC9 (d:Nat) (x:Operand):cI prog call ops ⟨some d,.buildSlice 48 1 #[(0,x)],T,pos,fB,none⟩ st =
 WV 240 (st.ev x) (fun cs=>some ((st.new d (.row 76 240 1 cs)).put (some d) (.own d (st.aQ d)))) (cI prog call ops ⟨some d,.buildSlice 48 1 #[(0,x)],T,pos,fB,none⟩ st):=by
 unfold WV;split
 ·rename_i cs h;split
  ·rename_i hl;exact aF0 d x h hl
  ·rfl
 ·rfl
theorem HS (S d:Nat) (l c:Operand):cI prog call ops ⟨some d,.makeSlice S l c,T,pos,fB,none⟩ st =
 Oi (st.ev l) (fun n=>Oi (st.ev c) (fun m=>if 0<=n/\n=m then (cT (dX prog S) fun t=>cT (eK prog t.1) fun z =>
  if n * t.2.2<=140737488355328/\n<=maxLen then some ((st.new d (.row t.1 t.2.1 n.toNat ((List.range n.toNat).flatMap fun _=>z.map .v))).put (some d) (.own d (st.aQ d))) else none)
  else cI prog call ops ⟨some d,.makeSlice S l c,T,pos,fB,none⟩ st) (cI prog call ops ⟨some d,.makeSlice S l c,T,pos,fB,none⟩ st)) (cI prog call ops ⟨some d,.makeSlice S l c,T,pos,fB,none⟩ st):=by
 unfold Oi;split
 ·rename_i n hl;split
  ·rename_i m hc;dsimp only
   split
   ·rename_i hnm;obtain⟨h0,rfl⟩:=hnm
    have hn:n=(n.toNat:Int):=by omega
    rw[NK S d l c (n:=n.toNat) (by rw[hl,<- hn]) (by rw[hc,<- hn]),<- hn]
   ·rfl
  ·rfl
 ·rfl
theorem X7 (t:Nat) (args:Array Operand) (uF:Array Nat) (d:Option Nat):cI prog call ops ⟨d,.call ⟨.value (.tmp t),args,uF⟩,T,pos,fB,none⟩ st =
 WW (st.env t) (fun g mK=>cT (bH call g (args.toList.map st.ev++mK) st d) fun e=>some (e.apply st)) (cI prog call ops ⟨d,.call ⟨.value (.tmp t),args,uF⟩,T,pos,fB,none⟩ st):=by
 unfold WW;split
 ·rename_i g mK h;exact aCo t args uF h
 ·rfl
end
end Tryz
end Go.Ab
end
namespace Go.Ab
open Classical
def Qf {h0:Nat->Obj->Prop} {w w':World} {v:Value} {p:Option Addr} {cap:Nat} (h:v=.slice p 0 cap):CL h0 w w' (.sl 0 []) v:=by
 subst h;exact Vg (.sl 0 [] (fun x hx=>by cases hx)) (.KR 0 cap p (Nat.zero_le _))
def WY [Ext] {P:Program} (hm:P.follows .mixedOrders=true) (hx:JX P) {f:Nat} (h:∀p cap,∃r,aG P f [.v (.slice p 0 cap)]=some r/\(r=.v (.slice none 0 0)\/∃e sz,r=.uniq e sz 0 [])):zA P f/\Vd P f [.sl 0 []] (.sl 0 []):=by
 have o9:zA P f:=by
  obtain⟨r,hr,_⟩:=h none 0
  obtain⟨n,hn⟩:=(uG P).1 hr
  exact (aCf hm hx n f _ r hn).1
 refine⟨o9,fun w h0 vs hh fC=>?_⟩
 have hl:=fC.len
 obtain⟨v,hv⟩:∃v,vs.toList=[v]:=by
  cases e:vs.toList with
  | nil=>rw[e] at hl;simp at hl
  | cons v r=>cases r with
    | nil=>exact⟨v,rfl⟩
    | cons _ _=>rw[e] at hl;simp at hl
 have XN:vs=#[v]:=Array.ext' hv
 subst XN;have h1:cX (bare h0) (.sl 0 []) v:=fC.rel 0 _ v rfl rfl
 obtain⟨p,cap,rfl⟩:=YB h1
 obtain⟨r,hr,hc⟩:=h p cap
 have hC:Vd P f [.v (.slice p 0 cap)] r:=CJ (P:=P) hm hx hr
 refine (hC w h0 #[.slice p 0 cap] hh ⟨rfl,fun i x y hx hy=>?_⟩).mono fun e w' ⟨v,he,hv,hg⟩=>⟨v,he, ?_,hg⟩
 ·cases i with
  | zero=>cases hx;cases hy;exact .v _
  | succ i=>cases hx
 obtain⟨us,_,_,_,h4,h5⟩:=hv
 rcases hc with rfl|⟨e,sz,rfl⟩
 ·have hl:us=[]:=length_eq_zero_iff.1 (h4 0 0).symm
  subst hl;have:=(h5 (bare (newHs h0 w w' [])) 0 0 (fun _ _ h=>h) (by simp)).1
  exact Qf (iL this)
 ·have hl:us.length=1:=(h4 0 0).symm
  obtain⟨u,rfl⟩:=length_eq_one_iff.1 hl
  have h6:=h5 ⟨newHs h0 w w' [u],fun _ _=>u,fun _=>1⟩ 0 0 (fun _ _ h=>h) (fun i x hx=>by
   cases i with
   | zero=>cases hx;exact⟨Nat.zero_lt_one,rfl⟩
   | succ i=>cases hx)
  have h7:v=u:=by
   have:=h6.1
   cases this
   rfl
  subst h7;obtain⟨xs,ho,_⟩:=h6.2 0 _ v rfl rfl
  rcases ho.2 with ⟨q,hq,_⟩|⟨b,c,cur,hq,_⟩
  ·exact Qf hq
  ·exact Qf hq
end Go.Ab
section
namespace Go.Ab.Tryz
open Classical Go.Proofs Go.Ab
def aKz:@Fa aFq Tryz.f164=true:=by kernel_rfl
section
variable [E:Ext]
theorem aOi (p:Option Addr) (cap:Nat):gL prog .eql 45 (.v (.slice p 0 cap)) (.v (.slice none 0 0))=some (.v (.bool p.isNone)):=by
 have h:uO prog .eql 45 p.isNone=some (.v (.bool p.isNone)):=by cases p<;>kernel_rfl
 exact h
theorem sv0 (st:St) (p:Option Addr) (cap:Nat):aV st (.v (.slice p 0 cap))=some (0,[]):=rfl
theorem aUR (hx:∀xs,E.ext 164 xs=none) (hk:E.pI 164=false) (hv:E.va 45 7=false) (hp:E.pa 45 7=false) (pJ:Fa Tryz.f164=true) (p:Option Addr) (cap:Nat):∃r,aG prog 164 [.v (.slice p 0 cap)]=some r/\(r=.v (.slice none 0 0)\/∃e sz,r=.uniq e sz 0 []):=by
 rw[Rt prog func164 rfl pJ _ (hx _) rfl];cases p with
 | none =>
   have h:=aOi none cap
   refine⟨.v (.slice none 0 0), ?_,.inl rfl⟩
   simp -implicitDefEqProofs only [Tryz.f164,cF,Ba,kJ,Af,wW,Ak,Lz,Ag,Ma,Fs,wX,Mf,Mg,Mh,Mi,Mj,Mk,Ml,Mm,Mn,Mo,Nw,Ga,Aj,wY,wZ,Fq,Sr,Fu,Vp,Mb,sD,Fz,Fx,uH,Ly,wV,Ae,Fo,Fp,Lx,Ai,yG,yH,qO,Md,Me,Fw,Mc,Fv,Fy,Ah,sE,Al,xA,Ft,Vw,Vx,Ge,Gf,Ex.inBlock,ge_iff_le,gt_iff_lt,Bool.or_false,Bool.false_or,Bool.false_and,Bool.or_true,Bool.not_true,Bool.not_false,Bool.false_eq_true,Bool.true_eq_false,getElem?_toArray,toList_toArray,Option.bind_some,Option.map_some,Option.getD_some,Option.getD_none,map_cons,map_nil,getElem?_cons_zero,getElem?_cons_succ,getElem?_nil,and_true,true_and,and_self,false_and,and_false,↓reduceIte,reduceCtorEq,if_true,if_false,decide_true,decide_false,not_false_eq_true,ne_eq,Nat.reduceEqDiff,Nat.reduceBEq,Nat.succ_ne_zero,Nat.add_zero,Nat.zero_add,seval,h,Option.isNone_none]
   exact UU hk (.inl rfl) rfl (by simp only[cF,Ba,kJ,Af,wW,Ak,Lz,Ag,Ma,Fs,wX,Mf,Mg,Mh,Mi,Mj,Mk,Ml,Mm,Mn,Mo,Nw,Ga,Aj,wY,wZ,Fq,Sr,Fu,Vp,Mb,sD,Fz,Fx,uH,Ly,wV,Ae,Fo,Fp,Lx,Ai,yG,yH,qO,Md,Me,Fw,Mc,Fv,Fy,Ah,sE,Al,xA,Ft,Vw,Vx,Ge,Gf,Ex.inBlock,ge_iff_le,gt_iff_lt,Bool.or_false,Bool.false_or,Bool.false_and,Bool.or_true,Bool.not_true,Bool.not_false,Bool.false_eq_true,Bool.true_eq_false,getElem?_toArray,toList_toArray,Option.bind_some,aAo,Option.getD_some,Option.getD_none,map_cons,map_nil,getElem?_cons_zero,getElem?_cons_succ,getElem?_nil,and_true,true_and,and_self,false_and,and_false,↓reduceIte,reduceCtorEq,if_true,if_false,decide_true,decide_false,not_false_eq_true,ne_eq,Nat.reduceEqDiff,Nat.reduceBEq,Nat.succ_ne_zero,Nat.add_zero,Nat.zero_add,seval]) (.v _)
 | some a =>
   have h:=aOi (some a) cap
   have ha:=fun s g=>Lj (e:=74) (sz:=238) (by_:=336) (s:=s) (g:=g) (n:=0) (cs:=[]) rfl (by decide) (by decide)
   refine⟨.uniq 74 238 0 [], ?_,.inr ⟨74,238,rfl⟩⟩
   simp -implicitDefEqProofs only [Tryz.f164,cF,Ba,kJ,Af,wW,Ak,Lz,Ag,Ma,Fs,wX,Mf,Mg,Mh,Mi,Mj,Mk,Ml,Mm,Mn,Mo,Nw,Ga,Aj,wY,wZ,Fq,Sr,Fu,Vp,Mb,sD,Fz,Fx,uH,Ly,wV,Ae,Fo,Fp,Lx,Ai,yG,yH,qO,Md,Me,Fw,Mc,Fv,Fy,Ah,sE,Al,xA,Ft,Vw,Vx,Ge,Gf,Ex.inBlock,ge_iff_le,gt_iff_lt,Bool.or_false,Bool.false_or,Bool.false_and,Bool.or_true,Bool.not_true,Bool.not_false,Bool.false_eq_true,Bool.true_eq_false,getElem?_toArray,toList_toArray,Option.bind_some,Option.map_some,Option.getD_some,Option.getD_none,map_cons,map_nil,getElem?_cons_zero,getElem?_cons_succ,getElem?_nil,and_true,true_and,and_self,false_and,and_false,↓reduceIte,reduceCtorEq,if_true,if_false,decide_true,decide_false,not_false_eq_true,ne_eq,Nat.reduceEqDiff,Nat.reduceBEq,Nat.succ_ne_zero,Nat.add_zero,Nat.zero_add,seval,h,Option.isNone_some,Vv nF aBC,DP _ _ 45 7 hv hp,sF nF,sv0,ha]
   exact Rq (s:=7) (g:=0) hk (.inl rfl) rfl (by simp only[cF,Ba,kJ,Af,wW,Ak,Lz,Ag,Ma,Fs,wX,Mf,Mg,Mh,Mi,Mj,Mk,Ml,Mm,Mn,Mo,Nw,Ga,Aj,wY,wZ,Fq,Sr,Fu,Vp,Mb,sD,Fz,Fx,uH,Ly,wV,Ae,Fo,Fp,Lx,Ai,yG,yH,qO,Md,Me,Fw,Mc,Fv,Fy,Ah,sE,Al,xA,Ft,Vw,Vx,Ge,Gf,Ex.inBlock,ge_iff_le,gt_iff_lt,Bool.or_false,Bool.false_or,Bool.false_and,Bool.or_true,Bool.not_true,Bool.not_false,Bool.false_eq_true,Bool.true_eq_false,getElem?_toArray,toList_toArray,Option.bind_some,aAo,Option.getD_some,Option.getD_none,map_cons,map_nil,getElem?_cons_zero,getElem?_cons_succ,getElem?_nil,and_true,true_and,and_self,false_and,and_false,↓reduceIte,reduceCtorEq,if_true,if_false,decide_true,decide_false,not_false_eq_true,ne_eq,Nat.reduceEqDiff,Nat.reduceBEq,Nat.succ_ne_zero,Nat.add_zero,Nat.zero_add,seval]) (by simp only[cF,Ba,kJ,Af,wW,Ak,Lz,Ag,Ma,Fs,wX,Mf,Mg,Mh,Mi,Mj,Mk,Ml,Mm,Mn,Mo,Nw,Ga,Aj,wY,wZ,Fq,Sr,Fu,Vp,Mb,sD,Fz,Fx,uH,Ly,wV,Ae,Fo,Fp,Lx,Ai,yG,yH,qO,Md,Me,Fw,Mc,Fv,Fy,Ah,sE,Al,xA,Ft,Vw,Vx,Ge,Gf,Ex.inBlock,ge_iff_le,gt_iff_lt,Bool.or_false,Bool.false_or,Bool.false_and,Bool.or_true,Bool.not_true,Bool.not_false,Bool.false_eq_true,Bool.true_eq_false,getElem?_toArray,toList_toArray,Option.bind_some,aAo,Option.getD_some,Option.getD_none,map_cons,map_nil,getElem?_cons_zero,getElem?_cons_succ,getElem?_nil,and_true,true_and,and_self,false_and,and_false,↓reduceIte,reduceCtorEq,if_true,if_false,decide_true,decide_false,not_false_eq_true,ne_eq,Nat.reduceEqDiff,Nat.reduceBEq,Nat.succ_ne_zero,Nat.add_zero,Nat.zero_add,seval]<;>rfl) (fun c h=>by cases h)
end
def X8:pE prog Ext.ext:=fun g xs r h=>by
 have h:(bif g == 164 then clE xs else none)=some r:=h
 cases hg:g == 164 with
 | false=>rw[hg] at h;cases h
 | true =>
   rw[hg] at h;have hg:g=164:=by simpa using hg
   subst hg;have h:clE xs=some r:=h
   unfold clE at h;split at h
   ·cases h
    exact @WY aFq prog mixed ⟨fun _ _ _ h=>(by cases h),fun _ _ _ _ _ h=>(by cases h)⟩ 164 (@aUR aFq (fun _=>rfl) rfl rfl rfl aKz)
   ·cases h
end Go.Ab.Tryz
end
namespace Go.Ab.Tryz
open Classical Go.Proofs Go.Ab
def aKA:JX prog:=⟨X8,fun _ _ _ _ _ h=>by cases h⟩
end Go.Ab.Tryz
namespace Go.Ab
open Classical
def aF1 (b:Bool):unA .not (.v (.bool b))=some (.v (.bool (!b))):=rfl
def aF2 (k:IntKind) (n:Int):unA .neg (.v (.int k n))=some (.v (.int k (k.wrap (0-n)))):=rfl
def aF3 (k:IntKind) (n:Int):unA .xor (.v (.int k n))=some (.v (.int k (k.wrap (BitVec.ofInt k.bits (if k.signed then -1 else k.max) ^^^ BitVec.ofInt k.bits n).toNat))):=rfl
def aDa (a b:Option IntKind) (n:Int):Option AV :=
 match a,b with
 | some k,some _=>some (.v (.int k (k.wrap n)))
 | _,_=>none
def D5 (k k':IntKind) (n:Int):aDa (some k) (some k') n=some (.v (.int k (k.wrap n))):=rfl
def X9 (P:Program) (s d:Nat) (k:IntKind) (n:Int):Nw P s d (.v (.int k n))=aDa (intKind P d) (intKind P s) n:=by
 simp only[Nw,aDa];cases intKind P d with
 | none=>rfl
 | some a=>cases intKind P s<;>rfl
def aF4 (s g o k:Nat):wC (.ptr s g o) k=some (.ptr s g (o+k)):=rfl
def aKB (cs:List AV) (o k:Nat):wC (.ip cs o) k=if o+k<=cs.length then some (.ip cs (o+k)) else none:=rfl
def sK (P:Program) (T:Nat) (e:Option oA) (o:Nat):Option AV :=
 match e with
 | some (.cells cs)=>eZ P T cs o
 | some (.row _ _ _ cs)=>eZ P T cs o
 | some (.Ii _ _ _ cs)=>eZ P T cs o
 | _=>none
def WZ (P:Program) (T o:Nat) (cs:List AV):sK P T (some (.cells cs)) o=eZ P T cs o:=rfl
def Y0 (P:Program) (T o e sz n:Nat) (cs:List AV):sK P T (some (.row e sz n cs)) o=eZ P T cs o:=rfl
def aF5 (P:Program) (st:St) (T o:Nat) (cs:List AV):Hx P st T (.ip cs o)=eZ P T cs o:=rfl
def aDb (P:Program) (st:St) (T s g o:Nat):Hx P st T (.ptr s g o)=sK P T (st.heap s g) o:=by
 simp only[Hx,sK];cases st.heap s g with
 | none=>rfl
 | some e=>cases e<;>rfl
def aKC (x:Value):(AV.v x).jH=x.oneCell':=rfl
def aDc (cs:List AV):(AV.agg cs).jH=true:=rfl
def aF6 (n:Nat) (cs:List AV):(AV.sl n cs).jH=true:=rfl
def aF7 (n:Nat) (cs:List AV):(AV.cl n cs).jH=true:=rfl
def aF8 (n:Nat) (cs:List AV):(AV.ip cs n).jH=true:=rfl
def aDd (s g o:Nat):(AV.ptr s g o).jH=true:=rfl
def aDe (s g:Nat):(AV.own s g).jH=true:=rfl
def aF9 (s g:Nat):(AV.mp s g).jH=true:=rfl
def aDf (f:Nat) (cs:List AV):(AV.sH f cs).jH=true:=rfl
def aOj (x:Value):(AV.v x).cells=[.v x]:=rfl
def aGa (cs:List AV):(AV.agg cs).cells=cs:=rfl
def aKD (n:Nat) (cs:List AV):(AV.sl n cs).cells=[.sl n cs]:=rfl
def aKE (n:Nat) (cs:List AV):(AV.cl n cs).cells=[.cl n cs]:=rfl
def aKF (n:Nat) (cs:List AV):(AV.ip cs n).cells=[.ip cs n]:=rfl
def aGb (s g o:Nat):(AV.ptr s g o).cells=[.ptr s g o]:=rfl
def aGc (s g:Nat):(AV.own s g).cells=[.own s g]:=rfl
def aKG (s g:Nat):(AV.mp s g).cells=[.mp s g]:=rfl
def aGd (f:Nat) (cs:List AV):(AV.sH f cs).cells=[.sH f cs]:=rfl
def aGe (k:IntKind) (n:Int):(Value.int k n).oneCell'=true:=rfl
def aDg (b:Bool):(Value.bool b).oneCell'=true:=rfl
def Y1 (a:Option Addr) (n m:Nat):(Value.slice a n m).oneCell'=true:=rfl
def D6 (id:Nat):Ex.normal.inBlock id=.normal:=rfl
def aGf (id:Nat):Ex.ret.inBlock id=.ret:=rfl
def aDh (id i:Nat):(Ex.exit i).inBlock id=if i=id then .normal else .exit i:=rfl
def aGg (l:List Oper) (j:Nat):Sr l.toArray j=(l[j]?).bind (·.dst):=by simp[Sr]
def gei (a b:Int):(a>=b)=(b<=a):=rfl
def gti (a b:Int):(a > b)=(b<a):=rfl
def aUS (a b:Nat):(a>=b)=(b<=a):=rfl
def gtn (a b:Nat):(a > b)=(b<a):=rfl
end Go.Ab
section
namespace Go.Ab
open Classical
def cU8 (x:Int):List AV:=[.v (.int .u8 x)]
def aGh (x:Int):(cU8 x).length=1:=rfl
def aDi (s:Int):∀x∈cU8 s,Flat x:=by intro x hx;simp[cU8] at hx;subst hx;exact .v _
def kM (l:List Int):List AV:=l.flatMap cU8
def wQ (l:List Int):∀x∈kM l,Flat x:=by
 intro x hx;obtain⟨y,_,hy⟩:=mem_flatMap.1 hx
 exact aDi y x hy
section
variable {α:Type} {c:α->List AV} {sz:Nat}
theorem iK (hc:∀x,(c x).length=sz) (l:List α):(l.flatMap c).length=l.length * sz:=by
 induction l with
 | nil=>simp
 | cons x l ih=>simp only[flatMap_cons,length_append,hc,length_cons,ih];rw[Nat.succ_mul];omega
theorem xI (hc:∀x,(c x).length=sz):∀(l:List α) (k:Nat),(l.flatMap c).take (k * sz)=(l.take k).flatMap c
 | [],k=>by simp
 | x :: l,0=>by simp
 | x :: l,k+1=>by
   simp only[flatMap_cons,take_succ_cons];rw[take_append,take_of_length_le (by rw[hc,Nat.succ_mul];omega),hc,show (k+1) * sz-sz=k * sz by rw[Nat.succ_mul];omega,xI hc l k]
theorem Cw (hc:∀x,(c x).length=sz):∀(l:List α) (k:Nat),(l.flatMap c).drop (k * sz)=(l.drop k).flatMap c
 | [],k=>by simp
 | x :: l,0=>by simp
 | x :: l,k+1=>by
   simp only[flatMap_cons,drop_succ_cons];rw[drop_append,drop_of_length_le (by rw[hc,Nat.succ_mul];omega),nil_append,hc,show (k+1) * sz-sz=k * sz by rw[Nat.succ_mul];omega,Cw hc l k]
theorem Lc (hc:∀x,(c x).length=sz) {z:α} {l:List α} {i:Int} (h0:0<=i) (h1:i<l.length):((l.flatMap c).drop (i.toNat * sz)).take sz=c (gx z l i):=by
 obtain⟨h,e⟩:=B7 (z:=z) h0 h1
 rw[Cw hc,e];have h2:=xI hc (l.drop i.toNat) 1
 rw[Nat.one_mul] at h2;rw[h2];have h3:(l.drop i.toNat).take 1=[l[i.toNat]]:=by rw[take_one];simp[head?_drop,h]
 rw[h3];simp
theorem Wp (hc:∀x,(c x).length=sz) (l:List α) (k:Nat) (x:α) (h:k<l.length):dP (l.flatMap c) (k * sz) (c x) (k * sz+sz)=(l.set k x).flatMap c:=by
 unfold dP;rw[xI hc,show k * sz+sz=(k+1) * sz by rw[Nat.succ_mul],Cw hc,set_eq_take_append_cons_drop,if_pos h]
 simp
theorem KN [Ext] {P:Program} {T e n k off:Nat} (hc:∀x,(c x).length=sz) {z:α} {l:List α} {i:Int} (h0:0<=i) (h1:i<l.length) (hk:tI P T=some k) (rC:0<k) (ho:off+k<=sz) :
 sK P T (some (.row e sz n (l.flatMap c))) (i.toNat * sz+off)=eZ P T (c (gx z l i)) off:=by
 obtain⟨hn,_⟩:=B7 (z:=z) h0 h1
 have hat:=Lc hc (z:=z) h0 h1
 have hle:i.toNat * sz+sz<=(l.flatMap c).length:=by
  rw[iK hc,<- Nat.succ_mul];exact Nat.mul_le_mul_right _ hn
 have zO:=hc (gx z l i)
 simp only[sK,eZ];unfold tI at hk;cases hi:fW P T with
 | none=>rfl
 | some r =>
   obtain⟨b,k'⟩:=r
   rw[hi] at hk;simp only[aAo,aAk] at hk;subst hk;have hg:∀j,j<sz->(l.flatMap c)[i.toNat * sz+j]? = (c (gx z l i))[j]?:=fun j hj=>by
    rw[<- hat,getElem?_take,if_pos hj,getElem?_drop]
   cases b with
   | true =>
     simp only
     have e1:rd (l.flatMap c) (i.toNat * sz+off) k'=rd (c (gx z l i)) off k':=by
      unfold rd;rw[<- hat,drop_take,drop_drop,take_take,Nat.min_eq_left (by omega)]
     rw[e1];have l1:k'<=(l.flatMap c).length-(i.toNat * sz+off):=by omega
     have l2:k'<=(c (gx z l i)).length-off:=by omega
     rw[if_pos ⟨rC,l1⟩,if_pos ⟨rC,l2⟩]
   | false =>
     simp only
     exact hg off (by omega)
end
def aDj (ns:List Node):nA ⟨.sl ns.length (bV ns)⟩=cH ⟨ns⟩:=rfl
def FC (s:aL) (l:List Node):dP (aA s) 115 (cH ⟨l⟩) 116=aA { s with tree:=⟨.sl l.length (bV l)⟩}:=Ec s ⟨.sl l.length (bV l)⟩
def FD (s:State) (l:List Node):dP (aP s) 115 (cH ⟨l⟩) 116=aP { s with store:={ s.store with tree:=⟨.sl l.length (bV l)⟩} }:=zJ s ⟨.sl l.length (bV l)⟩
namespace Tryz
open Go.Proofs
def Y2 (st:St) (t:dL):fS st (.agg (bG t))=some (.agg (bG t)):=eC (.agg _ (bR t))
def PD (st:St) (t:Request):fS st (.agg (dF t))=some (.agg (dF t)):=eC (.agg _ (jV t))
def XA (st:St) (s:aL) (h:Flat (.agg (aA s))):fS st (.agg (aA s))=some (.agg (aA s)):=eC h
def XB (st:St) (s:State) (h:Flat (.agg (aP s))):fS st (.agg (aP s))=some (.agg (aP s)):=eC h
def aGi (st:St) {l:List dL} {kk:IntKind} {i:Int} (h0:0<=i) (h1:i<l.length):bI prog st 109 (.sl l.length (oY l)) (.v (.int kk i))=some (.ip (bG (gx gM l i)) 0):=by
 have hl:i.toNat<l.length:=by omega
 have h2:i.toNat * 33+33<=(l.flatMap bG).length:=by rw[iK bW,<- Nat.succ_mul];exact Nat.mul_le_mul_right _ hl
 have h3:((oY l).drop (i.toNat * 33)).take 33=bG (gx gM l i):=Lc bW h0 h1
 have h4:(oY l).length=(l.flatMap bG).length:=rfl
 (simp only[bI,aCS,QU,h0,h1,h4,h2,and_self,if_true,h3])<;>rfl
def LD {T n k off:Nat} {l:List dL} {i:Int} (h0:0<=i) (h1:i<l.length) (hk:tI prog T=some k) (rC:0<k) (ho:off+k<=33):sK prog T (some (.row 41 33 n (oY l))) (i.toNat * 33+off)=eZ prog T (bG (gx gM l i)) off:=KN bW h0 h1 hk rC ho
def G6 {T n k:Nat} {l:List dL} {i:Int} (h0:0<=i) (h1:i<l.length) (hk:tI prog T=some k) (rC:0<k) (ho:k<=33):sK prog T (some (.row 41 33 n (oY l))) (i.toNat * 33)=eZ prog T (bG (gx gM l i)) 0:=by
 have h:=LD (n:=n) (off:=0) h0 h1 hk rC (by omega)
 rw[Nat.add_zero] at h;exact h
def Rf (l:List dL) (i:Int) (x:dL) (h:i.toNat<l.length):dP (oY l) (i.toNat * 33) (bG x) (i.toNat * 33+33)=oY (l.set i.toNat x):=by
 generalize i.toNat=k at h ⊢
 have:=Wp (c:=bG) (sz:=33) bW l k x h
 exact this
def XC (st:St) (o:Option (List kN)):aV st (ov dE o)=some ((ol o).length,dE (ol o)):=by cases o<;>rfl
def pM (o:Option (List kN)):Flat (ov dE o):=by
 cases o with
 | none=>exact .v _
 | some l=>exact .sl _ _ (nN l)
def aDk (st:St) {l:List kN} {kk:IntKind} {i:Int} (h0:0<=i) (h1:i<l.length):bI prog st 37 (.sl l.length (dE l)) (.v (.int kk i))=some (.ip (jT (gx pN l i)) 0):=by
 have hl:i.toNat<l.length:=by omega
 have h2:i.toNat * 34+34<=(l.flatMap jT).length:=by rw[iK sG,<- Nat.succ_mul];exact Nat.mul_le_mul_right _ hl
 have h3:((dE l).drop (i.toNat * 34)).take 34=jT (gx pN l i):=Lc sG h0 h1
 have h4:(dE l).length=(l.flatMap jT).length:=rfl
 (simp only[bI,aKq,V8,h0,h1,h4,h2,and_self,if_true,h3])<;>rfl
def aKH (st:St) {o:Option (List kN)} {kk:IntKind} {i:Int} (h0:0<=i) (h1:i<(ol o).length):bI prog st 37 (ov dE o) (.v (.int kk i))=some (.ip (jT (gx pN (ol o) i)) 0):=by
 cases o with
 | none=>simp[ol] at h1;omega
 | some l=>exact aDk st h0 h1
def RA (l:List kN) (h:(l.length:Int)<1000000):zQ 100 34 48 (some (l.length,dE l))=some (none,.row 100 34 l.length (dE l)):=by
 unfold zQ;simp only
 rw[if_pos ⟨iK sG l,by omega,by simp only[maxLen];omega⟩]
def Zh (n:Nat) (l:List kN):jN (some (.row 100 34 n (dE l)))=some (.sl n (dE l)):=by
 unfold jN;simp only;rw[if_pos (nN l)]
def L5 {T n k off:Nat} {l:List kN} {i:Int} (h0:0<=i) (h1:i<l.length) (hk:tI prog T=some k) (rC:0<k) (ho:off+k<=34):sK prog T (some (.row 100 34 n (dE l))) (i.toNat * 34+off)=eZ prog T (jT (gx pN l i)) off:=KN sG h0 h1 hk rC ho
def G7 {T n k:Nat} {l:List kN} {i:Int} (h0:0<=i) (h1:i<l.length) (hk:tI prog T=some k) (rC:0<k) (ho:k<=34):sK prog T (some (.row 100 34 n (dE l))) (i.toNat * 34)=eZ prog T (jT (gx pN l i)) 0:=by
 have h:=L5 (n:=n) (off:=0) h0 h1 hk rC (by omega)
 rw[Nat.add_zero] at h;exact h
def LI (l:List kN) (i:Int) (x:kN) (h:i.toNat<l.length):dP (dE l) (i.toNat * 34) (jT x) (i.toNat * 34+34)=dE (l.set i.toNat x):=by
 generalize i.toNat=k at h ⊢
 have:=Wp (c:=jT) (sz:=34) sG l k x h
 exact this
def D7 (st:St) (o:Option (List rX)):aV st (ov dT o)=some ((ol o).length,dT (ol o)):=by cases o<;>rfl
def AZ (o:Option (List rX)) (h:∀y∈ol o,Flat y.eM):Flat (ov dT o):=by
 cases o with
 | none=>exact .v _
 | some l=>exact .sl _ _ (tO l h)
def aDl (st:St) {l:List rX} {kk:IntKind} {i:Int} (h0:0<=i) (h1:i<l.length):bI prog st 44 (.sl l.length (dT l)) (.v (.int kk i))=some (.ip (iD (gx Jx l i)) 0):=by
 have hl:i.toNat<l.length:=by omega
 have h2:i.toNat * 67+67<=(l.flatMap iD).length:=by rw[iK iI,<- Nat.succ_mul];exact Nat.mul_le_mul_right _ hl
 have h3:((dT l).drop (i.toNat * 67)).take 67=iD (gx Jx l i):=Lc iI h0 h1
 have h4:(dT l).length=(l.flatMap iD).length:=rfl
 (simp only[bI,aNO,aCR,h0,h1,h4,h2,and_self,if_true,h3])<;>rfl
def aKI (st:St) {o:Option (List rX)} {kk:IntKind} {i:Int} (h0:0<=i) (h1:i<(ol o).length):bI prog st 44 (ov dT o) (.v (.int kk i))=some (.ip (iD (gx Jx (ol o) i)) 0):=by
 cases o with
 | none=>simp[ol] at h1;omega
 | some l=>exact aDl st h0 h1
def LW (x:rX):zQ 87 67 104 (some (1,iD x))=some (none,.row 87 67 [x].length (dT [x])):=by
 simp[zQ,maxLen,dT]
def H6 (l:List rX) (h:(l.length:Int)<1000000):zQ 87 67 104 (some (l.length,dT l))=some (none,.row 87 67 l.length (dT l)):=by
 unfold zQ;simp only
 rw[if_pos ⟨iK iI l,by omega,by simp only[maxLen];omega⟩]
def Zj (l:List rX) (x:rX) (s g:Nat) (h:(l.length:Int)<1000000):zF 87 67 104 (some (.row 87 67 l.length (dT l))) s g (some (1,iD x))=some (some (s,g),.row 87 67 (l++[x]).length (dT (l++[x]))):=by
 simp only[zF];rw[if_pos ⟨by simp,trivial,trivial,by omega,by simp only[maxLen];omega⟩]
 simp[dT,flatMap_append]
def aA9 (n:Nat) (l:List rX) (h:∀y∈l,Flat y.eM):jN (some (.row 87 67 n (dT l)))=some (.sl n (dT l)):=by
 unfold jN;simp only;rw[if_pos (tO l h)]
def PE (st:St) (o:Option (List Table)):aV st (ov aN o)=some ((ol o).length,aN (ol o)):=by cases o<;>rfl
def kA (o:Option (List Table)) (h:∀y∈ol o,Flat y.iF):Flat (ov aN o):=by
 cases o with
 | none=>exact .v _
 | some l=>exact .sl _ _ (kD l h)
def nP (st:St) (o:Option (List Table)) (h:∀y∈ol o,Flat y.iF):fS st (ov aN o)=some (ov aN o):=eC (kA o h)
def PF (o:Option (List Table)):(ov aN o).jH=true:=by cases o<;>rfl
def XD (o:Option (List Table)):(ov aN o).cells=[ov aN o]:=by cases o<;>rfl
def aDm (st:St) {l:List Table} {kk:IntKind} {i:Int} (h0:0<=i) (h1:i<l.length):bI prog st 51 (.sl l.length (aN l)) (.v (.int kk i))=some (.ip (bZ (gx dM l i)) 0):=by
 have hl:i.toNat<l.length:=by omega
 have h2:i.toNat * 34+34<=(l.flatMap bZ).length:=by rw[iK eR,<- Nat.succ_mul];exact Nat.mul_le_mul_right _ hl
 have h3:((aN l).drop (i.toNat * 34)).take 34=bZ (gx dM l i):=Lc eR h0 h1
 have h4:(aN l).length=(l.flatMap bZ).length:=rfl
 (simp only[bI,aKt,Va,h0,h1,h4,h2,and_self,if_true,h3])<;>rfl
def aKJ (st:St) {o:Option (List Table)} {kk:IntKind} {i:Int} (h0:0<=i) (h1:i<(ol o).length):bI prog st 51 (ov aN o) (.v (.int kk i))=some (.ip (bZ (gx dM (ol o) i)) 0):=by
 cases o with
 | none=>simp[ol] at h1;omega
 | some l=>exact aDm st h0 h1
def JR (x:Table):zQ 118 34 64 (some (1,bZ x))=some (none,.row 118 34 [x].length (aN [x])):=by
 simp[zQ,maxLen,aN]
def IZ (l:List Table) (h:(l.length:Int)<1000000):zQ 118 34 64 (some (l.length,aN l))=some (none,.row 118 34 l.length (aN l)):=by
 unfold zQ;simp only
 rw[if_pos ⟨iK eR l,by omega,by simp only[maxLen];omega⟩]
def Un (l:List Table) (x:Table) (s g:Nat) (h:(l.length:Int)<1000000):zF 118 34 64 (some (.row 118 34 l.length (aN l))) s g (some (1,bZ x))=some (some (s,g),.row 118 34 (l++[x]).length (aN (l++[x]))):=by
 simp only[zF];rw[if_pos ⟨by simp,trivial,trivial,by omega,by simp only[maxLen];omega⟩]
 simp[aN,flatMap_append]
def JA (l m:List Table) (s g:Nat) (h:(l.length:Int)<1000000) (h2:(m.length:Int)<1000000):zF 118 34 64 (some (.row 118 34 l.length (aN l))) s g (some (m.length,aN m))=some (some (s,g),.row 118 34 (l++m).length (aN (l++m))):=by
 simp only[zF];rw[if_pos ⟨iK eR m,trivial,trivial,by omega,by simp only[maxLen];omega⟩]
 simp[aN,flatMap_append]
def Rk (n:Nat) (l:List Table) (h:∀y∈l,Flat y.iF):jN (some (.row 118 34 n (aN l)))=some (.sl n (aN l)):=by
 unfold jN;simp only;rw[if_pos (kD l h)]
def XE {T n k off:Nat} {l:List Table} {i:Int} (h0:0<=i) (h1:i<l.length) (hk:tI prog T=some k) (rC:0<k) (ho:off+k<=34):sK prog T (some (.row 118 34 n (aN l))) (i.toNat * 34+off)=eZ prog T (bZ (gx dM l i)) off:=KN eR h0 h1 hk rC ho
def SW {T n k:Nat} {l:List Table} {i:Int} (h0:0<=i) (h1:i<l.length) (hk:tI prog T=some k) (rC:0<k) (ho:k<=34):sK prog T (some (.row 118 34 n (aN l))) (i.toNat * 34)=eZ prog T (bZ (gx dM l i)) 0:=by
 have h:=XE (n:=n) (off:=0) h0 h1 hk rC (by omega)
 rw[Nat.add_zero] at h;exact h
def aDn (l:List Table) (i:Int) (x:Table) (h:i.toNat<l.length):dP (aN l) (i.toNat * 34) (bZ x) (i.toNat * 34+34)=aN (l.set i.toNat x):=by
 generalize i.toNat=k at h ⊢
 have:=Wp (c:=bZ) (sz:=34) eR l k x h
 exact this
def aOk (st:St) (o:Option (List Table)) (hi:Operand):cZ prog st 51 (ov aN o) none (some hi)=Oi (st.ev hi) (fun j=>if 0<=j/\j<=(ol o).length then some (ov aN (o.map (·.take j.toNat))) else cZ prog st 51 (ov aN o) none (some hi)) (cZ prog st 51 (ov aN o) none (some hi)):=by
 unfold Oi;split
 ·rename_i j hj;dsimp only
  split
  ·rename_i hc;obtain⟨j0,j1⟩:=hc
   cases o with
   | none =>
     have:j=0:=by simp[ol] at j1;omega
     subst this;simp[cZ,Va,ov,hj]
   | some l =>
     have j1:j<=l.length:=j1
     have hn:j.toNat<=l.length:=by omega
     simp only[cZ,Va,ov,hj];rw[if_pos ⟨Int.le_refl _,j0,j1,iK eR l⟩];simp only[Int.toNat_zero,Nat.zero_mul,drop_zero,Int.sub_zero,aAo];rw[show (aN l).take (j.toNat * 34)=aN (l.take j.toNat) from xI eR l j.toNat,length_take,Nat.min_eq_left hn]
  ·rfl
 ·rfl
def aGj (st:St) (o:Option (List Table)) (lo:Operand):cZ prog st 51 (ov aN o) (some lo) none=Oi (st.ev lo) (fun j=>if 0<=j/\j<=(ol o).length then some (ov aN (o.map (·.drop j.toNat))) else cZ prog st 51 (ov aN o) (some lo) none) (cZ prog st 51 (ov aN o) (some lo) none):=by
 unfold Oi;split
 ·rename_i j hj;dsimp only
  split
  ·rename_i hc;obtain⟨j0,j1⟩:=hc
   cases o with
   | none =>
     have:j=0:=by simp[ol] at j1;omega
     subst this;simp[cZ,Va,ov,hj]
   | some l =>
     have j1:j<=l.length:=j1
     have hn:j.toNat<=l.length:=by omega
     have e1:((l.length:Int)-j).toNat=l.length-j.toNat:=by omega
     simp only[cZ,Va,ov,hj];rw[if_pos ⟨j0,j1,Int.le_refl _,iK eR l⟩];simp only[aAo,e1];rw[show (aN l).drop (j.toNat * 34)=aN (l.drop j.toNat) from Cw eR l j.toNat,length_drop,take_of_length_le];rw[show aN (l.drop j.toNat)=(l.drop j.toNat).flatMap bZ from rfl,iK eR,length_drop];exact Nat.le_refl _
  ·rfl
 ·rfl
def PG (st:St) (o:Option (List Block)):aV st (ov aH o)=some ((ol o).length,aH (ol o)):=by cases o<;>rfl
def Gy (o:Option (List Block)):Flat (ov aH o):=by
 cases o with
 | none=>exact .v _
 | some l=>exact .sl _ _ (lE l)
def aDo (st:St) {l:List Block} {kk:IntKind} {i:Int} (h0:0<=i) (h1:i<l.length):bI prog st 45 (.sl l.length (aH l)) (.v (.int kk i))=some (.ip (aU (gx dO l i)) 0):=by
 have hl:i.toNat<l.length:=by omega
 have h2:i.toNat * 238+238<=(l.flatMap aU).length:=by rw[iK bO,<- Nat.succ_mul];exact Nat.mul_le_mul_right _ hl
 have h3:((aH l).drop (i.toNat * 238)).take 238=aU (gx dO l i):=Lc bO h0 h1
 have h4:(aH l).length=(l.flatMap aU).length:=rfl
 (simp only[bI,aKr,nF,h0,h1,h4,h2,and_self,if_true,h3])<;>rfl
def aKK (st:St) {o:Option (List Block)} {kk:IntKind} {i:Int} (h0:0<=i) (h1:i<(ol o).length):bI prog st 45 (ov aH o) (.v (.int kk i))=some (.ip (aU (gx dO (ol o) i)) 0):=by
 cases o with
 | none=>simp[ol] at h1;omega
 | some l=>exact aDo st h0 h1
def Y3 (x:Block):zQ 74 238 336 (some (1,aU x))=some (none,.row 74 238 [x].length (aH [x])):=by
 simp[zQ,maxLen,aH]
def iW (l:List Block) (h:(l.length:Int)<1000000):zQ 74 238 336 (some (l.length,aH l))=some (none,.row 74 238 l.length (aH l)):=by
 unfold zQ;simp only
 rw[if_pos ⟨iK bO l,by omega,by simp only[maxLen];omega⟩]
def JO (l:List Block) (x:Block) (s g:Nat) (h:(l.length:Int)<1000000):zF 74 238 336 (some (.row 74 238 l.length (aH l))) s g (some (1,aU x))=some (some (s,g),.row 74 238 (l++[x]).length (aH (l++[x]))):=by
 simp only[zF];rw[if_pos ⟨by simp,trivial,trivial,by omega,by simp only[maxLen];omega⟩]
 simp[aH,flatMap_append]
def sB (l m:List Block) (s g:Nat) (h:(l.length:Int)<1000000) (h2:(m.length:Int)<1000000):zF 74 238 336 (some (.row 74 238 l.length (aH l))) s g (some (m.length,aH m))=some (some (s,g),.row 74 238 (l++m).length (aH (l++m))):=by
 simp only[zF];rw[if_pos ⟨iK bO m,trivial,trivial,by omega,by simp only[maxLen];omega⟩]
 simp[aH,flatMap_append]
def uZ (n:Nat) (l:List Block):jN (some (.row 74 238 n (aH l)))=some (.sl n (aH l)):=by
 unfold jN;simp only;rw[if_pos (lE l)]
def XF {T n k off:Nat} {l:List Block} {i:Int} (h0:0<=i) (h1:i<l.length) (hk:tI prog T=some k) (rC:0<k) (ho:off+k<=238):sK prog T (some (.row 74 238 n (aH l))) (i.toNat * 238+off)=eZ prog T (aU (gx dO l i)) off:=KN bO h0 h1 hk rC ho
def yC {T n k:Nat} {l:List Block} {i:Int} (h0:0<=i) (h1:i<l.length) (hk:tI prog T=some k) (rC:0<k) (ho:k<=238):sK prog T (some (.row 74 238 n (aH l))) (i.toNat * 238)=eZ prog T (aU (gx dO l i)) 0:=by
 have h:=XF (n:=n) (off:=0) h0 h1 hk rC (by omega)
 rw[Nat.add_zero] at h;exact h
def aDp (l:List Block) (i:Int) (x:Block) (h:i.toNat<l.length):dP (aH l) (i.toNat * 238) (aU x) (i.toNat * 238+238)=aH (l.set i.toNat x):=by
 generalize i.toNat=k at h ⊢
 have:=Wp (c:=aU) (sz:=238) bO l k x h
 exact this
def aOl (st:St) (o:Option (List Block)) (hi:Operand):cZ prog st 45 (ov aH o) none (some hi)=Oi (st.ev hi) (fun j=>if 0<=j/\j<=(ol o).length then some (ov aH (o.map (·.take j.toNat))) else cZ prog st 45 (ov aH o) none (some hi)) (cZ prog st 45 (ov aH o) none (some hi)):=by
 unfold Oi;split
 ·rename_i j hj;dsimp only
  split
  ·rename_i hc;obtain⟨j0,j1⟩:=hc
   cases o with
   | none =>
     have:j=0:=by simp[ol] at j1;omega
     subst this;simp[cZ,nF,ov,hj]
   | some l =>
     have j1:j<=l.length:=j1
     have hn:j.toNat<=l.length:=by omega
     simp only[cZ,nF,ov,hj];rw[if_pos ⟨Int.le_refl _,j0,j1,iK bO l⟩];simp only[Int.toNat_zero,Nat.zero_mul,drop_zero,Int.sub_zero,aAo];rw[show (aH l).take (j.toNat * 238)=aH (l.take j.toNat) from xI bO l j.toNat,length_take,Nat.min_eq_left hn]
  ·rfl
 ·rfl
def aGk (st:St) (o:Option (List Block)) (lo:Operand):cZ prog st 45 (ov aH o) (some lo) none=Oi (st.ev lo) (fun j=>if 0<=j/\j<=(ol o).length then some (ov aH (o.map (·.drop j.toNat))) else cZ prog st 45 (ov aH o) (some lo) none) (cZ prog st 45 (ov aH o) (some lo) none):=by
 unfold Oi;split
 ·rename_i j hj;dsimp only
  split
  ·rename_i hc;obtain⟨j0,j1⟩:=hc
   cases o with
   | none =>
     have:j=0:=by simp[ol] at j1;omega
     subst this;simp[cZ,nF,ov,hj]
   | some l =>
     have j1:j<=l.length:=j1
     have hn:j.toNat<=l.length:=by omega
     have e1:((l.length:Int)-j).toNat=l.length-j.toNat:=by omega
     simp only[cZ,nF,ov,hj];rw[if_pos ⟨j0,j1,Int.le_refl _,iK bO l⟩];simp only[aAo,e1];rw[show (aH l).drop (j.toNat * 238)=aH (l.drop j.toNat) from Cw bO l j.toNat,length_drop,take_of_length_le];rw[show aH (l.drop j.toNat)=(l.drop j.toNat).flatMap aU from rfl,iK bO,length_drop];exact Nat.le_refl _
  ·rfl
 ·rfl
def FE (st:St) (o:Option (List Request)):aV st (ov aF o)=some ((ol o).length,aF (ol o)):=by cases o<;>rfl
def jB (o:Option (List Request)):Flat (ov aF o):=by
 cases o with
 | none=>exact .v _
 | some l=>exact .sl _ _ (uY l)
def aDq (st:St) {l:List Request} {kk:IntKind} {i:Int} (h0:0<=i) (h1:i<l.length):bI prog st 54 (.sl l.length (aF l)) (.v (.int kk i))=some (.ip (dF (gx dA l i)) 0):=by
 have hl:i.toNat<l.length:=by omega
 have h2:i.toNat * 35+35<=(l.flatMap dF).length:=by rw[iK gR,<- Nat.succ_mul];exact Nat.mul_le_mul_right _ hl
 have h3:((aF l).drop (i.toNat * 35)).take 35=dF (gx dA l i):=Lc gR h0 h1
 have h4:(aF l).length=(l.flatMap dF).length:=rfl
 (simp only[bI,aKu,Ux,h0,h1,h4,h2,and_self,if_true,h3])<;>rfl
def aKL (st:St) {o:Option (List Request)} {kk:IntKind} {i:Int} (h0:0<=i) (h1:i<(ol o).length):bI prog st 54 (ov aF o) (.v (.int kk i))=some (.ip (dF (gx dA (ol o) i)) 0):=by
 cases o with
 | none=>simp[ol] at h1;omega
 | some l=>exact aDq st h0 h1
def XG (x:Request):zQ 63 35 56 (some (1,dF x))=some (none,.row 63 35 [x].length (aF [x])):=by
 simp[zQ,maxLen,aF]
def rS (l:List Request) (h:(l.length:Int)<1000000):zQ 63 35 56 (some (l.length,aF l))=some (none,.row 63 35 l.length (aF l)):=by
 unfold zQ;simp only
 rw[if_pos ⟨iK gR l,by omega,by simp only[maxLen];omega⟩]
def uD (l:List Request) (x:Request) (s g:Nat) (h:(l.length:Int)<1000000):zF 63 35 56 (some (.row 63 35 l.length (aF l))) s g (some (1,dF x))=some (some (s,g),.row 63 35 (l++[x]).length (aF (l++[x]))):=by
 simp only[zF];rw[if_pos ⟨by simp,trivial,trivial,by omega,by simp only[maxLen];omega⟩]
 simp[aF,flatMap_append]
def Xf (l m:List Request) (s g:Nat) (h:(l.length:Int)<1000000) (h2:(m.length:Int)<1000000):zF 63 35 56 (some (.row 63 35 l.length (aF l))) s g (some (m.length,aF m))=some (some (s,g),.row 63 35 (l++m).length (aF (l++m))):=by
 simp only[zF];rw[if_pos ⟨iK gR m,trivial,trivial,by omega,by simp only[maxLen];omega⟩]
 simp[aF,flatMap_append]
def pZ (n:Nat) (l:List Request):jN (some (.row 63 35 n (aF l)))=some (.sl n (aF l)):=by
 unfold jN;simp only;rw[if_pos (uY l)]
def Hg {T n k off:Nat} {l:List Request} {i:Int} (h0:0<=i) (h1:i<l.length) (hk:tI prog T=some k) (rC:0<k) (ho:off+k<=35):sK prog T (some (.row 63 35 n (aF l))) (i.toNat * 35+off)=eZ prog T (dF (gx dA l i)) off:=KN gR h0 h1 hk rC ho
def Bh {T n k:Nat} {l:List Request} {i:Int} (h0:0<=i) (h1:i<l.length) (hk:tI prog T=some k) (rC:0<k) (ho:k<=35):sK prog T (some (.row 63 35 n (aF l))) (i.toNat * 35)=eZ prog T (dF (gx dA l i)) 0:=by
 have h:=Hg (n:=n) (off:=0) h0 h1 hk rC (by omega)
 rw[Nat.add_zero] at h;exact h
def Pe (l:List Request) (i:Int) (x:Request) (h:i.toNat<l.length):dP (aF l) (i.toNat * 35) (dF x) (i.toNat * 35+35)=aF (l.set i.toNat x):=by
 generalize i.toNat=k at h ⊢
 have:=Wp (c:=dF) (sz:=35) gR l k x h
 exact this
def aOm (st:St) (o:Option (List Request)) (hi:Operand):cZ prog st 54 (ov aF o) none (some hi)=Oi (st.ev hi) (fun j=>if 0<=j/\j<=(ol o).length then some (ov aF (o.map (·.take j.toNat))) else cZ prog st 54 (ov aF o) none (some hi)) (cZ prog st 54 (ov aF o) none (some hi)):=by
 unfold Oi;split
 ·rename_i j hj;dsimp only
  split
  ·rename_i hc;obtain⟨j0,j1⟩:=hc
   cases o with
   | none =>
     have:j=0:=by simp[ol] at j1;omega
     subst this;simp[cZ,Ux,ov,hj]
   | some l =>
     have j1:j<=l.length:=j1
     have hn:j.toNat<=l.length:=by omega
     simp only[cZ,Ux,ov,hj];rw[if_pos ⟨Int.le_refl _,j0,j1,iK gR l⟩];simp only[Int.toNat_zero,Nat.zero_mul,drop_zero,Int.sub_zero,aAo];rw[show (aF l).take (j.toNat * 35)=aF (l.take j.toNat) from xI gR l j.toNat,length_take,Nat.min_eq_left hn]
  ·rfl
 ·rfl
def aGl (st:St) (o:Option (List Request)) (lo:Operand):cZ prog st 54 (ov aF o) (some lo) none=Oi (st.ev lo) (fun j=>if 0<=j/\j<=(ol o).length then some (ov aF (o.map (·.drop j.toNat))) else cZ prog st 54 (ov aF o) (some lo) none) (cZ prog st 54 (ov aF o) (some lo) none):=by
 unfold Oi;split
 ·rename_i j hj;dsimp only
  split
  ·rename_i hc;obtain⟨j0,j1⟩:=hc
   cases o with
   | none =>
     have:j=0:=by simp[ol] at j1;omega
     subst this;simp[cZ,Ux,ov,hj]
   | some l =>
     have j1:j<=l.length:=j1
     have hn:j.toNat<=l.length:=by omega
     have e1:((l.length:Int)-j).toNat=l.length-j.toNat:=by omega
     simp only[cZ,Ux,ov,hj];rw[if_pos ⟨j0,j1,Int.le_refl _,iK gR l⟩];simp only[aAo,e1];rw[show (aF l).drop (j.toNat * 35)=aF (l.drop j.toNat) from Cw gR l j.toNat,length_drop,take_of_length_le];rw[show aF (l.drop j.toNat)=(l.drop j.toNat).flatMap dF from rfl,iK gR,length_drop];exact Nat.le_refl _
  ·rfl
 ·rfl
def XH (st:St) (o:Option (List cC)):aV st (ov gX o)=some ((ol o).length,gX (ol o)):=by cases o<;>rfl
def Jt (o:Option (List cC)):Flat (ov gX o):=by
 cases o with
 | none=>exact .v _
 | some l=>exact .sl _ _ (Xs l)
def aDr (st:St) {l:List cC} {kk:IntKind} {i:Int} (h0:0<=i) (h1:i<l.length):bI prog st 70 (.sl l.length (gX l)) (.v (.int kk i))=some (.ip (bC (gx cO l i)) 0):=by
 have hl:i.toNat<l.length:=by omega
 have h2:i.toNat * 32+32<=(l.flatMap bC).length:=by rw[iK aO,<- Nat.succ_mul];exact Nat.mul_le_mul_right _ hl
 have h3:((gX l).drop (i.toNat * 32)).take 32=bC (gx cO l i):=Lc aO h0 h1
 have h4:(gX l).length=(l.flatMap bC).length:=rfl
 (simp only[bI,aNP,aFP,h0,h1,h4,h2,and_self,if_true,h3])<;>rfl
def aKM (st:St) {o:Option (List cC)} {kk:IntKind} {i:Int} (h0:0<=i) (h1:i<(ol o).length):bI prog st 70 (ov gX o) (.v (.int kk i))=some (.ip (bC (gx cO (ol o) i)) 0):=by
 cases o with
 | none=>simp[ol] at h1;omega
 | some l=>exact aDr st h0 h1
def pC (l:List cC) (x:cC) (s g:Nat) (h:(l.length:Int)<1000000):zF 27 32 32 (some (.row 27 32 l.length (gX l))) s g (some (1,bC x))=some (some (s,g),.row 27 32 (l++[x]).length (gX (l++[x]))):=by
 simp only[zF];rw[if_pos ⟨by simp,trivial,trivial,by omega,by simp only[maxLen];omega⟩]
 simp[gX,flatMap_append]
def xJ (n:Nat) (l:List cC):jN (some (.row 27 32 n (gX l)))=some (.sl n (gX l)):=by
 unfold jN;simp only;rw[if_pos (Xs l)]
def aGm (st:St) {l:List Bool} {kk:IntKind} {i:Int} (h0:0<=i) (h1:i<l.length):bI prog st 262 (.sl l.length (nG l)) (.v (.int kk i))=some (.ip ([.v (.bool (gx false l i))]) 0):=by
 have hl:i.toNat<l.length:=by omega
 have h2:i.toNat * 1+1<=(l.flatMap vW).length:=by rw[iK iC,<- Nat.succ_mul];exact Nat.mul_le_mul_right _ hl
 have h3:((nG l).drop (i.toNat * 1)).take 1=vW (gx false l i):=Lc iC h0 h1
 have h4:(nG l).length=(l.flatMap vW).length:=rfl
 (simp only[bI,aHm,WR,h0,h1,h4,h2,and_self,if_true,h3])<;>rfl
def aDs (x:Bool):zQ 4 1 1 (some (1,[.v (.bool x)]))=some (none,.row 4 1 [x].length (nG [x])):=by
 simp[zQ,maxLen,nG,vW]
def RK (l:List Bool) (x:Bool) (s g:Nat) (h:(l.length:Int)<1000000):zF 4 1 1 (some (.row 4 1 l.length (nG l))) s g (some (1,[.v (.bool x)]))=some (some (s,g),.row 4 1 (l++[x]).length (nG (l++[x]))):=by
 simp only[zF];rw[if_pos ⟨by simp,trivial,trivial,by omega,by simp only[maxLen];omega⟩]
 simp[nG,flatMap_append,vW]
def H7 (n:Nat) (l:List Bool):jN (some (.row 4 1 n (nG l)))=some (.sl n (nG l)):=by
 unfold jN;simp only;rw[if_pos (Xc l)]
def zZ (o:Option (List Int)):Flat (ov kM o):=by
 cases o with
 | none=>exact .v _
 | some l=>exact .sl _ _ (wQ l)
def rZ (st:St) (o:Option (List Int)):fS st (ov kM o)=some (ov kM o):=eC (zZ o)
def ZM (x:Int):zQ 5 1 1 (some (1,[.v (.int .u8 x)]))=some (none,.row 5 1 [x].length (kM [x])):=by
 simp[zQ,maxLen,kM,cU8]
def Oy (l:List Int) (x:Int) (s g:Nat) (h:(l.length:Int)<1000000):zF 5 1 1 (some (.row 5 1 l.length (kM l))) s g (some (1,[.v (.int .u8 x)]))=some (some (s,g),.row 5 1 (l++[x]).length (kM (l++[x]))):=by
 simp only[zF];rw[if_pos ⟨by simp,trivial,trivial,by omega,by simp only[maxLen];omega⟩]
 simp[kM,flatMap_append,cU8]
def ZN (l m:List Int) (s g:Nat) (h:(l.length:Int)<1000000) (h2:(m.length:Int)<1000000):zF 5 1 1 (some (.row 5 1 l.length (kM l))) s g (some (m.length,kM m))=some (some (s,g),.row 5 1 (l++m).length (kM (l++m))):=by
 simp only[zF];rw[if_pos ⟨iK aGh m,trivial,trivial,by omega,by simp only[maxLen];omega⟩]
 simp[kM,flatMap_append]
def Fb (n:Nat) (l:List Int):jN (some (.row 5 1 n (kM l)))=some (.sl n (kM l)):=by
 unfold jN;simp only;rw[if_pos (wQ l)]
def D8 (st:St) (o:Option (List Int)):aV st (ov aM o)=some ((ol o).length,aM (ol o)):=by cases o<;>rfl
def bQ (o:Option (List Int)):Flat (ov aM o):=by
 cases o with
 | none=>exact .v _
 | some l=>exact .sl _ _ (gG l)
def Hf (st:St) (o:Option (List Int)):fS st (ov aM o)=some (ov aM o):=eC (bQ o)
def D9 (o:Option (List Int)):(ov aM o).jH=true:=by cases o<;>rfl
def Y4 (o:Option (List Int)):(ov aM o).cells=[ov aM o]:=by cases o<;>rfl
def aDt (st:St) {l:List Int} {kk:IntKind} {i:Int} (h0:0<=i) (h1:i<l.length):bI prog st 22 (.sl l.length (aM l)) (.v (.int kk i))=some (.ip ([.v (.int .i64 (gx (0:Int) l i))]) 0):=by
 have hl:i.toNat<l.length:=by omega
 have h2:i.toNat * 1+1<=(l.flatMap rK).length:=by rw[iK bJ,<- Nat.succ_mul];exact Nat.mul_le_mul_right _ hl
 have h3:((aM l).drop (i.toNat * 1)).take 1=rK (gx (0:Int) l i):=Lc bJ h0 h1
 have h4:(aM l).length=(l.flatMap rK).length:=rfl
 (simp only[bI,aFO,Oh,h0,h1,h4,h2,and_self,if_true,h3])<;>rfl
def aKN (st:St) {o:Option (List Int)} {kk:IntKind} {i:Int} (h0:0<=i) (h1:i<(ol o).length):bI prog st 22 (ov aM o) (.v (.int kk i))=some (.ip ([.v (.int .i64 (gx (0:Int) (ol o) i))]) 0):=by
 cases o with
 | none=>simp[ol] at h1;omega
 | some l=>exact aDt st h0 h1
def Rn (l:List Int) (h:(l.length:Int)<1000000):zQ 3 1 8 (some (l.length,aM l))=some (none,.row 3 1 l.length (aM l)):=by
 unfold zQ;simp only
 rw[if_pos ⟨iK bJ l,by omega,by simp only[maxLen];omega⟩]
def He (l:List Int) (x:Int) (s g:Nat) (h:(l.length:Int)<1000000):zF 3 1 8 (some (.row 3 1 l.length (aM l))) s g (some (1,[.v (.int .i64 x)]))=some (some (s,g),.row 3 1 (l++[x]).length (aM (l++[x]))):=by
 simp only[zF];rw[if_pos ⟨by simp,trivial,trivial,by omega,by simp only[maxLen];omega⟩]
 simp[aM,flatMap_append,rK]
def LM (l m:List Int) (s g:Nat) (h:(l.length:Int)<1000000) (h2:(m.length:Int)<1000000):zF 3 1 8 (some (.row 3 1 l.length (aM l))) s g (some (m.length,aM m))=some (some (s,g),.row 3 1 (l++m).length (aM (l++m))):=by
 simp only[zF];rw[if_pos ⟨iK bJ m,trivial,trivial,by omega,by simp only[maxLen];omega⟩]
 simp[aM,flatMap_append]
def kE (n:Nat) (l:List Int):jN (some (.row 3 1 n (aM l)))=some (.sl n (aM l)):=by
 unfold jN;simp only;rw[if_pos (gG l)]
def aOn (st:St) (o:Option (List Int)) (hi:Operand):cZ prog st 22 (ov aM o) none (some hi)=Oi (st.ev hi) (fun j=>if 0<=j/\j<=(ol o).length then some (ov aM (o.map (·.take j.toNat))) else cZ prog st 22 (ov aM o) none (some hi)) (cZ prog st 22 (ov aM o) none (some hi)):=by
 unfold Oi;split
 ·rename_i j hj;dsimp only
  split
  ·rename_i hc;obtain⟨j0,j1⟩:=hc
   cases o with
   | none =>
     have:j=0:=by simp[ol] at j1;omega
     subst this;simp[cZ,Oh,ov,hj]
   | some l =>
     have j1:j<=l.length:=j1
     have hn:j.toNat<=l.length:=by omega
     simp only[cZ,Oh,ov,hj];rw[if_pos ⟨Int.le_refl _,j0,j1,iK bJ l⟩];simp only[Int.toNat_zero,Nat.zero_mul,drop_zero,Int.sub_zero,aAo];rw[show (aM l).take (j.toNat * 1)=aM (l.take j.toNat) from xI bJ l j.toNat,length_take,Nat.min_eq_left hn]
  ·rfl
 ·rfl
def aGn (st:St) (o:Option (List Int)) (lo:Operand):cZ prog st 22 (ov aM o) (some lo) none=Oi (st.ev lo) (fun j=>if 0<=j/\j<=(ol o).length then some (ov aM (o.map (·.drop j.toNat))) else cZ prog st 22 (ov aM o) (some lo) none) (cZ prog st 22 (ov aM o) (some lo) none):=by
 unfold Oi;split
 ·rename_i j hj;dsimp only
  split
  ·rename_i hc;obtain⟨j0,j1⟩:=hc
   cases o with
   | none =>
     have:j=0:=by simp[ol] at j1;omega
     subst this;simp[cZ,Oh,ov,hj]
   | some l =>
     have j1:j<=l.length:=j1
     have hn:j.toNat<=l.length:=by omega
     have e1:((l.length:Int)-j).toNat=l.length-j.toNat:=by omega
     simp only[cZ,Oh,ov,hj];rw[if_pos ⟨j0,j1,Int.le_refl _,iK bJ l⟩];simp only[aAo,e1];rw[show (aM l).drop (j.toNat * 1)=aM (l.drop j.toNat) from Cw bJ l j.toNat,length_drop,take_of_length_le];rw[show aM (l.drop j.toNat)=(l.drop j.toNat).flatMap rK from rfl,iK bJ,length_drop];exact Nat.le_refl _
  ·rfl
 ·rfl
def E0 (st:St) (o:Option (List Int)):aV st (ov bF o)=some ((ol o).length,bF (ol o)):=by cases o<;>rfl
def dZ (o:Option (List Int)):Flat (ov bF o):=by
 cases o with
 | none=>exact .v _
 | some l=>exact .sl _ _ (iG l)
def E1 (o:Option (List Int)):(ov bF o).jH=true:=by cases o<;>rfl
def Y5 (o:Option (List Int)):(ov bF o).cells=[ov bF o]:=by cases o<;>rfl
def aDu (st:St) {l:List Int} {kk:IntKind} {i:Int} (h0:0<=i) (h1:i<l.length):bI prog st 34 (.sl l.length (bF l)) (.v (.int kk i))=some (.ip ([.v (.int .u64 (gx (0:Int) l i))]) 0):=by
 have hl:i.toNat<l.length:=by omega
 have h2:i.toNat * 1+1<=(l.flatMap lV).length:=by rw[iK aZ,<- Nat.succ_mul];exact Nat.mul_le_mul_right _ hl
 have h3:((bF l).drop (i.toNat * 1)).take 1=lV (gx (0:Int) l i):=Lc aZ h0 h1
 have h4:(bF l).length=(l.flatMap lV).length:=rfl
 (simp only[bI,aKp,D1,h0,h1,h4,h2,and_self,if_true,h3])<;>rfl
def aKO (st:St) {o:Option (List Int)} {kk:IntKind} {i:Int} (h0:0<=i) (h1:i<(ol o).length):bI prog st 34 (ov bF o) (.v (.int kk i))=some (.ip ([.v (.int .u64 (gx (0:Int) (ol o) i))]) 0):=by
 cases o with
 | none=>simp[ol] at h1;omega
 | some l=>exact aDu st h0 h1
def aGo (x:Int):zQ 23 1 8 (some (1,[.v (.int .u64 x)]))=some (none,.row 23 1 [x].length (bF [x])):=by
 simp[zQ,maxLen,bF,lV]
def Hb (l:List Int) (h:(l.length:Int)<1000000):zQ 23 1 8 (some (l.length,bF l))=some (none,.row 23 1 l.length (bF l)):=by
 unfold zQ;simp only
 rw[if_pos ⟨iK aZ l,by omega,by simp only[maxLen];omega⟩]
def xK (l:List Int) (x:Int) (s g:Nat) (h:(l.length:Int)<1000000):zF 23 1 8 (some (.row 23 1 l.length (bF l))) s g (some (1,[.v (.int .u64 x)]))=some (some (s,g),.row 23 1 (l++[x]).length (bF (l++[x]))):=by
 simp only[zF];rw[if_pos ⟨by simp,trivial,trivial,by omega,by simp only[maxLen];omega⟩]
 simp[bF,flatMap_append,lV]
def vA (n:Nat) (l:List Int):jN (some (.row 23 1 n (bF l)))=some (.sl n (bF l)):=by
 unfold jN;simp only;rw[if_pos (iG l)]
def aDv {T n k off:Nat} {l:List Int} {i:Int} (h0:0<=i) (h1:i<l.length) (hk:tI prog T=some k) (rC:0<k) (ho:off+k<=1):sK prog T (some (.row 23 1 n (bF l))) (i.toNat * 1+off)=eZ prog T ([.v (.int .u64 (gx (0:Int) l i))]) off:=KN aZ h0 h1 hk rC ho
def aAK {T n k:Nat} {l:List Int} {i:Int} (h0:0<=i) (h1:i<l.length) (hk:tI prog T=some k) (rC:0<k) (ho:k<=1):sK prog T (some (.row 23 1 n (bF l))) (i.toNat * 1)=eZ prog T ([.v (.int .u64 (gx (0:Int) l i))]) 0:=by
 have h:=aDv (n:=n) (off:=0) h0 h1 hk rC (by omega)
 rw[Nat.add_zero] at h;exact h
def aAJ (l:List Int) (i:Int) (x:Int) (h:i.toNat<l.length):dP (bF l) (i.toNat * 1) ([.v (.int .u64 x)]) (i.toNat * 1+1)=bF (l.set i.toNat x):=by
 generalize i.toNat=k at h ⊢
 have:=Wp (c:=lV) (sz:=1) aZ l k x h
 exact this
end Tryz
end Go.Ab
end
section
namespace Go.Ab.Tryz
open Classical Go.Proofs Go.Ab
def aj {a b:Prop} (x:a) (y:b):a/\b:=⟨x,y⟩
def EN:=aj (aj (aj (aj (aj (aj (aj @cF (aj @Ba @kJ)) (aj @Fq (aj @Af @wW))) (aj (aj @Ak (aj @decide_true @decide_false)) (aj (aj @Int.cast_ofNat_Int @Bool.not_true) (aj @Bool.not_false @Bool.false_eq_true)))) (aj (aj (aj @Bool.true_eq_false (aj @Mf @Mg)) (aj @Mh (aj @Mi @Mj))) (aj (aj @Mk (aj @Ml @Mm)) (aj (aj @Mn @Mo) (aj @aFd @aFe))))) (aj (aj (aj (aj @aFb (aj @aFc @not_false_eq_true)) (aj @ne_eq.{1} (aj @Ga @Aj))) (aj (aj @wY (aj @wZ @Option.bind_some.{0,0})) (aj (aj @Lz @Ag) (aj @Ma @Fs)))) (aj (aj (aj @aE7 (aj @wX @NH)) (aj @NI (aj @aE8 @z6))) (aj (aj @aCj (aj @aCk @aCl)) (aj (aj @aIY @aCm) (aj @aCU @Bool.or_false)))))) (aj (aj (aj (aj (aj @Bool.false_or (aj @Bool.false_and @Bool.or_true)) (aj @aFa (aj @aFS @T4))) (aj (aj @T5 (aj @z8 @NJ)) (aj (aj @UN @wN) (aj @WX @X3)))) (aj (aj (aj @X4 (aj @aFX @aC5)) (aj @oI (aj @W3 @W4))) (aj (aj @D3 (aj @WU @Option.map_some.{0,0})) (aj (aj @Oq @Lo) (aj @Us @Oz))))) (aj (aj (aj (aj @aCX (aj @aCY @aFT)) (aj @fY (aj @bK @aC8))) (aj (aj @aC9 (aj @HS @X7)) (aj (aj @aFW @W5) (aj @W6 @aFh)))) (aj (aj (aj @aCu (aj @aFi @aFf)) (aj (aj @W7 @W8) (aj @W9 @X0))) (aj (aj @aC4 (aj @X5 @aFY)) (aj (aj @aFU @aFV) (aj @aCZ @aC0))))))) (aj (aj (aj (aj (aj (aj @aC1 (aj @aC2 @aC3)) (aj @T7 (aj @NL @aFQ))) (aj (aj @aCT (aj @aOf @aGC)) (aj (aj @Fu @Vp) (aj @Mb @sD)))) (aj (aj (aj @Mc (aj @Fv @Md)) (aj @Me (aj @Fw
 @yG))) (aj (aj @yH (aj @qO @Fx)) (aj (aj @Fy @Ah) (aj @Fz @uH))))) (aj (aj (aj (aj @T6 (aj @toList_toArray.{0} @map_cons.{0,0})) (aj @map_nil.{0,0} (aj @Ly @wV))) (aj (aj @Ae (aj @Fo @Fp)) (aj (aj @Lx @sE) (aj @Al @xA)))) (aj (aj (aj @getElem?_cons_zero.{0} (aj @getElem?_cons_succ.{0} @getElem?_nil.{0})) (aj @Option.getD_some.{0} (aj @Option.getD_none.{0} @and_true))) (aj (aj @true_and (aj @and_self @false_and)) (aj (aj @and_false @if_true.{1}) (aj @if_false.{1} @Nat.succ_ne_zero)))))) (aj (aj (aj (aj (aj @PB (aj @PC @Nat.add_zero)) (aj @Nat.zero_add (aj @D4 @Ft))) (aj (aj @Vw (aj @Vx @Ge)) (aj (aj @Gf @W1) (aj @A9 @aCV)))) (aj (aj (aj @aF1 (aj @aF2 @aF3)) (aj @D5 (aj @X9 @aF4))) (aj (aj @aKB (aj @WZ @Y0)) (aj (aj @aF5 @aDb) (aj @aKC @aDc))))) (aj (aj (aj (aj @aF6 (aj @aF7 @aF8)) (aj @aDd (aj @aDe @aF9))) (aj (aj @aDf (aj @aOj @aGa)) (aj (aj @aKD @aKE) (aj @aKF @aGb)))) (aj (aj (aj @aGc (aj @aKG @aGd)) (aj (aj @aGe @aDg) (aj @Y1 @D6))) (aj (aj @aGf (aj @aDh @aGg)) (aj (aj @gei @gti) (aj @aUS @gtn)))))))
def EV:=aj EN @Ai
def LE:=aj (aj (aj (aj (aj (aj @aKx @aKy) (aj @aC6 (aj @aC7 @On))) (aj (aj @Lt @Uz) (aj @aKv (aj @aKw @aFR)))) (aj (aj (aj @aZ @bJ) (aj @iC (aj @aO @eA))) (aj (aj @bW (aj @cW @bO)) (aj @tX (aj @Vu @Nat.sub_zero))))) (aj (aj (aj (aj @Nat.le_refl @QV) (aj @IX (aj @Option.map_some.{0,0} @all_cons.{0}))) (aj (aj @all_nil.{0} @Bool.and_true) (aj @Bool.true_and (aj @Bool.and_self @T8)))) (aj (aj (aj @length_cons.{0} @length_nil.{0}) (aj @jQ (aj @jR @Ta))) (aj (aj @Cr (aj @Vr @NQ)) (aj @Nat.zero_le (aj @Nat.mul_one @BF)))))) (aj (aj (aj (aj (aj @pO @gW) (aj @mE (aj @gD @bU))) (aj (aj @sG @iI) (aj @iR (aj @fR @eR)))) (aj (aj (aj @gR @nY) (aj @dI (aj @dC @iJ))) (aj (aj @mU (aj @dG @Qe)) (aj @EX (aj @D0 @yF))))) (aj (aj (aj (aj @HR @Mr) (aj @Px (aj @Wc @We))) (aj (aj @L2 @C0) (aj @EA (aj @Kr @EB)))) (aj (aj (aj @ED @Qd) (aj @EL (aj @Ku @KM))) (aj (aj @WM (aj @ES @WN)) (aj @aCQ (aj @Ry @aFt))))))
def RD:=aj (aj (aj (aj (aj (aj (aj (aj @UQ @UR) (aj @US @UT)) (aj (aj @kH @Ea) (aj @vK (aj @Hn @UW)))) (aj (aj (aj @UX @Ss) (aj @Su @zH)) (aj (aj @Bo @Sv) (aj @Sw (aj @zI @GO))))) (aj (aj (aj (aj @GP @Hy) (aj @Yj @Bp)) (aj (aj @Pt @sO) (aj @Eb (aj @Bq @Pu)))) (aj (aj (aj @sP @Kl) (aj @GQ (aj @Nx @GR))) (aj (aj @Hz @Yk) (aj @Gb (aj @Vs @GS)))))) (aj (aj (aj (aj (aj @GU @DR) (aj @DS @Ny)) (aj (aj @GV @Km) (aj @Sy (aj @NN @Na)))) (aj (aj (aj @Sz @Vt) (aj @Yl (aj @NO @NP))) (aj (aj @GW @GX) (aj @Kn (aj @Gc @xB))))) (aj (aj (aj (aj @Gd @xC) (aj @Nb @Pv)) (aj (aj @Ko @Ip) (aj @Pw (aj @Tb @UZ)))) (aj (aj (aj @A4 @Hw) (aj @Jh (aj @VA @VB))) (aj (aj @DV @VC) (aj @VD (aj @Br @Nz))))))) (aj (aj (aj (aj (aj (aj @Td @Ho) (aj @Iq @Vy)) (aj (aj @Ym @Te) (aj @Tf (aj @DX @DY)))) (aj (aj (aj @Gg @Yn) (aj @Gh (aj
 @Yo @De))) (aj (aj @Vz @Df) (aj @Wa (aj @Dg @Wb))))) (aj (aj (aj (aj @Bs @Tg) (aj @HA @HB)) (aj (aj @yM @yN) (aj @vY (aj @vZ @wA)))) (aj (aj (aj @vM @Kp) (aj @HC (aj @Ti @Wd))) (aj (aj @Oa @HD) (aj @Tj (aj @Tk @Au)))))) (aj (aj (aj (aj (aj @Ob @HE) (aj @HF @OA)) (aj (aj @WB @DZ) (aj @HG (aj @OB @OC)))) (aj (aj (aj @WC @WD) (aj @OD (aj @WE @WG))) (aj (aj @WH @HH) (aj @HI (aj @Kq @Nc))))) (aj (aj (aj (aj @Py @Pz) (aj @Gx @WI)) (aj (aj @C2 @C3) (aj @xD (aj @Ia @xE)))) (aj (aj (aj @Ib @HJ) (aj @Oc (aj @uX @HK))) (aj (aj @Tm @Tn) (aj @Cd (aj @Ce @oX)))))))) (aj (aj (aj (aj (aj (aj (aj @Qa @Qb) (aj @Bt @Cf)) (aj (aj @Bu @Cg) (aj @Gi (aj @oG @Yp)))) (aj (aj (aj @Yq @WJ) (aj @WK (aj @Qc @Wh))) (aj (aj @Dq @OF) (aj @OG (aj @OH @To))))) (aj (aj (aj (aj @Hp @Wi) (aj @Wj @Tp)) (aj (aj
 @Wk @Yr) (aj @EC (aj @EE @EF)))) (aj (aj (aj @Ys @Yt) (aj @EG (aj @EI @EJ))) (aj (aj @wI @Ic) (aj @yU (aj @Kt @OJ)))))) (aj (aj (aj (aj (aj @OK @Gk) (aj @Gl @uI)) (aj (aj @wB @Ie) (aj @Ig (aj @vN @yO)))) (aj (aj (aj @wJ @Ih) (aj @tL (aj @Dh @yV))) (aj (aj @Kv @Yu) (aj @Yv (aj @Bv @Bw))))) (aj (aj (aj (aj @zV @zW) (aj @qX @qK)) (aj (aj @Kw @Nd) (aj @rM (aj @Nf @EO)))) (aj (aj (aj @EP @pS) (aj @Ir (aj @qS @Kx))) (aj (aj @Tr @Ts) (aj @Hq (aj @Hr @yP))))))) (aj (aj (aj (aj (aj (aj @qY @Is) (aj @It @zC)) (aj (aj @rT @pT) (aj @Iu (aj @oF @Gn)))) (aj (aj (aj @Od @Ec) (aj @rO (aj @Ng @Oe))) (aj (aj @OL @Ky) (aj @Kz (aj @wK @Yw))))) (aj (aj (aj (aj @OM @ON) (aj @ET @EU)) (aj (aj @uL @tT) (aj
 @rP (aj @qE @qW)))) (aj (aj (aj @uM @vO) (aj @qF (aj @oW @Nh))) (aj (aj @zJ @rQ) (aj @Ni (aj @La @Lb)))))) (aj (aj (aj (aj (aj @uW @Aw) (aj @Tt @Co)) (aj (aj @Wm @Tu) (aj @Wn (aj @EW @HN)))) (aj (aj (aj @HO @HP) (aj @Tv (aj @Wo @Yx))) (aj (aj @OQ @OR) (aj @OS (aj @WO @OT))))) (aj (aj (aj (aj @OU @C6) (aj @C7 @Ep)) (aj (aj @OV @OW) (aj @sY (aj @sI @OX)))) (aj (aj (aj @OY @Cp) (aj @EY (aj @EZ @HQ))) (aj (aj @OZ @PA) (aj @WQ (aj @C8 @C9))))))))
def FA:=aj (aj (aj (aj (aj (aj (aj @ld3 @ze3) (aj @aSt (aj @YZ @aJd))) (aj (aj @ld5 (aj @ze5 @ld4)) (aj @ze4 (aj @aSB @aLU)))) (aj (aj (aj @aNo (aj @aJe @aSC)) (aj @aSD (aj @aHJ @aSE))) (aj (aj @aSF (aj @aNp @aSI)) (aj @aLN (aj @aSJ @aSK))))) (aj (aj (aj (aj @aHQ @aJh) (aj @aSM (aj @aSN @aSO))) (aj (aj @aSP (aj @aSS @aST)) (aj @RZ (aj @aBC @aJu)))) (aj (aj (aj @aSU (aj @aSV @aSW)) (aj @aSX (aj @aJy @aNq))) (aj (aj @aSZ (aj @aS0 @aS1)) (aj @aS4 (aj @aS7 @aS8)))))) (aj (aj (aj (aj (aj @aNr @aTb) (aj @aTc (aj @aTd @aNs))) (aj (aj @aTg (aj @aTh @aTi)) (aj @aTl (aj @aNt @aGI)))) (aj (aj (aj @aHi (aj @aHj @aNu)) (aj @aNv (aj @aTm @aNw))) (aj (aj @aTo (aj @aNx @aNA)) (aj @aNB (aj @aNE @aNF))))) (aj (aj (aj (aj @aG8 @aBB) (aj @aNG (aj @aTp @aIq))) (aj (aj @aNH (aj @aTq @aTr)) (aj @aNI (aj @aNJ @aTt)))) (aj (aj (aj @aTu (aj @aTv @aTy)) (aj @aTz (aj @aNK @aTC))) (aj (aj @aTD (aj @aTG @aTJ)) (aj @aTK (aj @aTN @aNL))))))) (aj (aj (aj (aj (aj (aj @aHk @aNN) (aj @aKn (aj @aKo @Oh))) (aj (aj @aFO (aj @aTO @aTR)) (aj @aTS (aj @D1 @aKp)))) (aj (aj (aj @aTT (aj @aTW @aTX)) (aj @V8 (aj @aKq @aTY))) (aj (aj @aT1 (aj @aT2 @aCR)) (aj @aNO (aj @aT3 @nF))))) (aj (aj (aj (aj @aKr @aT6) (aj @aT9 (aj @aUa @KV))) (aj (aj @aKs (aj @aUb @aUe)) (aj @Va (aj @aKt @aUf)))) (aj (aj (aj @Ux (aj @aKu @aUi)) (aj @aFP (aj @aNP @QU))) (aj (aj @aCS (aj @L3 @aHl)) (aj @L4 (aj @WR @aHm)))))) (aj (aj (aj (aj (aj @aUn @aUo) (aj @aUp (aj @aUq @aUr))) (aj (aj @aUs (aj @aUt @aUu)) (aj @aUv (aj @aUw @aUx)))) (aj (aj (aj @aUy (aj @aUz @aUA)) (aj @aUB (aj @aUC @aUD))) (aj (aj @aUE (aj @aUF @aUG)) (aj @aUH (aj @aUI @aUJ))))) (aj (aj (aj (aj @aUK @aUL) (aj @aUM (aj @aUN @aUO))) (aj (aj @aUP (aj @aN3 @aN4)) (aj @aN5 (aj @aN6 @aN7)))) (aj (aj (aj @aN8 (aj @aN9 @aOa)) (aj @aOb (aj @aOc @aOd))) (aj (aj @aOe (aj @FX0 @FX1)) (aj @FX2 (aj @FX3 @FX4)))))))
def ZZ:=aj (aj EV LE) (aj RD FA)
section
variable {f:Nat} {fn:Func} {st:St} {x y z:AV}
theorem bT {t:Nat} (hr:fn.results.toList=[.tmp t]) (hx:st.env t=x:=by simp only[E8,seval]<;>rfl) (hf:Flat x:=by first|exact .v _|simp only[jE]) (hk:Ext.pI f=false:=by exact aJ (by decide)):Dn prog f fn (.ret,st)=some x:=UU hk (.inl rfl) hr hx hf
theorem fM {t T:Nat} (hr:fn.results.toList=[.cell t T]) (hy:st.env t=y) (hx:Hx prog st T y=some x) (hf:Flat x) (hk:Ext.pI f=false:=by exact aJ (by decide)):Dn prog f fn (.ret,st)=some x:=U0 hk (.inl rfl) hr hy hx hf
theorem uK {t s g e' sz n:Nat} {cs:List AV} (hr:fn.results.toList=[.tmp t]) (hx:st.env t=.own s g) (hh:st.heap s g=some (.row e' sz n cs)) (hf:∀c∈cs,Flat c) (hk:Ext.pI f=false:=by exact aJ (by decide)):Dn prog f fn (.ret,st)=some (.uniq e' sz n cs):=Rq hk (.inl rfl) hr hx hh hf
theorem eG {t T:Nat} {cs:List AV} (hr:fn.results.toList=[.cell t T]) (hz:st.env t=z) (hx:Hx prog st T z=some (.agg cs)) (hy:fS st (.agg cs)=some y) (hk:Ext.pI f=false:=by exact aJ (by decide)):Dn prog f fn (.ret,st)=some y:=A0 hk (.inl rfl) hr hz hx hy
theorem dN {r1 r2:ResultVar} {x1 x2 y1 y2:AV} (hr:fn.results.toList=[r1,r2]) (h1:bY prog st r1=some x1) (h2:bY prog st r2=some x2) (e1:fS st x1=some y1) (e2:fS st x2=some y2) (hk:Ext.pI f=false:=by exact aJ (by decide)):Dn prog f fn (.ret,st)=some (.eH [y1,y2]):=aCs hk (.inl rfl) hr h1 h2 e1 e2
theorem aMb {r1 r2:ResultVar} {x1 x2 y1 y2:AV} (hr:fn.results.toList=[r1,r2]) (h1:bY prog st r1=some x1) (h2:bY prog st r2=some x2) (e0:fS st x1=none) (e1:Ql st x1=some y1) (e2:fS st x2=some y2) (hk:Ext.pI f=false:=by exact aJ (by decide)):Dn prog f fn (.ret,st)=some (.eH [y1,y2]):=U1 hk (.inl rfl) hr h1 h2 e0 e1 e2
theorem fQ {r1 r2 r3:ResultVar} {x1 x2 x3 y1 y2 y3:AV} (hr:fn.results.toList=[r1,r2,r3]) (h1:bY prog st r1=some x1) (h2:bY prog st r2=some x2) (h3:bY prog st r3=some x3) (e1:fS st x1=some y1) (e2:fS st x2=some y2) (e3:fS st x3=some y3) (hk:Ext.pI f=false:=by exact aJ (by decide)):Dn prog f fn (.ret,st)=some (.eH [y1,y2,y3]):=A1 hk (.inl rfl) hr h1 h2 h3 e1 e2 e3
theorem cL {c:Code} (hf:prog.funcs[f]? = some fn) (hb:fn.body=some c) {xs:List AV} (hu:xs.any qR=false) (hx:(f == 164)=false:=by rfl) (pJ:Fa fn=true:=by kernel_rfl):aG prog f xs=cT (Bx prog c (St.init xs)) (Dn prog f fn):=Rt _ hf hb pJ xs (vB _ _ hx) hu
theorem cG {c:Code} (hf:prog.funcs[f]? = some fn) (hb:fn.body=some c) {xs:List AV} (hu:xs.any qR=false) (hx:(f == 164)=false:=by rfl) (pJ:Ua fn=true:=by kernel_rfl) (hc:mW c=true:=by kernel_rfl):aG prog f xs=cT (xZ prog true c (St.init xs)) (Dn prog f fn):=by
 rw[UM prog hf hb pJ xs (vB _ _ hx) hu,hc]
abbrev KC (g:Nat) (xs:List AV) (r:AV):Prop:=∀(st:St) (d:Option Nat),bH (aG prog) g xs st d=some { dst:=d,val:=r }
end
section
variable {b:Code} {st st':St} {n:Nat} {I:Nat->St->Prop} {Q:Ex->St->Prop}
theorem oN (m:Nat) (h:Bx prog b st=some (.normal,st')) (hi:I m st') (hm:m<n:=by omega):∃e st',Bx prog b st=some (e,st')/\((e=.normal/\∃m,m<n/\I m st')\/(e≠.normal/\Q e st')):=pP h m hm hi
theorem oT (e:Ex) (h:Bx prog b st=some (e,st')) (hq:Q e st') (he:e≠.normal:=by simp):∃e st',Bx prog b st=some (e,st')/\((e=.normal/\∃m,m<n/\I m st')\/(e≠.normal/\Q e st')):=aI1 h he hq
theorem Dr {bi:Bool} (m:Nat) (h:xZ prog bi b st=some (.normal,st')) (hi:I m st') (hm:m<n:=by omega):∃e st',xZ prog bi b st=some (e,st')/\((e=.normal/\∃m,m<n/\I m st')\/(e≠.normal/\Q e st')):=aI5 h m hm hi
theorem IY {bi:Bool} (e:Ex) (h:xZ prog bi b st=some (e,st')) (hq:Q e st') (he:e≠.normal:=by simp):∃e st',xZ prog bi b st=some (e,st')/\((e=.normal/\∃m,m<n/\I m st')\/(e≠.normal/\Q e st')):=aFj h he hq
end
end Go.Ab.Tryz
end
namespace Go.Ab.Tryz
open Classical Go.Proofs Go.Ab
def FT:=aj (aj (aj (aj (aj (aj @Y2 (aj @PD @aDj)) (aj @FC (aj @FD @XA))) (aj (aj @XB (aj @aGi @LD)) (aj (aj @G6 @Rf) (aj @XC @aDk)))) (aj (aj (aj @aKH (aj @RA @Zh)) (aj @L5 (aj @G7 @LI))) (aj (aj @D7 (aj @aDl @aKI)) (aj (aj @LW @H6) (aj @Zj @aA9))))) (aj (aj (aj (aj @PE (aj @nP @PF)) (aj @XD (aj @aDm @aKJ))) (aj (aj @JR (aj @IZ @Un)) (aj (aj @JA @Rk) (aj @XE @SW)))) (aj (aj (aj @aDn (aj @aOk @aGj)) (aj (aj @PG @aDo) (aj @aKK @Y3))) (aj (aj @iW (aj @JO @sB)) (aj (aj @uZ @XF) (aj @yC @aDp)))))) (aj (aj (aj (aj (aj @aOl (aj @aGk @FE)) (aj @aDq (aj @aKL @XG))) (aj (aj @rS (aj @uD @Xf)) (aj (aj @pZ @Hg) (aj @Bh @Pe)))) (aj (aj (aj @aOm (aj @aGl @XH)) (aj @aDr (aj @aKM @pC))) (aj (aj @xJ (aj @aGm @aDs)) (aj (aj @RK @H7) (aj @rZ @ZM))))) (aj (aj (aj (aj @Oy (aj @ZN @Fb)) (aj @D8 (aj @Hf @D9))) (aj (aj @Y4 (aj @aDt @aKN)) (aj (aj @Rn @He) (aj @LM @kE)))) (aj (aj (aj @aOn (aj @aGn @E0)) (aj (aj @E1 @Y5) (aj @aDu @aKO))) (aj (aj @aGo (aj @Hb @xK)) (aj (aj @vA @aDv) (aj @aAK @aAJ))))))
def E8:=EV
def L8:=LE
def R8:=RD
def F8:=aj FA FT
def EGn:=aj (aj (aj (aj (aj (aj @size_toArray.{0} @mQ) (aj @pA @mR)) (aj (aj @mS @pB) (aj @UI @UJ))) (aj (aj (aj @K0 @LR) (aj @KH @VW)) (aj (aj @B0 @A6) (aj @VE (aj @bS @aT))))) (aj (aj (aj (aj @aX @U7) (aj @A8 @U8)) (aj (aj @aCw @aCx) (aj @VH (aj @VI @VJ)))) (aj (aj (aj @VK @VL) (aj @VM @VN)) (aj (aj @VO @VP) (aj @VQ (aj @VR @VT)))))) (aj (aj (aj (aj (aj @VU @VV) (aj @aJb @aCN)) (aj (aj @BY @K7) (aj @aFk (aj @U9 @aFl)))) (aj (aj (aj @aCB @aI8) (aj @aCC @GY)) (aj (aj @NS @VX) (aj @aFm (aj @aCD @aCE))))) (aj (aj (aj (aj @aFn @NT) (aj @aCF @NU)) (aj (aj @B4 @B5) (aj @aCG (aj @B6 @aI9)))) (aj (aj (aj @aFo @ZS) (aj @aFp @aCH)) (aj (aj @aCI @aCJ) (aj @aJa (aj @V0 @aCK))))))
def ZC:=aj (aj L8 R8) F8
def Z8:=aj EV ZC
def ZG:=aj (aj (aj EGn @U5) Z8) (aj @Bool.false_and @Prod.mk.injEq.{0,0})
end Go.Ab.Tryz
namespace Go.Ab.Tryz
open Go.Ab
def Im:(((aB 0 2 (some 2)=[])/\((aB 1 13 (some 11)=[])/\(aB 2 17 (some 22)=[])))/\(((aB 3 4 (some 37)=[])/\(aB 4 8 (some 40)=[]))/\((aB 5 10 (some 48)=[])/\(aB 6 9 (some 56)=[(4,7)]))))/\(((aB 7 6 (some 63)=[])/\((aB 8 6 (some 68)=[])/\(aB 9 9 (some 73)=[])))/\(((aB 10 18 (some 82)=[])/\(aB 11 4 (some 99)=[]))/\((aB 12 3 (some 103)=[])/\(aB 13 2 (some 105)=[])))):=⟨⟨⟨rfl,⟨rfl,rfl⟩⟩,⟨⟨rfl,rfl⟩,⟨rfl,rfl⟩⟩⟩,⟨⟨rfl,⟨rfl,rfl⟩⟩,⟨⟨rfl,rfl⟩,⟨rfl,rfl⟩⟩⟩⟩
def MA:(((aB 0 5 (some 2)=[])/\(aB 1 1 (some 7)=[]))/\((aB 2 5 (some 9)=[])/\(aB 4 11 (some 16)=[])))/\(((aB 5 7 (some 27)=[])/\(aB 6 13 (some 32)=[]))/\((aB 7 5 (some 44)=[(1,2)])/\((aB 3 3 (some 14)=[])/\(aB 8 5 (some 46)=[])))):=⟨⟨⟨rfl,rfl⟩,⟨rfl,rfl⟩⟩,⟨⟨rfl,rfl⟩,⟨rfl,⟨rfl,rfl⟩⟩⟩⟩
def ZX:((((aB 0 3 (some 2)=[])/\(aB 1 8 (some 9)=[(3,6)]))/\((aB 2 41 (some 13)=[])/\(aB 3 1 (some 4)=[])))/\(((aB 4 38 (some 54)=[])/\(aB 5 1 (some 4)=[]))/\((aB 6 1 (some 7)=[])/\(aB 7 6 (some 131)=[]))))/\((((aB 9 14 (some 139)=[])/\(aB 10 1 (some 4)=[]))/\((aB 8 3 (some 137)=[])/\(aB 11 1 (some 8)=[])))/\(((aB 12 6 (some 153)=[])/\(aB 14 13 (some 161)=[]))/\((aB 15 1 (some 4)=[])/\((aB 13 3 (some 159)=[])/\(aB 16 1 (some 4)=[]))))):=⟨⟨⟨⟨rfl,rfl⟩,⟨rfl,rfl⟩⟩,⟨⟨rfl,rfl⟩,⟨rfl,rfl⟩⟩⟩,⟨⟨⟨rfl,rfl⟩,⟨rfl,rfl⟩⟩,⟨⟨rfl,rfl⟩,⟨rfl,⟨rfl,rfl⟩⟩⟩⟩⟩
def tC:(((((aB 0 2 (some 3)=[])/\(aB 1 7 (some 12)=[]))/\((aB 2 4 (some 18)=[])/\(aB 3 14 (some 22)=[])))/\(((aB 4 8 (some 35)=[])/\(aB 5 23 (some 41)=[]))/\((aB 6 9 (some 62)=[])/\((aB 7 5 (some 71)=[])/\(aB 8 4 (some 75)=[])))))/\((((aB 9 9 (some 79)=[])/\(aB 10 7 (some 87)=[]))/\((aB 11 6 (some 93)=[])/\((aB 12 13 (some 97)=[])/\(aB 13 4 (some 110)=[]))))/\(((aB 14 6 (some 114)=[])/\(aB 15 4 (some 119)=[]))/\((aB 16 15 (some 122)=[])/\((aB 17 12 (some 137)=[(7,9)])/\(aB 18 11 (some 147)=[]))))))/\(((((aB 19 5 (some 158)=[])/\(aB 20 8 (some 162)=[(3,5)]))/\((aB 21 3 (some 168)=[])/\((aB 22 2 (some 172)=[])/\(aB 23 6 (some 173)=[]))))/\(((aB 24 2 (some 179)=[])/\(aB 25 5 (some 180)=[]))/\((aB 26 2 (some 185)=[])/\((aB 27 5 (some 186)=[])/\(aB 28 2 (some 191)=[])))))/\((((aB 29 9 (some 192)=[])/\(aB 30 2 (some 201)=[]))/\((aB 31 5 (some 202)=[])/\((aB 32 2 (some 207)=[])/\(aB 33 16 (some 208)=[]))))/\(((aB 34 2 (some 224)=[])/\(aB 35 5 (some 225)=[]))/\((aB 36 2 (some 230)=[])/\((aB 37 3 (some 231)=[])/\(aB 38 2 (some 233)=[])))))):=⟨⟨⟨⟨⟨rfl,rfl⟩,⟨rfl,rfl⟩⟩,⟨⟨rfl,rfl⟩,⟨rfl,⟨rfl,rfl⟩⟩⟩⟩,⟨⟨⟨rfl,rfl⟩,⟨rfl,⟨rfl,rfl⟩⟩⟩,⟨⟨rfl,rfl⟩,⟨rfl,⟨rfl,rfl⟩⟩⟩⟩⟩,⟨⟨⟨⟨rfl,rfl⟩,⟨rfl,⟨rfl,rfl⟩⟩⟩,⟨⟨rfl,rfl⟩,⟨rfl,⟨rfl,rfl⟩⟩⟩⟩,⟨⟨⟨rfl,rfl⟩,⟨rfl,⟨rfl,rfl⟩⟩⟩,⟨⟨rfl,rfl⟩,⟨rfl,⟨rfl,rfl⟩⟩⟩⟩⟩⟩
def aR9:(((aB 0 3 (some 2)=[])/\((aB 1 29 (some 11)=[(14,27),(20,27),(21,27),(23,27),(24,27)])/\(aB 2 12 (some 36)=[(7,10)])))/\((aB 3 7 (some 44)=[])/\((aB 4 3 (some 50)=[])/\(aB 5 2 (some 54)=[]))))/\(((aB 6 9 (some 55)=[])/\((aB 7 2 (some 64)=[])/\(aB 8 6 (some 65)=[])))/\(((aB 9 9 (some 70)=[])/\(aB 10 2 (some 79)=[]))/\((aB 11 10 (some 80)=[])/\(aB 12 4 (some 89)=[(1,2)])))):=⟨⟨⟨rfl,⟨rfl,rfl⟩⟩,⟨rfl,⟨rfl,rfl⟩⟩⟩,⟨⟨rfl,⟨rfl,rfl⟩⟩,⟨⟨rfl,rfl⟩,⟨rfl,rfl⟩⟩⟩⟩
def MD:(((aB 0 6 (some 3)=[])/\((aB 1 8 (some 16)=[(5,6)])/\(aB 2 5 (some 22)=[])))/\((aB 3 2 (some 27)=[])/\((aB 4 5 (some 28)=[])/\(aB 5 2 (some 33)=[]))))/\(((aB 6 8 (some 35)=[])/\((aB 7 8 (some 41)=[])/\(aB 8 5 (some 46)=[])))/\(((aB 9 11 (some 51)=[])/\(aB 10 31 (some 59)=[]))/\((aB 11 5 (some 90)=[])/\(aB 12 5 (some 92)=[(1,2)])))):=⟨⟨⟨rfl,⟨rfl,rfl⟩⟩,⟨rfl,⟨rfl,rfl⟩⟩⟩,⟨⟨rfl,⟨rfl,rfl⟩⟩,⟨⟨rfl,rfl⟩,⟨rfl,rfl⟩⟩⟩⟩
def Ul:(((aB 0 6 (some 3)=[])/\(aB 1 10 (some 13)=[(5,8)]))/\((aB 2 5 (some 19)=[])/\((aB 3 2 (some 24)=[])/\(aB 4 5 (some 25)=[]))))/\(((aB 5 2 (some 30)=[])/\(aB 6 12 (some 31)=[]))/\((aB 7 36 (some 41)=[])/\((aB 8 5 (some 114)=[])/\(aB 9 5 (some 116)=[(1,2)])))):=⟨⟨⟨rfl,rfl⟩,⟨rfl,⟨rfl,rfl⟩⟩⟩,⟨⟨rfl,rfl⟩,⟨rfl,⟨rfl,rfl⟩⟩⟩⟩
def tM:((((aB 0 4 (some 3)=[])/\(aB 1 13 (some 16)=[]))/\((aB 2 2 (some 23)=[])/\((aB 3 2 (some 25)=[])/\(aB 4 7 (some 26)=[]))))/\(((aB 5 6 (some 32)=[])/\(aB 6 8 (some 37)=[(1,4)]))/\((aB 7 2 (some 43)=[])/\((aB 8 2 (some 45)=[])/\(aB 9 14 (some 47)=[])))))/\((((aB 10 6 (some 59)=[])/\(aB 11 3 (some 65)=[]))/\((aB 12 9 (some 68)=[])/\((aB 13 1 (some 13)=[])/\(aB 14 1 (some 14)=[]))))/\(((aB 15 6 (some 74)=[])/\((aB 17 9 (some 82)=[])/\(aB 18 10 (some 91)=[])))/\((aB 16 3 (some 80)=[])/\((aB 19 4 (some 100)=[])/\(aB 20 2 (some 103)=[]))))):=⟨⟨⟨⟨rfl,rfl⟩,⟨rfl,⟨rfl,rfl⟩⟩⟩,⟨⟨rfl,rfl⟩,⟨rfl,⟨rfl,rfl⟩⟩⟩⟩,⟨⟨⟨rfl,rfl⟩,⟨rfl,⟨rfl,rfl⟩⟩⟩,⟨⟨rfl,⟨rfl,rfl⟩⟩,⟨rfl,⟨rfl,rfl⟩⟩⟩⟩⟩
def Mx:(((aB 0 2 (some 1)=[])/\(aB 1 3 (some 5)=[]))/\((aB 2 2 (some 7)=[])/\((aB 3 1 (some 4)=[])/\(aB 4 4 (some 8)=[]))))/\(((aB 6 9 (some 14)=[])/\((aB 7 10 (some 23)=[])/\(aB 8 7 (some 32)=[])))/\((aB 9 13 (some 39)=[])/\((aB 5 3 (some 12)=[])/\(aB 10 2 (some 51)=[])))):=⟨⟨⟨rfl,rfl⟩,⟨rfl,⟨rfl,rfl⟩⟩⟩,⟨⟨rfl,⟨rfl,rfl⟩⟩,⟨rfl,⟨rfl,rfl⟩⟩⟩⟩
def CB:((((aB 0 3 (some 2)=[])/\(aB 1 4 (some 14)=[]))/\((aB 2 10 (some 17)=[])/\(aB 3 1 (some 9)=[])))/\(((aB 4 4 (some 22)=[])/\(aB 5 4 (some 25)=[]))/\((aB 6 1 (some 10)=[])/\(aB 7 1 (some 11)=[]))))/\((((aB 8 3 (some 29)=[])/\(aB 10 5 (some 34)=[]))/\((aB 11 2 (some 38)=[])/\(aB 12 1 (some 12)=[])))/\(((aB 13 7 (some 40)=[])/\(aB 14 5 (some 45)=[]))/\((aB 15 8 (some 50)=[])/\((aB 9 3 (some 32)=[])/\(aB 16 6 (some 56)=[(2,3)]))))):=⟨⟨⟨⟨rfl,rfl⟩,⟨rfl,rfl⟩⟩,⟨⟨rfl,rfl⟩,⟨rfl,rfl⟩⟩⟩,⟨⟨⟨rfl,rfl⟩,⟨rfl,rfl⟩⟩,⟨⟨rfl,rfl⟩,⟨rfl,⟨rfl,rfl⟩⟩⟩⟩⟩
def aAW:((aB 0 3 (some 1)=[])/\((aB 1 5 (some 5)=[])/\(aB 2 8 (some 8)=[])))/\((aB 3 3 (some 16)=[])/\((aB 4 5 (some 17)=[(0,2)])/\(aB 5 5 (some 20)=[(1,3)]))):=⟨⟨rfl,⟨rfl,rfl⟩⟩,⟨rfl,⟨rfl,rfl⟩⟩⟩
def Nn:((((aB 0 2 (some 1)=[])/\(aB 1 8 (some 6)=[]))/\((aB 2 1 (some 2)=[])/\((aB 3 7 (some 15)=[])/\(aB 4 2 (some 19)=[]))))/\(((aB 5 2 (some 21)=[])/\((aB 6 5 (some 22)=[])/\(aB 7 2 (some 25)=[])))/\((aB 8 2 (some 28)=[])/\((aB 9 4 (some 29)=[])/\(aB 10 2 (some 33)=[])))))/\((((aB 11 4 (some 34)=[])/\((aB 12 2 (some 38)=[])/\(aB 13 4 (some 39)=[])))/\((aB 14 2 (some 43)=[])/\((aB 15 4 (some 44)=[])/\(aB 16 2 (some 48)=[]))))/\(((aB 17 4 (some 49)=[])/\((aB 18 2 (some 53)=[])/\(aB 19 8 (some 54)=[(3,5)])))/\((aB 20 4 (some 60)=[])/\((aB 21 1 (some 2)=[])/\(aB 22 1 (some 2)=[]))))):=⟨⟨⟨⟨rfl,rfl⟩,⟨rfl,⟨rfl,rfl⟩⟩⟩,⟨⟨rfl,⟨rfl,rfl⟩⟩,⟨rfl,⟨rfl,rfl⟩⟩⟩⟩,⟨⟨⟨rfl,⟨rfl,rfl⟩⟩,⟨rfl,⟨rfl,rfl⟩⟩⟩,⟨⟨rfl,⟨rfl,rfl⟩⟩,⟨rfl,⟨rfl,rfl⟩⟩⟩⟩⟩
def QY:((aB 0 2 (some 3)=[])/\(aB 1 1 (some 5)=[]))/\((aB 2 15 (some 6)=[])/\((aB 3 3 (some 21)=[])/\(aB 4 13 (some 23)=[(7,10)]))):=⟨⟨rfl,rfl⟩,⟨rfl,⟨rfl,rfl⟩⟩⟩
def Cz:((((aB 0 3 (some 1)=[])/\(aB 1 3 (some 9)=[]))/\((aB 2 3 (some 12)=[])/\(aB 3 5 (some 13)=[])))/\(((aB 4 3 (some 17)=[])/\(aB 5 7 (some 19)=[]))/\((aB 6 4 (some 26)=[])/\((aB 7 7 (some 28)=[])/\(aB 8 4 (some 34)=[])))))/\((((aB 9 3 (some 37)=[])/\(aB 10 1 (some 6)=[]))/\((aB 11 4 (some 39)=[])/\((aB 13 8 (some 45)=[])/\(aB 14 12 (some 53)=[]))))/\(((aB 15 11 (some 65)=[])/\(aB 16 2 (some 73)=[]))/\((aB 17 7 (some 75)=[])/\((aB 12 3 (some 43)=[])/\(aB 18 3 (some 81)=[]))))):=⟨⟨⟨⟨rfl,rfl⟩,⟨rfl,rfl⟩⟩,⟨⟨rfl,rfl⟩,⟨rfl,⟨rfl,rfl⟩⟩⟩⟩,⟨⟨⟨rfl,rfl⟩,⟨rfl,⟨rfl,rfl⟩⟩⟩,⟨⟨rfl,rfl⟩,⟨rfl,⟨rfl,rfl⟩⟩⟩⟩⟩
def aMx:((aB 0 2 (some 3)=[])/\(aB 1 14 (some 5)=[(3,5),(3,8),(6,8),(3,11),(6,11),(9,11)]))/\((aB 2 8 (some 18)=[(3,5)])/\((aB 3 8 (some 25)=[(3,5)])/\(aB 4 13 (some 32)=[(4,7),(4,10),(8,10)]))):=⟨⟨rfl,rfl⟩,⟨rfl,⟨rfl,rfl⟩⟩⟩
def aGT:((aB 0 3 (some 1)=[])/\(aB 1 4 (some 5)=[]))/\((aB 2 2 (some 8)=[])/\((aB 3 3 (some 10)=[])/\(aB 4 14 (some 11)=[(5,7),(5,10),(8,10)]))):=⟨⟨rfl,rfl⟩,⟨rfl,⟨rfl,rfl⟩⟩⟩
def RQ:(((aB 0 3 (some 1)=[])/\(aB 1 4 (some 6)=[]))/\((aB 2 2 (some 2)=[])/\(aB 3 14 (some 10)=[(7,9),(7,10)])))/\(((aB 4 1 (some 5)=[])/\(aB 5 5 (some 23)=[]))/\((aB 7 8 (some 30)=[])/\((aB 6 3 (some 28)=[])/\(aB 8 3 (some 37)=[])))):=⟨⟨⟨rfl,rfl⟩,⟨rfl,rfl⟩⟩,⟨⟨rfl,rfl⟩,⟨rfl,⟨rfl,rfl⟩⟩⟩⟩
def aA5:((aB 0 3 (some 1)=[])/\(aB 1 8 (some 4)=[]))/\((aB 2 2 (some 2)=[])/\(aB 3 13 (some 12)=[(7,9)])):=⟨⟨rfl,rfl⟩,⟨rfl,rfl⟩⟩
def aMl:(aB 0 2 (some 3)=[])/\(aB 1 8 (some 5)=[(3,5)]):=⟨rfl,rfl⟩
def aGS:(aB 0 2 (some 3)=[])/\(aB 1 14 (some 5)=[(3,5),(3,8),(6,8),(3,11),(6,11),(9,11)]):=⟨rfl,rfl⟩
def BK:((aB 0 1 (some 4)=[])/\((aB 1 1 (some 5)=[])/\(aB 2 12 (some 6)=[])))/\(((aB 3 3 (some 18)=[])/\(aB 4 12 (some 20)=[]))/\((aB 5 2 (some 32)=[])/\(aB 6 12 (some 33)=[(6,9)]))):=⟨⟨rfl,⟨rfl,rfl⟩⟩,⟨⟨rfl,rfl⟩,⟨rfl,rfl⟩⟩⟩
end Go.Ab.Tryz
