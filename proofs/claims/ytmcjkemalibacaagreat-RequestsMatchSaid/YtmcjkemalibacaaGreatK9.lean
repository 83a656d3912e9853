/-
  Part 9 of the proof: an evaluator of programs, its soundness, and what functions of this program compute.
-/
import Derived.Test.YtmcjkemalibacaaGreatK8
import Derived.Test.YtmcjkemalibacaaGreatK5
set_option linter.all false
set_option maxRecDepth 20000
set_option maxHeartbeats 40000000
section
namespace Go.Ab
open Classical
instance:Inhabited Node:=⟨YC⟩
def nd (ns:List Node) (i:Int):Node:=ns.getD i.toNat YC
def it (l:List Int) (i:Int):Int:=l.getD i.toNat 0
theorem Km {ns:List Node} {i:Int} (h0:0≤i) (h1:i<ns.length):∃h:i.toNat<ns.length,nd ns i=ns[i.toNat]:=by
 have h:i.toNat<ns.length:=by omega
 exact⟨h,by simp[nd,h]⟩
theorem wN {l:List Int} {i:Int} (h0:0≤i) (h1:i<l.length):∃h:i.toNat<l.length,it l i=l[i.toNat]:=by
 have h:i.toNat<l.length:=by omega
 exact⟨h,by simp[it,h]⟩
theorem PZ (l:List Int):aK l=l.map fun x=>.v (.int .i64 x):=by
 induction l with
 | nil=>rfl
 | cons a l ih=>simp only[aK,List.flatMap_cons,List.map_cons,pE] at *;rw[ih];rfl
theorem JW (l:List Int):bC l=l.map fun x=>.v (.int .u64 x):=by
 induction l with
 | nil=>rfl
 | cons a l ih=>simp only[bC,List.flatMap_cons,List.map_cons,rC] at *;rw[ih];rfl
theorem C9 (a b:List Int):aK (a++b)=aK a++aK b:=by simp[aK]
theorem Zl (a b:List Node):cC (a++b)=cC a++cC b:=by simp[cC]
theorem l8 (l:List Int):∀c∈aK l,fM c:=by rw[PZ];intro c hc;obtain⟨x,_,rfl⟩:=List.mem_map.1 hc;exact .v _
theorem D0 {l:List Int} {i:Int} (h0:0≤i) (h1:i<l.length):(aK l)[i.toNat]? = some (.v (.int .i64 (it l i))):=by
 obtain⟨h,e⟩:=wN h0 h1
 rw[PZ,List.getElem?_map,List.getElem?_eq_getElem h,e];rfl
theorem l7 {l:List Int} {i:Int} (h0:0≤i) (h1:i<l.length):(bC l)[i.toNat]? = some (.v (.int .u64 (it l i))):=by
 obtain⟨h,e⟩:=wN h0 h1
 rw[JW,List.getElem?_map,List.getElem?_eq_getElem h,e];rfl
theorem VT {ns:List Node} {i:Int} (h0:0≤i) (h1:i<ns.length):((cC ns).drop (i.toNat * 240)).take 240=fJ (nd ns i):=by
 obtain⟨h,e⟩:=Km h0 h1
 rw[e,← B8 ns i.toNat h];rfl
theorem JC:((1:Nat)=0)=False:=by simp
theorem JD:((0:Nat)=1)=False:=by simp
theorem cO {x:AV} (h:Flat x):∀y∈[x],Flat y:=by simpa using h
theorem bE {x y:AV} (h:Flat x) (h':Flat y):∀z∈[x,y],Flat z:=by simp[h,h']
theorem lN {x y u:AV} (h:Flat x) (h':Flat y) (h2:Flat u):∀z∈[x,y,u],Flat z:=by simp[h,h',h2]
theorem nJ (t:Tree):Flat (.agg (cP t)):=.agg _ (UU t)
theorem uI (t:Block):Flat (.agg (aU t)):=.agg _ (Ax t)
theorem rH (t:cM):Flat (.agg (aZ t)):=.agg _ (dP t)
theorem Pn (l:List Int):Flat (.sl l.length (aK l)):=.sl _ _ (gD l)
theorem aC1 (st:St) (n:Nat) (cs:List AV):aR st (.sl n cs)=some (n,cs):=rfl
theorem Z6 (st:St):aR st (.v (.slice none 0 0))=some (0,[]):=rfl
theorem aHv (x:Int):pE x=[.v (.int .i64 x)]:=rfl
theorem aHw (x:Int):rC x=[.v (.int .u64 x)]:=rfl
theorem aC2 (x:Bool):uL x=[.v (.bool x)]:=rfl
namespace Tryz
open Go.Proofs
theorem aMF (st:St) {ns:List Node} {k:IntKind} {i:Int} (h0:0≤i) (h1:i<ns.length):bD Tryz.prog st 48 (.sl ns.length (cC ns)) (.v (.int k i))=some (.ip (fJ (nd ns i)) 0):=by
 have hl:i.toNat<ns.length:=by omega
 have:i.toNat * 240+240≤ns.length * 240:=by rw[← Nat.succ_mul];exact Nat.mul_le_mul_right _ hl
 simp only[bD,aHt,PX,h0,h1,Kn,this,and_self,if_true,VT h0 h1]
theorem aDI (st:St) {l:List Int} {k:IntKind} {i:Int} (h0:0≤i) (h1:i<l.length):bD Tryz.prog st 22 (.sl l.length (aK l)) (.v (.int k i))=some (.ip (pE (it l i)) 0):=by
 obtain⟨h,e⟩:=wN h0 h1
 have:i.toNat * 1+1≤l.length * 1:=by omega
 have hr:=W7 l i.toNat h
 simp only[bD,aCZ,Kj,h0,h1,Iq,this,and_self,if_true,e,← hr];rfl
theorem Z7 {call:Nat→List AV→Option AV} {ops:Array Oper} {st:St} {d:Option Nat} {T:Nat} {pos:String} {eN:Array Edge} (g:Nat) (args:Array Operand) (sZ:Array Nat) (h:(g == 215 || g == 226 || g == 227 || g == 229 || g == 228 || g == 230 || g == 231 || g == 210 || g == 81 || g == 217 || g == 222 || g == 235 || g == 220 || g == 101 || g == 57 || g == 32 || (g == 43 && d == some 72))=false) :
 bZ Tryz.prog call ops ⟨d,.call ⟨.value (.func g),args,sZ⟩,T,pos,eN,none⟩ st=cD (aN call g (args.toList.map st.ev) st d) fun e=>some (e.apply st):=by
 simp only[Bool.or_eq_false_iff] at h;exact aB7 g args sZ (aCD (by simp only[h,Bool.or_self])) (Y9 (by simp only[h,Bool.or_self]))
theorem D1 {call:Nat→List AV→Option AV} {ops:Array Oper} {st:St} {d:Option Nat} {T:Nat} {pos:String} {eN:Array Edge} (g:Nat) (args:Array Operand) (sZ:Array Nat) (h:(g == 215 || g == 226 || g == 227 || g == 229 || g == 228 || g == 230 || g == 231 || g == 210 || g == 81)=true) :
 bZ Tryz.prog call ops ⟨d,.call ⟨.value (.func g),args,sZ⟩,T,pos,eN,none⟩ st=cD (lH call g (args.toList.map st.ev) st d) fun e=>some (e.apply st):=U6 g args sZ (YF h)
theorem Z9 {call:Nat→List AV→Option AV} {ops:Array Oper} {st:St} {d:Option Nat} {T:Nat} {pos:String} {eN:Array Edge} (g:Nat) (args:Array Operand) (sZ:Array Nat) (h:(g == 217 || g == 222 || g == 235 || g == 220 || g == 101 || g == 57 || g == 32 || (g == 43 && d == some 72))=true) :
 bZ Tryz.prog call ops ⟨d,.call ⟨.value (.func g),args,sZ⟩,T,pos,eN,none⟩ st=cD (fC call g (args.toList.map st.ev) st d) fun e=>some (e.apply st):=by
 refine UJ g args sZ ?_ (Z0 h)
 simp only[Bool.or_eq_true,Bool.and_eq_true,beq_iff_eq] at h;rcases h with ((((((h|h)|h)|h)|h)|h)|h)|⟨h,_⟩<;>(subst h;rfl)
theorem aMG {S d:Nat} (h:((S == 54 && (d == 36 || d == 42 || d == 26)) || (S == 45 && (d == 84 || d == 91)))=false):Ext.va S d=false:=YD (by
 simp only[Bool.or_eq_false_iff,Bool.and_eq_false_iff] at h ⊢;exact h.1.imp id fun h=>h.2)
theorem aMH {S d:Nat} (h:((S == 54 && (d == 36 || d == 42 || d == 26)) || (S == 45 && (d == 84 || d == 91)))=false):Ext.pa S d=false:=aCC (by
 simp only[Bool.or_eq_false_iff,Bool.and_eq_false_iff] at h ⊢;exact⟨h.1.imp id fun h=>h.1,h.2⟩)
theorem aAa {S d:Nat} (h:((S == 54 && (d == 36 || d == 42)) || (S == 45 && (d == 84 || d == 91)))=true):Ext.va S d=false:=YD (by
 by_cases h2:d=26
 ·subst h2;simp at h
 ·simp[h2])
theorem aC3 {call:Nat→List AV→Option AV} {ops:Array Oper} {st:St} {T:Nat} {pos:String} {eN:Array Edge} (s x:Operand) (S d:Nat) (h:((S == 54 && (d == 36 || d == 42 || d == 26)) || (S == 45 && (d == 84 || d == 91)))=false):bZ Tryz.prog call ops ⟨some d,.call ⟨.builtin .append,#[s,x],#[S,S]⟩,T,pos,eN,none⟩ st=cD (dC Tryz.prog st S (st.ev s) (st.ev x)) fun ur =>
 some (((match ur.1 with|some p=>st.jM p.1 p.2 none|none=>st).new d ur.2).put (some d) (.own d (st.aQ d))):=UL s x S d (aMG h) (aMH h)
theorem iG {call:Nat→List AV→Option AV} {ops:Array Oper} {st:St} {T:Nat} {pos:String} {eN:Array Edge} (s x:Operand) (S d:Nat) (h:((S == 54 && (d == 36 || d == 42)) || (S == 45 && (d == 84 || d == 91)))=true) (hn:¬(st.ev s=.v (.slice none 0 0)∧(aR st (st.ev x)).map Prod.fst=some 0)):bZ Tryz.prog call ops ⟨some d,.call ⟨.builtin .append,#[s,x],#[S,S]⟩,T,pos,eN,none⟩ st=cD (dC Tryz.prog st S (st.ev s) (st.ev x)) fun ur =>
 some (((match ur.1 with|some p=>st.jM p.1 p.2 none|none=>st).new d ur.2).put (some d) (.own d (st.aQ d))):=U8 s x S d (aAa h) (YE h) hn
theorem iF {call:Nat→List AV→Option AV} {ops:Array Oper} {st:St} {T:Nat} {pos:String} {eN:Array Edge} (s x:Operand) (S d:Nat) (h:((S == 54 && (d == 36 || d == 42)) || (S == 45 && (d == 84 || d == 91)))=true) (hi:(dL Tryz.prog S).isSome=true) (h1:st.ev s=.v (.slice none 0 0)) (h2:(aR st (st.ev x)).map Prod.fst=some 0):bZ Tryz.prog call ops ⟨some d,.call ⟨.builtin .append,#[s,x],#[S,S]⟩,T,pos,eN,none⟩ st=some (st.put (some d) (.v (.slice none 0 0))):=U9 s x S d (aAa h) (YE h) hi h1 h2
end Tryz
end Go.Ab
end
section
namespace Go.Ab
open Classical
noncomputable def tQ (call:Nat→List AV→Option AV) (g:Nat) (xs:Option (List AV)) (fl:Bool) (st:St) (d:Option Nat):Option qT :=
 cD xs fun xs=>cD (call g xs) fun r=>if fl=true∨Uq r then iW r st d else none
theorem Cm {st:St}:∀(args:List AV),(∀x∈args,Flat x)→cE (args.map (fO st))=some args
 | [],_=>rfl
 | x :: xs,h=>by
   simp only[List.map_cons,dX (h x (by simp)),cE,Cm xs fun y hy=>h y (by simp[hy]),Option.map_some]
theorem mU (call:Nat→List AV→Option AV) (g:Nat) (args:List AV) (st:St) (d:Option Nat):aN call g args st d=tQ call g (cE (args.map (fO st))) (decide (∀x∈args,Flat x)) st d:=by
 unfold aN tQ;by_cases h:∀x∈args,Flat x
 ·rw[if_pos h,Cm args h];have hd:decide (∀x∈args,Flat x)=true:=decide_eq_true h
  rw[hd];simp only[cU,true_or,if_true]
 ·rw[if_neg h];cases cE (args.map (fO st)) with
  | none=>rfl
  | some xs =>
    have hd:decide (∀x∈args,Flat x)=false:=decide_eq_false h
    rw[hd];simp only[cU,Bool.false_eq_true,false_or]
theorem ZI {call:Nat→List AV→Option AV} {g:Nat} {xs:List AV} {r:AV} {fl:Bool} {st:St} {d:Option Nat} (h:call g xs=some r) (hr:Uq r) (hf:Flat r):tQ call g (some xs) fl st d=some { dst:=d,val:=r }:=by
 unfold tQ;simp only[cU,h,hr,or_true,if_true,iW,if_pos hf]
theorem SZ {call:Nat→List AV→Option AV} {g:Nat} {xs:List AV} {b:Bool} {fl:Bool} {st:St} {d:Option Nat} (h:call g xs=some (.v (.bool b))):tQ call g (some xs) fl st d=some { dst:=d,val:=.v (.bool b)}:=ZI h (.v _) (.v _)
theorem DE {call:Nat→List AV→Option AV} {g:Nat} {xs:List AV} {k:IntKind} {b:Int} {fl:Bool} {st:St} {d:Option Nat} (h:call g xs=some (.v (.int k b))):tQ call g (some xs) fl st d=some { dst:=d,val:=.v (.int k b)}:=ZI h (.v _) (.v _)
theorem J8 {call:Nat→List AV→Option AV} {g:Nat} {xs:List AV} {e sz n:Nat} {cs:List AV} {fl:Bool} {st:St} {d:Nat} (h:call g xs=some (.uniq e sz n cs)) (hr:∀c∈cs,fM c):tQ call g (some xs) fl st (some d)=some { dst:=some d,val:=.own d (st.aQ d),new:=some (d,[.row e sz n cs])}:=by
 have WS:Uq (.uniq e sz n cs):=hr
 have hnf:¬Flat (.uniq e sz n cs):=by intro h;cases h
 unfold tQ;simp only[cU,h,WS,or_true,if_true,iW,if_neg hnf];rfl
noncomputable def jC (o:Option nD):Option AV :=
 match o with
 | some (.row _ _ n cs)=>if ∀c∈cs,Flat c then some (.sl n cs) else none
 | _=>none
theorem vA (st:St) (s g:Nat):fO st (.own s g)=jC (st.heap s g):=by
 unfold fO cY jC;rw[if_neg (mT s g)];simp only[if_neg (mT s g)];cases st.heap s g with
 | none=>rfl
 | some e=>cases e<;>rfl
theorem D2 (e sz n:Nat) (l:List Int):jC (some (.row e sz n (aK l)))=some (.sl n (aK l)):=by
 unfold jC;simp only;rw[if_pos (gD l)]
theorem D3 (e sz n:Nat) (l:List Int):jC (some (.row e sz n (bC l)))=some (.sl n (bC l)):=by
 unfold jC;simp only;rw[if_pos (hU l)]
theorem VU (e sz n:Nat) (l:List Node):jC (some (.row e sz n (cC l)))=some (.sl n (cC l)):=by
 unfold jC;simp only;rw[if_pos (lB l)]
theorem QA (e sz:Nat) (x:Node):jC (some (.row e sz 1 (fJ x)))=some (.sl [x].length (cC [x])):=by
 unfold jC;simp only;rw[if_pos (Yh x)];simp[cC]
theorem Pw (st:St) (x:Value):fO st (.v x)=some (.v x):=dX (.v x)
theorem Ih (st:St) (t:Tree):fO st (.agg (cP t))=some (.agg (cP t)):=dX (nJ t)
theorem Qb (st:St) (t:cM):fO st (.agg (aZ t))=some (.agg (aZ t)):=dX (rH t)
theorem Ku (st:St) (t:Block):fO st (.agg (aU t))=some (.agg (aU t)):=dX (uI t)
theorem aAb (st:St) (n:Nat) (l:List Int):fO st (.sl n (aK l))=some (.sl n (aK l)):=dX (.sl _ _ (gD l))
theorem aAc (st:St) (n:Nat) (l:List Int):fO st (.sl n (bC l))=some (.sl n (bC l)):=dX (.sl _ _ (hU l))
theorem aC4 (st:St):fO st (.agg [.v (.slice none 0 0)])=some (.agg [.v (.slice none 0 0)]):=dX (.agg _ (by simp;exact .v _))
theorem gR {α:Type}:cE ([]:List (Option α))=some []:=rfl
theorem bR {α:Type} (x:α) (r:List (Option α)):cE (some x :: r)=(cE r).map (x :: ·):=rfl
theorem aC5 (x:Int):xL 3 1 8 (some (1,[.v (.int .i64 x)]))=some (none,.row 3 1 [x].length (aK [x])):=by
 simp[xL,maxLen];rfl
theorem aC6 (l:List Int) (x:Int) (s g:Nat) (h:(l.length:Int)<1000000):wZ 3 1 8 (some (.row 3 1 l.length (aK l))) s g (some (1,[.v (.int .i64 x)]))=some (some (s,g),.row 3 1 (l++[x]).length (aK (l++[x]))):=by
 simp only[wZ];rw[if_pos ⟨by simp,by simp,by simp,by omega,by simp only[maxLen];omega⟩,C9]
 simp[aK,pE]
theorem aAd (x:Node):xL 76 240 352 (some (1,fJ x))=some (none,.row 76 240 [x].length (cC [x])):=by
 simp[xL,maxLen,cC]
theorem aAe (l:List Node) (x:Node) (s g:Nat) (h:(l.length:Int)<1000000):wZ 76 240 352 (some (.row 76 240 l.length (cC l))) s g (some (1,fJ x))=some (some (s,g),.row 76 240 (l++[x]).length (cC (l++[x]))):=by
 simp only[wZ];rw[if_pos ⟨by simp,by simp,by simp,by omega,by simp only[maxLen];omega⟩,Zl]
 simp[cC]
theorem aAf (l:List Node) (h:(l.length:Int)<1000000):xL 76 240 352 (some (l.length,cC l))=some (none,.row 76 240 l.length (cC l)):=by
 simp only[xL];rw[if_pos (by refine⟨by simp, ?_, ?_⟩<;>(try simp only[maxLen])<;>omega)]
theorem aAg (l:List Node) (h:(l.length:Int)<1000000):acE 76 240 352 0 [] (some (l.length,cC l))=some (none,.row 76 240 l.length (cC l)):=by
 simp only[acE];rw[if_pos ⟨by simp,by simp,by simp,by omega,by simp only[maxLen];omega⟩]
 simp
theorem aAh (l:List Node) (x:Node) (h:(l.length:Int)<1000000):acE 76 240 352 l.length (cC l) (some (1,fJ x))=some (none,.row 76 240 (l++[x]).length (cC (l++[x]))):=by
 simp only[acE];rw[if_pos (by refine⟨by simp,by simp,.inr (by omega), ?_, ?_⟩<;>(try simp only[maxLen])<;>omega),Zl]
 simp[cC]
def onI {α:Type} (x:AV) (k:Int→Option α):Option α :=
 match x with
 | .v (.int .i64 v)=>k v
 | _=>none
def aEE {α:Type} (z:Nat) (x:AV) (k:List AV→Option α):Option α :=
 match x with
 | .agg cs=>if cs.length=z then k cs else none
 | _=>none
@[congr] theorem aIk {α:Type} {x y:AV} {k:Int→Option α} (h:x=y):onI x k=onI y k:=by rw[h]
@[congr] theorem aEF {α:Type} {z:Nat} {x y:AV} {k:List AV→Option α} (h:x=y):aEE z x k=aEE z y k:=by rw[h]
def Kk {α:Type} (x:AV) (k:Int→Option α) (fb:Option α):Option α :=
 match x with
 | .v (.int .i64 v)=>k v
 | _=>fb
def QB {α:Type} (z:Nat) (x:AV) (k:List AV→Option α) (fb:Option α):Option α :=
 match x with
 | .agg cs=>if cs.length=z then k cs else fb
 | _=>fb
def QC {α:Type} (x:AV) (k:Nat→List AV→Option α) (fb:Option α):Option α :=
 match x with
 | .Ev g cs=>k g cs
 | _=>fb
theorem aC7 {α:Type} (v:Int) (k:Int→Option α) (fb:Option α):Kk (.v (.int .i64 v)) k fb=k v:=rfl
theorem D4 {α:Type} (z:Nat) (cs:List AV) (k:List AV→Option α) (fb:Option α) (h:cs.length=z):QB z (.agg cs) k fb=k cs:=if_pos h
theorem D5 {α:Type} (g:Nat) (cs:List AV) (k:Nat→List AV→Option α) (fb:Option α):QC (.Ev g cs) k fb=k g cs:=rfl
@[congr] theorem aIl {α:Type} {x y:AV} {k:Int→Option α} {fb:Option α} (h:x=y):Kk x k fb=Kk y k fb:=by rw[h]
@[congr] theorem aEG {α:Type} {z:Nat} {x y:AV} {k:List AV→Option α} {fb:Option α} (h:x=y):QB z x k fb=QB z y k fb:=by rw[h]
@[congr] theorem aEH {α:Type} {x y:AV} {k:Nat→List AV→Option α} {fb:Option α} (h:x=y):QC x k fb=QC y k fb:=by rw[h]
namespace Tryz
open Go.Proofs
theorem D6 (st:St) (x:AV):dC Tryz.prog st 22 (.v (.slice none 0 0)) x=xL 3 1 8 (aR st x):=uB Kj x
theorem D7 (st:St) (s g:Nat) (x:AV):dC Tryz.prog st 22 (.own s g) x=wZ 3 1 8 (st.heap s g) s g (aR st x):=sD Kj s g x
theorem D8 (st:St) (x:AV):dC Tryz.prog st 48 (.v (.slice none 0 0)) x=xL 76 240 352 (aR st x):=uB PX x
theorem D9 (st:St) (s g:Nat) (x:AV):dC Tryz.prog st 48 (.own s g) x=wZ 76 240 352 (st.heap s g) s g (aR st x):=sD PX s g x
theorem aAi (st:St) (n:Nat) (cs:List AV) (x:AV):dC Tryz.prog st 48 (.cl n cs) x=acE 76 240 352 n cs (aR st x):=aF2 PX n cs x
theorem E0 (st:St) (s g:Nat) (k:IntKind) (i:Int):bD Tryz.prog st 22 (.own s g) (.v (.int k i))=OK 3 1 (st.heap s g) s g i:=by
 simp only[bD,aCZ,Kj,OK];cases st.heap s g with
 | none=>rfl
 | some e=>cases e<;>rfl
theorem E1 (st:St) (s g:Nat) (k:IntKind) (i:Int):bD Tryz.prog st 48 (.own s g) (.v (.int k i))=OK 76 240 (st.heap s g) s g i:=by
 simp only[bD,aHt,PX,OK];cases st.heap s g with
 | none=>rfl
 | some e=>cases e<;>rfl
theorem aC8 (l:List Int) (s g:Nat) (i:Int) (h0:0≤i) (h1:i<l.length):OK 3 1 (some (.row 3 1 l.length (aK l))) s g i=some (.ptr s g i.toNat):=by
 simp[OK,h0,h1]
theorem aAj (l:List Node) (s g:Nat) (i:Int) (h0:0≤i) (h1:i<l.length):OK 76 240 (some (.row 76 240 l.length (cC l))) s g i=some (.ptr s g (i.toNat * 240)):=by
 simp[OK,h0,h1]
theorem QD (st:St) (s g:Nat):fO st (.agg [.own s g])=(jC (st.heap s g)).map fun y=>.agg [y]:=by
 have hn:¬Flat (.agg [.own s g]):=by intro h;cases h with|agg _ h=>exact mT s g (h _ (by simp))
 unfold fO jC;rw[if_neg hn];simp only[List.map_cons,List.map_nil];unfold cY;rw[if_neg (mT s g)];simp only
 cases st.heap s g with
 | none=>rfl
 | some e=>cases e with
   | row a b n cs =>
     by_cases h:∀c∈cs,Flat c
     ·simp only[if_pos h,cE,Option.map_some]
     ·simp only[if_neg h,cE,Option.map_none]
   | _=>rfl
theorem aHx (x:AV):rd [x] 0 1=[x]:=rfl
theorem aHy (x y:AV):dJ [x] 0 [y] 1=[y]:=rfl
theorem aAk (x:AV) (t:Tree):dJ [x] 0 (cP t) 1=cP t:=rfl
theorem aAl (x:AV) (t:Tree):dJ (cP t) 0 [x] 1=[x]:=rfl
theorem oZ {l:List Int} {i:Int} (h0:0≤i) (h1:i<l.length):(aK l)[i.toNat]? = some (.v (.int .i64 (it l i))):=D0 h0 h1
def vow (o:Option nD):Option (Nat × List AV) :=
 match o with
 | some (.row _ _ n cs)=>some (n,cs)
 | _=>none
theorem aC9 (e sz n:Nat) (cs:List AV):vow (some (.row e sz n cs))=some (n,cs):=rfl
theorem E2 (st:St) (s g:Nat):aR st (.own s g)=vow (st.heap s g):=by
 simp only[aR,vow];cases st.heap s g with
 | none=>rfl
 | some o=>cases o<;>rfl
section
variable {call:Nat→List AV→Option AV} {ops:Array Oper} {st:St} {T:Nat} {pos:String} {eN:Array Edge}
theorem aDa (d:Nat) (x:Operand) {v:Int} (h:st.ev x=.v (.int .i64 v)):bZ Tryz.prog call ops ⟨some d,.buildSlice 22 1 #[(0,x)],T,pos,eN,none⟩ st=some ((st.new d (.row 3 1 1 [.v (.int .i64 v)])).put (some d) (.own d (st.aQ d))):=by
 rw[kU];simp[Kj,ze3,cD,h,AV.jL,Value.oneCell',gM,AV.cells]
theorem aDb (d:Nat) (x:Operand) {cs:List AV} (h:st.ev x=.agg cs) (hl:cs.length=240):bZ Tryz.prog call ops ⟨some d,.buildSlice 48 1 #[(0,x)],T,pos,eN,none⟩ st=some ((st.new d (.row 76 240 1 cs)).put (some d) (.own d (st.aQ d))):=by
 rw[kU];have hz:(Yi.map AV.v).length=240:=by rw[HP];simp
 simp only[PX,aGz,cD,List.toList_toArray,List.all_cons,List.all_nil,h,AV.jL,Bool.and_self,List.map_cons,List.map_nil,gM,AV.cells,hl,Nat.zero_mul,Nat.zero_add,true_and,List.take_zero,List.nil_append];have h2:((List.range 1).flatMap fun _=>Yi.map AV.v)=Yi.map AV.v:=by simp[List.range,List.range.loop]
 rw[h2,if_pos (by simp),if_pos (by rw[hz];exact Nat.le_refl _)]
 rw[List.drop_of_length_le (by rw[hz];exact Nat.le_refl _),List.append_nil]
theorem aAm (d:Nat) (x:Operand):bZ Tryz.prog call ops ⟨some d,.buildSlice 22 1 #[(0,x)],T,pos,eN,none⟩ st =
 Kk (st.ev x) (fun v=>some ((st.new d (.row 3 1 1 [.v (.int .i64 v)])).put (some d) (.own d (st.aQ d)))) (bZ Tryz.prog call ops ⟨some d,.buildSlice 22 1 #[(0,x)],T,pos,eN,none⟩ st):=by
 unfold Kk;split
 ·rename_i v h;exact aDa d x h
 ·rfl
theorem E3 (d:Nat) (x y z:Operand) {a b c:Int} (h1:st.ev x=.v (.int .i64 a)) (h2:st.ev y=.v (.int .i64 b)) (h3:st.ev z=.v (.int .i64 c)):bZ Tryz.prog call ops ⟨some d,.buildSlice 22 3 #[(0,x),(1,y),(2,z)],T,pos,eN,none⟩ st =
 some ((st.new d (.row 3 1 [a,b,c].length (aK [a,b,c]))).put (some d) (.own d (st.aQ d))):=by
 rw[kU];simp[Kj,ze3,cD,h1,h2,h3,AV.jL,Value.oneCell',gM,AV.cells,List.range,List.range.loop,aK,pE]
theorem VV (d:Nat) (x y z:Operand):bZ Tryz.prog call ops ⟨some d,.buildSlice 22 3 #[(0,x),(1,y),(2,z)],T,pos,eN,none⟩ st =
 Kk (st.ev x) (fun a=>Kk (st.ev y) (fun b=>Kk (st.ev z) (fun c=>some ((st.new d (.row 3 1 [a,b,c].length (aK [a,b,c]))).put (some d) (.own d (st.aQ d)))) (bZ Tryz.prog call ops ⟨some d,.buildSlice 22 3 #[(0,x),(1,y),(2,z)],T,pos,eN,none⟩ st))
  (bZ Tryz.prog call ops ⟨some d,.buildSlice 22 3 #[(0,x),(1,y),(2,z)],T,pos,eN,none⟩ st)) (bZ Tryz.prog call ops ⟨some d,.buildSlice 22 3 #[(0,x),(1,y),(2,z)],T,pos,eN,none⟩ st):=by
 unfold Kk;split
 ·rename_i a h1;try dsimp only
  split
  ·rename_i b h2;try dsimp only
   split
   ·rename_i c h3;exact E3 d x y z h1 h2 h3
   ·rfl
  ·rfl
 ·rfl
theorem aAn (d:Nat) (x:Operand):bZ Tryz.prog call ops ⟨some d,.buildSlice 48 1 #[(0,x)],T,pos,eN,none⟩ st =
 QB 240 (st.ev x) (fun cs=>some ((st.new d (.row 76 240 1 cs)).put (some d) (.own d (st.aQ d)))) (bZ Tryz.prog call ops ⟨some d,.buildSlice 48 1 #[(0,x)],T,pos,eN,none⟩ st):=by
 unfold QB;split
 ·rename_i cs h;split
  ·rename_i hl;exact aDb d x h hl
  ·rfl
 ·rfl
theorem CD (S d:Nat) (l c:Operand):bZ Tryz.prog call ops ⟨some d,.makeSlice S l c,T,pos,eN,none⟩ st =
 Kk (st.ev l) (fun n=>Kk (st.ev c) (fun m=>if 0≤n∧n=m then (cD (dL Tryz.prog S) fun t=>cD (dZ Tryz.prog t.1) fun z =>
  if n * t.2.2≤140737488355328∧n≤maxLen then some ((st.new d (.row t.1 t.2.1 n.toNat ((List.range n.toNat).flatMap fun _=>z.map .v))).put (some d) (.own d (st.aQ d))) else none)
  else bZ Tryz.prog call ops ⟨some d,.makeSlice S l c,T,pos,eN,none⟩ st) (bZ Tryz.prog call ops ⟨some d,.makeSlice S l c,T,pos,eN,none⟩ st)) (bZ Tryz.prog call ops ⟨some d,.makeSlice S l c,T,pos,eN,none⟩ st):=by
 unfold Kk;split
 ·rename_i n hl;split
  ·rename_i m hc;dsimp only
   split
   ·rename_i hnm;obtain⟨h0,rfl⟩:=hnm
    have hn:n=(n.toNat:Int):=by omega
    rw[HH S d l c (n:=n.toNat) (by rw[hl,← hn]) (by rw[hc,← hn]),← hn]
   ·rfl
  ·rfl
 ·rfl
theorem E4 (t:Nat) (args:Array Operand) (sZ:Array Nat) (d:Option Nat):bZ Tryz.prog call ops ⟨d,.call ⟨.value (.tmp t),args,sZ⟩,T,pos,eN,none⟩ st =
 QC (st.env t) (fun g oR=>cD (aN call g (args.toList.map st.ev++oR) st d) fun e=>some (e.apply st)) (bZ Tryz.prog call ops ⟨d,.call ⟨.value (.tmp t),args,sZ⟩,T,pos,eN,none⟩ st):=by
 unfold QC;split
 ·rename_i g oR h;exact U7 t args sZ h
 ·rfl
end
end Tryz
end Go.Ab
end
namespace Go.Ab
open Classical
theorem aDc (b:Bool):unA .not (.v (.bool b))=some (.v (.bool (!b))):=rfl
theorem aDd (k:IntKind) (n:Int):unA .neg (.v (.int k n))=some (.v (.int k (k.wrap (0-n)))):=rfl
theorem aDe (k:IntKind) (n:Int):unA .xor (.v (.int k n))=some (.v (.int k (k.wrap (BitVec.ofInt k.bits (if k.signed then -1 else k.max) ^^^ BitVec.ofInt k.bits n).toNat))):=rfl
def aAo (a b:Option IntKind) (n:Int):Option AV :=
 match a,b with
 | some k,some _=>some (.v (.int k (k.wrap n)))
 | _,_=>none
theorem VW (k k':IntKind) (n:Int):aAo (some k) (some k') n=some (.v (.int k (k.wrap n))):=rfl
theorem E5 (P:Program) (s d:Nat) (k:IntKind) (n:Int):NR P s d (.v (.int k n))=aAo (intKind P d) (intKind P s) n:=by
 simp only[NR,aAo];cases intKind P d with
 | none=>rfl
 | some a=>cases intKind P s<;>rfl
theorem aDf (s g o k:Nat):uR (.ptr s g o) k=some (.ptr s g (o+k)):=rfl
theorem aHz (cs:List AV) (o k:Nat):uR (.ip cs o) k=if o+k≤cs.length then some (.ip cs (o+k)) else none:=rfl
def uK (P:Program) (T:Nat) (e:Option nD) (o:Nat):Option AV :=
 match e with
 | some (.cells cs)=>fD P T cs o
 | some (.row _ _ _ cs)=>fD P T cs o
 | _=>none
theorem QE (P:Program) (T o:Nat) (cs:List AV):uK P T (some (.cells cs)) o=fD P T cs o:=rfl
theorem E6 (P:Program) (T o e sz n:Nat) (cs:List AV):uK P T (some (.row e sz n cs)) o=fD P T cs o:=rfl
theorem aDg (P:Program) (st:St) (T o:Nat) (cs:List AV):Fe P st T (.ip cs o)=fD P T cs o:=rfl
theorem aAp (P:Program) (st:St) (T s g o:Nat):Fe P st T (.ptr s g o)=uK P T (st.heap s g) o:=by
 simp only[Fe,uK];cases st.heap s g with
 | none=>rfl
 | some e=>cases e<;>rfl
theorem aHA (x:Value):(AV.v x).jL=x.oneCell':=rfl
theorem aAq (cs:List AV):(AV.agg cs).jL=true:=rfl
theorem aDh (n:Nat) (cs:List AV):(AV.sl n cs).jL=true:=rfl
theorem aDi (n:Nat) (cs:List AV):(AV.cl n cs).jL=true:=rfl
theorem aDj (n:Nat) (cs:List AV):(AV.ip cs n).jL=true:=rfl
theorem aAr (s g o:Nat):(AV.ptr s g o).jL=true:=rfl
theorem aAs (s g:Nat):(AV.own s g).jL=true:=rfl
theorem aDk (s g:Nat):(AV.mp s g).jL=true:=rfl
theorem aAt (f:Nat) (cs:List AV):(AV.Ev f cs).jL=true:=rfl
theorem aMI (x:Value):(AV.v x).cells=[.v x]:=rfl
theorem aDl (cs:List AV):(AV.agg cs).cells=cs:=rfl
theorem aHB (n:Nat) (cs:List AV):(AV.sl n cs).cells=[.sl n cs]:=rfl
theorem aHC (n:Nat) (cs:List AV):(AV.cl n cs).cells=[.cl n cs]:=rfl
theorem aHD (n:Nat) (cs:List AV):(AV.ip cs n).cells=[.ip cs n]:=rfl
theorem aDm (s g o:Nat):(AV.ptr s g o).cells=[.ptr s g o]:=rfl
theorem aDn (s g:Nat):(AV.own s g).cells=[.own s g]:=rfl
theorem aHE (s g:Nat):(AV.mp s g).cells=[.mp s g]:=rfl
theorem aDo (f:Nat) (cs:List AV):(AV.Ev f cs).cells=[.Ev f cs]:=rfl
theorem aDp (k:IntKind) (n:Int):(Value.int k n).oneCell'=true:=rfl
theorem aAu (b:Bool):(Value.bool b).oneCell'=true:=rfl
theorem E7 (a:Option Addr) (n m:Nat):(Value.slice a n m).oneCell'=true:=rfl
theorem VX (id:Nat):Ex.normal.inBlock id=.normal:=rfl
theorem aDq (id:Nat):Ex.ret.inBlock id=.ret:=rfl
theorem aAv (id i:Nat):(Ex.exit i).inBlock id=if i=id then .normal else .exit i:=rfl
theorem aDr (l:List Oper) (j:Nat):YA l.toArray j=(l[j]?).bind (·.dst):=by simp[YA]
theorem gei (a b:Int):(a≥b)=(b≤a):=rfl
theorem gti (a b:Int):(a > b)=(b<a):=rfl
theorem aTt (a b:Nat):(a≥b)=(b≤a):=rfl
theorem gtn (a b:Nat):(a > b)=(b<a):=rfl
end Go.Ab
section
namespace Go.Ab
open Classical
def cU8 (x:Int):List AV:=[.v (.int .u8 x)]
theorem aDs (x:Int):(cU8 x).length=1:=rfl
theorem aAw (s:Int):∀x∈cU8 s,Flat x:=by intro x hx;simp[cU8] at hx;subst hx;exact .v _
def jX (l:List Int):List AV:=l.flatMap cU8
theorem vD (l:List Int):∀x∈jX l,Flat x:=by
 intro x hx;obtain⟨y,_,hy⟩:=List.mem_flatMap.1 hx
 exact aAw y x hy
section
variable {α:Type} {c:α→List AV} {sz:Nat}
theorem iH (hc:∀x,(c x).length=sz) (l:List α):(l.flatMap c).length=l.length * sz:=by
 induction l with
 | nil=>simp
 | cons x l ih=>simp only[List.flatMap_cons,List.length_append,hc,List.length_cons,ih];rw[Nat.succ_mul];omega
theorem xH (hc:∀x,(c x).length=sz):∀(l:List α) (k:Nat),(l.flatMap c).take (k * sz)=(l.take k).flatMap c
 | [],k=>by simp
 | x :: l,0=>by simp
 | x :: l,k+1=>by
   simp only[List.flatMap_cons,List.take_succ_cons];rw[List.take_append,List.take_of_length_le (by rw[hc,Nat.succ_mul];omega),hc,show (k+1) * sz-sz=k * sz by rw[Nat.succ_mul];omega,xH hc l k]
theorem xI (hc:∀x,(c x).length=sz):∀(l:List α) (k:Nat),(l.flatMap c).drop (k * sz)=(l.drop k).flatMap c
 | [],k=>by simp
 | x :: l,0=>by simp
 | x :: l,k+1=>by
   simp only[List.flatMap_cons,List.drop_succ_cons];rw[List.drop_append,List.drop_of_length_le (by rw[hc,Nat.succ_mul];omega),List.nil_append,hc,show (k+1) * sz-sz=k * sz by rw[Nat.succ_mul];omega,xI hc l k]
theorem Ke (hc:∀x,(c x).length=sz) {z:α} {l:List α} {i:Int} (h0:0≤i) (h1:i<l.length):((l.flatMap c).drop (i.toNat * sz)).take sz=c (gx z l i):=by
 obtain⟨h,e⟩:=VE (z:=z) h0 h1
 rw[xI hc,e];have h2:=xH hc (l.drop i.toNat) 1
 rw[Nat.one_mul] at h2;rw[h2];have h3:(l.drop i.toNat).take 1=[l[i.toNat]]:=by rw[List.take_one];simp[List.head?_drop,h]
 rw[h3];simp
theorem JE (hc:∀x,(c x).length=sz) (l:List α) (k:Nat) (x:α) (h:k<l.length):dJ (l.flatMap c) (k * sz) (c x) (k * sz+sz)=(l.set k x).flatMap c:=by
 unfold dJ;rw[xH hc,show k * sz+sz=(k+1) * sz by rw[Nat.succ_mul],xI hc,List.set_eq_take_append_cons_drop,if_pos h]
 simp
theorem QF [Ext] {P:Program} {T e n k off:Nat} (hc:∀x,(c x).length=sz) {z:α} {l:List α} {i:Int} (h0:0≤i) (h1:i<l.length) (hk:sU P T=some k) (tP:0<k) (ho:off+k≤sz) :
 uK P T (some (.row e sz n (l.flatMap c))) (i.toNat * sz+off)=fD P T (c (gx z l i)) off:=by
 obtain⟨hn,_⟩:=VE (z:=z) h0 h1
 have hat:=Ke hc (z:=z) h0 h1
 have hle:i.toNat * sz+sz≤(l.flatMap c).length:=by
  rw[iH hc,← Nat.succ_mul];exact Nat.mul_le_mul_right _ hn
 have Bg:=hc (gx z l i)
 simp only[uK,fD];unfold sU at hk;cases hi:fK P T with
 | none=>rfl
 | some r =>
   obtain⟨b,k'⟩:=r
   rw[hi] at hk;simp only[Option.map_some,Option.some.injEq] at hk;subst hk;have hg:∀j,j<sz→(l.flatMap c)[i.toNat * sz+j]? = (c (gx z l i))[j]?:=fun j hj=>by
    rw[← hat,List.getElem?_take,if_pos hj,List.getElem?_drop]
   cases b with
   | true =>
     simp only
     have e1:rd (l.flatMap c) (i.toNat * sz+off) k'=rd (c (gx z l i)) off k':=by
      unfold rd;rw[← hat,List.drop_take,List.drop_drop,List.take_take,Nat.min_eq_left (by omega)]
     rw[e1];have l1:k'≤(l.flatMap c).length-(i.toNat * sz+off):=by omega
     have l2:k'≤(c (gx z l i)).length-off:=by omega
     rw[if_pos ⟨tP,l1⟩,if_pos ⟨tP,l2⟩]
   | false =>
     simp only
     exact hg off (by omega)
end
theorem aAx (ns:List Node):mI ⟨.sl ns.length (cC ns)⟩=cP ⟨ns⟩:=rfl
theorem Zm (s:aP) (l:List Node):dJ (aB s) 115 (cP ⟨l⟩) 116=aB { s with tree:=⟨.sl l.length (cC l)⟩}:=Bv s ⟨.sl l.length (cC l)⟩
theorem Zn (s:State) (l:List Node):dJ (aI s) 115 (cP ⟨l⟩) 116=aI { s with store:={ s.store with tree:=⟨.sl l.length (cC l)⟩} }:=xD s ⟨.sl l.length (cC l)⟩
namespace Tryz
open Go.Proofs
theorem E9 (st:St) (t:fR):fO st (.agg (bY t))=some (.agg (bY t)):=dX (.agg _ (dA t))
theorem JF (st:St) (t:Request):fO st (.agg (bK t))=some (.agg (bK t)):=dX (.agg _ (eI t))
theorem QG (st:St) (s:aP) (h:Flat (.agg (aB s))):fO st (.agg (aB s))=some (.agg (aB s)):=dX h
theorem QH (st:St) (s:State) (h:Flat (.agg (aI s))):fO st (.agg (aI s))=some (.agg (aI s)):=dX h
theorem ES {T n k off:Nat} {l:List fR} {i:Int} (h0:0≤i) (h1:i<l.length) (hk:sU Tryz.prog T=some k) (tP:0<k) (ho:off+k≤33):uK Tryz.prog T (some (.row 41 33 n (yR l))) (i.toNat * 33+off)=fD Tryz.prog T (bY (gx iM l i)) off:=QF bQ h0 h1 hk tP ho
theorem XA {T n k:Nat} {l:List fR} {i:Int} (h0:0≤i) (h1:i<l.length) (hk:sU Tryz.prog T=some k) (tP:0<k) (ho:k≤33):uK Tryz.prog T (some (.row 41 33 n (yR l))) (i.toNat * 33)=fD Tryz.prog T (bY (gx iM l i)) 0:=by
 have h:=ES (n:=n) (off:=0) h0 h1 hk tP (by omega)
 rw[Nat.add_zero] at h;exact h
theorem Mx (l:List fR) (i:Int) (x:fR) (h:i.toNat<l.length):dJ (yR l) (i.toNat * 33) (bY x) (i.toNat * 33+33)=yR (l.set i.toNat x):=by
 generalize i.toNat=k at h ⊢
 have:=JE (c:=bY) (sz:=33) bQ l k x h
 exact this
theorem QI (st:St) (o:Option (List kF)):aR st (ov cK o)=some ((ol o).length,cK (ol o)):=by cases o<;>rfl
theorem qJ (o:Option (List kF)):Flat (ov cK o):=by
 cases o with
 | none=>exact .v _
 | some l=>exact .sl _ _ (mX l)
theorem aAy (st:St) {l:List kF} {kk:IntKind} {i:Int} (h0:0≤i) (h1:i<l.length):bD Tryz.prog st 37 (.sl l.length (cK l)) (.v (.int kk i))=some (.ip (jK (gx rU l i)) 0):=by
 have hl:i.toNat<l.length:=by omega
 have h2:i.toNat * 34+34≤(l.flatMap jK).length:=by rw[iH rG,← Nat.succ_mul];exact Nat.mul_le_mul_right _ hl
 have h3:((cK l).drop (i.toNat * 34)).take 34=jK (gx rU l i):=Ke rG h0 h1
 have h4:(cK l).length=(l.flatMap jK).length:=rfl
 (simp only[bD,aHr,C8,h0,h1,h4,h2,and_self,if_true,h3])<;>rfl
theorem aHF (st:St) {o:Option (List kF)} {kk:IntKind} {i:Int} (h0:0≤i) (h1:i<(ol o).length):bD Tryz.prog st 37 (ov cK o) (.v (.int kk i))=some (.ip (jK (gx rU (ol o) i)) 0):=by
 cases o with
 | none=>simp[ol] at h1;omega
 | some l=>exact aAy st h0 h1
theorem KX (l:List kF) (h:(l.length:Int)<1000000):xL 100 34 48 (some (l.length,cK l))=some (none,.row 100 34 l.length (cK l)):=by
 unfold xL;simp only
 rw[if_pos ⟨iH rG l,by omega,by simp only[maxLen];omega⟩]
theorem Uf (n:Nat) (l:List kF):jC (some (.row 100 34 n (cK l)))=some (.sl n (cK l)):=by
 unfold jC;simp only;rw[if_pos (mX l)]
theorem YL {T n k off:Nat} {l:List kF} {i:Int} (h0:0≤i) (h1:i<l.length) (hk:sU Tryz.prog T=some k) (tP:0<k) (ho:off+k≤34):uK Tryz.prog T (some (.row 100 34 n (cK l))) (i.toNat * 34+off)=fD Tryz.prog T (jK (gx rU l i)) off:=QF rG h0 h1 hk tP ho
theorem XB {T n k:Nat} {l:List kF} {i:Int} (h0:0≤i) (h1:i<l.length) (hk:sU Tryz.prog T=some k) (tP:0<k) (ho:k≤34):uK Tryz.prog T (some (.row 100 34 n (cK l))) (i.toNat * 34)=fD Tryz.prog T (jK (gx rU l i)) 0:=by
 have h:=YL (n:=n) (off:=0) h0 h1 hk tP (by omega)
 rw[Nat.add_zero] at h;exact h
theorem EY (l:List kF) (i:Int) (x:kF) (h:i.toNat<l.length):dJ (cK l) (i.toNat * 34) (jK x) (i.toNat * 34+34)=cK (l.set i.toNat x):=by
 generalize i.toNat=k at h ⊢
 have:=JE (c:=jK) (sz:=34) rG l k x h
 exact this
theorem VY (st:St) (o:Option (List rQ)):aR st (ov dE o)=some ((ol o).length,dE (ol o)):=by cases o<;>rfl
theorem Vq (o:Option (List rQ)) (h:∀y∈ol o,Flat y.eU):Flat (ov dE o):=by
 cases o with
 | none=>exact .v _
 | some l=>exact .sl _ _ (sK l h)
theorem aAz (st:St) {l:List rQ} {kk:IntKind} {i:Int} (h0:0≤i) (h1:i<l.length):bD Tryz.prog st 44 (.sl l.length (dE l)) (.v (.int kk i))=some (.ip (gV (gx Jb l i)) 0):=by
 have hl:i.toNat<l.length:=by omega
 have h2:i.toNat * 67+67≤(l.flatMap gV).length:=by rw[iH iB,← Nat.succ_mul];exact Nat.mul_le_mul_right _ hl
 have h3:((dE l).drop (i.toNat * 67)).take 67=gV (gx Jb l i):=Ke iB h0 h1
 have h4:(dE l).length=(l.flatMap gV).length:=rfl
 (simp only[bD,aMb,Z5,h0,h1,h4,h2,and_self,if_true,h3])<;>rfl
theorem aHG (st:St) {o:Option (List rQ)} {kk:IntKind} {i:Int} (h0:0≤i) (h1:i<(ol o).length):bD Tryz.prog st 44 (ov dE o) (.v (.int kk i))=some (.ip (gV (gx Jb (ol o) i)) 0):=by
 cases o with
 | none=>simp[ol] at h1;omega
 | some l=>exact aAz st h0 h1
theorem FO (x:rQ):xL 87 67 104 (some (1,gV x))=some (none,.row 87 67 [x].length (dE [x])):=by
 simp[xL,maxLen,dE]
theorem XE (l:List rQ) (h:(l.length:Int)<1000000):xL 87 67 104 (some (l.length,dE l))=some (none,.row 87 67 l.length (dE l)):=by
 unfold xL;simp only
 rw[if_pos ⟨iH iB l,by omega,by simp only[maxLen];omega⟩]
theorem Uh (l:List rQ) (x:rQ) (s g:Nat) (h:(l.length:Int)<1000000):wZ 87 67 104 (some (.row 87 67 l.length (dE l))) s g (some (1,gV x))=some (some (s,g),.row 87 67 (l++[x]).length (dE (l++[x]))):=by
 simp only[wZ];rw[if_pos ⟨by simp,trivial,trivial,by omega,by simp only[maxLen];omega⟩]
 simp[dE,List.flatMap_append]
theorem M1 (n:Nat) (l:List rQ) (h:∀y∈l,Flat y.eU):jC (some (.row 87 67 n (dE l)))=some (.sl n (dE l)):=by
 unfold jC;simp only;rw[if_pos (sK l h)]
theorem JG (st:St) (o:Option (List Table)):aR st (ov aT o)=some ((ol o).length,aT (ol o)):=by cases o<;>rfl
theorem lQ (o:Option (List Table)) (h:∀y∈ol o,Flat y.jI):Flat (ov aT o):=by
 cases o with
 | none=>exact .v _
 | some l=>exact .sl _ _ (lR l h)
theorem mZ (st:St) (o:Option (List Table)) (h:∀y∈ol o,Flat y.jI):fO st (ov aT o)=some (ov aT o):=dX (lQ o h)
theorem JH (o:Option (List Table)):(ov aT o).jL=true:=by cases o<;>rfl
theorem QJ (o:Option (List Table)):(ov aT o).cells=[ov aT o]:=by cases o<;>rfl
theorem aAA (st:St) {l:List Table} {kk:IntKind} {i:Int} (h0:0≤i) (h1:i<l.length):bD Tryz.prog st 51 (.sl l.length (aT l)) (.v (.int kk i))=some (.ip (cA (gx iT l i)) 0):=by
 have hl:i.toNat<l.length:=by omega
 have h2:i.toNat * 34+34≤(l.flatMap cA).length:=by rw[iH fQ,← Nat.succ_mul];exact Nat.mul_le_mul_right _ hl
 have h3:((aT l).drop (i.toNat * 34)).take 34=cA (gx iT l i):=Ke fQ h0 h1
 have h4:(aT l).length=(l.flatMap cA).length:=rfl
 (simp only[bD,aMc,JB,h0,h1,h4,h2,and_self,if_true,h3])<;>rfl
theorem aHH (st:St) {o:Option (List Table)} {kk:IntKind} {i:Int} (h0:0≤i) (h1:i<(ol o).length):bD Tryz.prog st 51 (ov aT o) (.v (.int kk i))=some (.ip (cA (gx iT (ol o) i)) 0):=by
 cases o with
 | none=>simp[ol] at h1;omega
 | some l=>exact aAA st h0 h1
theorem DO (x:Table):xL 118 34 64 (some (1,cA x))=some (none,.row 118 34 [x].length (aT [x])):=by
 simp[xL,maxLen,aT]
theorem DB (l:List Table) (h:(l.length:Int)<1000000):xL 118 34 64 (some (l.length,aT l))=some (none,.row 118 34 l.length (aT l)):=by
 unfold xL;simp only
 rw[if_pos ⟨iH fQ l,by omega,by simp only[maxLen];omega⟩]
theorem Px (l:List Table) (x:Table) (s g:Nat) (h:(l.length:Int)<1000000):wZ 118 34 64 (some (.row 118 34 l.length (aT l))) s g (some (1,cA x))=some (some (s,g),.row 118 34 (l++[x]).length (aT (l++[x]))):=by
 simp only[wZ];rw[if_pos ⟨by simp,trivial,trivial,by omega,by simp only[maxLen];omega⟩]
 simp[aT,List.flatMap_append]
theorem DC (l m:List Table) (s g:Nat) (h:(l.length:Int)<1000000) (h2:(m.length:Int)<1000000):wZ 118 34 64 (some (.row 118 34 l.length (aT l))) s g (some (m.length,aT m))=some (some (s,g),.row 118 34 (l++m).length (aT (l++m))):=by
 simp only[wZ];rw[if_pos ⟨iH fQ m,trivial,trivial,by omega,by simp only[maxLen];omega⟩]
 simp[aT,List.flatMap_append]
theorem Mz (n:Nat) (l:List Table) (h:∀y∈l,Flat y.jI):jC (some (.row 118 34 n (aT l)))=some (.sl n (aT l)):=by
 unfold jC;simp only;rw[if_pos (lR l h)]
theorem aMJ (st:St) (o:Option (List Table)) (hi:Operand):cW Tryz.prog st 51 (ov aT o) none (some hi)=Kk (st.ev hi) (fun j=>if 0≤j∧j≤(ol o).length then some (ov aT (o.map (·.take j.toNat))) else cW Tryz.prog st 51 (ov aT o) none (some hi)) (cW Tryz.prog st 51 (ov aT o) none (some hi)):=by
 unfold Kk;split
 ·rename_i j hj;dsimp only
  split
  ·rename_i hc;obtain⟨j0,j1⟩:=hc
   cases o with
   | none =>
     have:j=0:=by simp[ol] at j1;omega
     subst this;simp[cW,JB,ov,hj]
   | some l =>
     have j1:j≤l.length:=j1
     have hn:j.toNat≤l.length:=by omega
     simp only[cW,JB,ov,hj];rw[if_pos ⟨Int.le_refl _,j0,j1,iH fQ l⟩];simp only[Int.toNat_zero,Nat.zero_mul,List.drop_zero,Int.sub_zero,Option.map_some];rw[show (aT l).take (j.toNat * 34)=aT (l.take j.toNat) from xH fQ l j.toNat,List.length_take,Nat.min_eq_left hn]
  ·rfl
 ·rfl
theorem aDt (st:St) (o:Option (List Table)) (lo:Operand):cW Tryz.prog st 51 (ov aT o) (some lo) none=Kk (st.ev lo) (fun j=>if 0≤j∧j≤(ol o).length then some (ov aT (o.map (·.drop j.toNat))) else cW Tryz.prog st 51 (ov aT o) (some lo) none) (cW Tryz.prog st 51 (ov aT o) (some lo) none):=by
 unfold Kk;split
 ·rename_i j hj;dsimp only
  split
  ·rename_i hc;obtain⟨j0,j1⟩:=hc
   cases o with
   | none =>
     have:j=0:=by simp[ol] at j1;omega
     subst this;simp[cW,JB,ov,hj]
   | some l =>
     have j1:j≤l.length:=j1
     have hn:j.toNat≤l.length:=by omega
     have e1:((l.length:Int)-j).toNat=l.length-j.toNat:=by omega
     simp only[cW,JB,ov,hj];rw[if_pos ⟨j0,j1,Int.le_refl _,iH fQ l⟩];simp only[Option.map_some,e1];rw[show (aT l).drop (j.toNat * 34)=aT (l.drop j.toNat) from xI fQ l j.toNat,List.length_drop,List.take_of_length_le];rw[show aT (l.drop j.toNat)=(l.drop j.toNat).flatMap cA from rfl,iH fQ,List.length_drop];exact Nat.le_refl _
  ·rfl
 ·rfl
theorem JI (st:St) (o:Option (List Block)):aR st (ov aJ o)=some ((ol o).length,aJ (ol o)):=by cases o<;>rfl
theorem Dx (o:Option (List Block)):Flat (ov aJ o):=by
 cases o with
 | none=>exact .v _
 | some l=>exact .sl _ _ (oX l)
theorem aAB (st:St) {l:List Block} {kk:IntKind} {i:Int} (h0:0≤i) (h1:i<l.length):bD Tryz.prog st 45 (.sl l.length (aJ l)) (.v (.int kk i))=some (.ip (aU (gx fB l i)) 0):=by
 have hl:i.toNat<l.length:=by omega
 have h2:i.toNat * 238+238≤(l.flatMap aU).length:=by rw[iH bM,← Nat.succ_mul];exact Nat.mul_le_mul_right _ hl
 have h3:((aJ l).drop (i.toNat * 238)).take 238=aU (gx fB l i):=Ke bM h0 h1
 have h4:(aJ l).length=(l.flatMap aU).length:=rfl
 (simp only[bD,aHs,oK,h0,h1,h4,h2,and_self,if_true,h3])<;>rfl
theorem aHI (st:St) {o:Option (List Block)} {kk:IntKind} {i:Int} (h0:0≤i) (h1:i<(ol o).length):bD Tryz.prog st 45 (ov aJ o) (.v (.int kk i))=some (.ip (aU (gx fB (ol o) i)) 0):=by
 cases o with
 | none=>simp[ol] at h1;omega
 | some l=>exact aAB st h0 h1
theorem F0 (x:Block):xL 74 238 336 (some (1,aU x))=some (none,.row 74 238 [x].length (aJ [x])):=by
 simp[xL,maxLen,aJ]
theorem iP (l:List Block) (h:(l.length:Int)<1000000):xL 74 238 336 (some (l.length,aJ l))=some (none,.row 74 238 l.length (aJ l)):=by
 unfold xL;simp only
 rw[if_pos ⟨iH bM l,by omega,by simp only[maxLen];omega⟩]
theorem DM (l:List Block) (x:Block) (s g:Nat) (h:(l.length:Int)<1000000):wZ 74 238 336 (some (.row 74 238 l.length (aJ l))) s g (some (1,aU x))=some (some (s,g),.row 74 238 (l++[x]).length (aJ (l++[x]))):=by
 simp only[wZ];rw[if_pos ⟨by simp,trivial,trivial,by omega,by simp only[maxLen];omega⟩]
 simp[aJ,List.flatMap_append]
theorem rD (l m:List Block) (s g:Nat) (h:(l.length:Int)<1000000) (h2:(m.length:Int)<1000000):wZ 74 238 336 (some (.row 74 238 l.length (aJ l))) s g (some (m.length,aJ m))=some (some (s,g),.row 74 238 (l++m).length (aJ (l++m))):=by
 simp only[wZ];rw[if_pos ⟨iH bM m,trivial,trivial,by omega,by simp only[maxLen];omega⟩]
 simp[aJ,List.flatMap_append]
theorem tU (n:Nat) (l:List Block):jC (some (.row 74 238 n (aJ l)))=some (.sl n (aJ l)):=by
 unfold jC;simp only;rw[if_pos (oX l)]
theorem QK {T n k off:Nat} {l:List Block} {i:Int} (h0:0≤i) (h1:i<l.length) (hk:sU Tryz.prog T=some k) (tP:0<k) (ho:off+k≤238):uK Tryz.prog T (some (.row 74 238 n (aJ l))) (i.toNat * 238+off)=fD Tryz.prog T (aU (gx fB l i)) off:=QF bM h0 h1 hk tP ho
theorem yY {T n k:Nat} {l:List Block} {i:Int} (h0:0≤i) (h1:i<l.length) (hk:sU Tryz.prog T=some k) (tP:0<k) (ho:k≤238):uK Tryz.prog T (some (.row 74 238 n (aJ l))) (i.toNat * 238)=fD Tryz.prog T (aU (gx fB l i)) 0:=by
 have h:=QK (n:=n) (off:=0) h0 h1 hk tP (by omega)
 rw[Nat.add_zero] at h;exact h
theorem aMK (st:St) (o:Option (List Block)) (hi:Operand):cW Tryz.prog st 45 (ov aJ o) none (some hi)=Kk (st.ev hi) (fun j=>if 0≤j∧j≤(ol o).length then some (ov aJ (o.map (·.take j.toNat))) else cW Tryz.prog st 45 (ov aJ o) none (some hi)) (cW Tryz.prog st 45 (ov aJ o) none (some hi)):=by
 unfold Kk;split
 ·rename_i j hj;dsimp only
  split
  ·rename_i hc;obtain⟨j0,j1⟩:=hc
   cases o with
   | none =>
     have:j=0:=by simp[ol] at j1;omega
     subst this;simp[cW,oK,ov,hj]
   | some l =>
     have j1:j≤l.length:=j1
     have hn:j.toNat≤l.length:=by omega
     simp only[cW,oK,ov,hj];rw[if_pos ⟨Int.le_refl _,j0,j1,iH bM l⟩];simp only[Int.toNat_zero,Nat.zero_mul,List.drop_zero,Int.sub_zero,Option.map_some];rw[show (aJ l).take (j.toNat * 238)=aJ (l.take j.toNat) from xH bM l j.toNat,List.length_take,Nat.min_eq_left hn]
  ·rfl
 ·rfl
theorem aDu (st:St) (o:Option (List Block)) (lo:Operand):cW Tryz.prog st 45 (ov aJ o) (some lo) none=Kk (st.ev lo) (fun j=>if 0≤j∧j≤(ol o).length then some (ov aJ (o.map (·.drop j.toNat))) else cW Tryz.prog st 45 (ov aJ o) (some lo) none) (cW Tryz.prog st 45 (ov aJ o) (some lo) none):=by
 unfold Kk;split
 ·rename_i j hj;dsimp only
  split
  ·rename_i hc;obtain⟨j0,j1⟩:=hc
   cases o with
   | none =>
     have:j=0:=by simp[ol] at j1;omega
     subst this;simp[cW,oK,ov,hj]
   | some l =>
     have j1:j≤l.length:=j1
     have hn:j.toNat≤l.length:=by omega
     have e1:((l.length:Int)-j).toNat=l.length-j.toNat:=by omega
     simp only[cW,oK,ov,hj];rw[if_pos ⟨j0,j1,Int.le_refl _,iH bM l⟩];simp only[Option.map_some,e1];rw[show (aJ l).drop (j.toNat * 238)=aJ (l.drop j.toNat) from xI bM l j.toNat,List.length_drop,List.take_of_length_le];rw[show aJ (l.drop j.toNat)=(l.drop j.toNat).flatMap aU from rfl,iH bM,List.length_drop];exact Nat.le_refl _
  ·rfl
 ·rfl
theorem Zo (st:St) (o:Option (List Request)):aR st (ov aA o)=some ((ol o).length,aA (ol o)):=by cases o<;>rfl
theorem dF (o:Option (List Request)):Flat (ov aA o):=by
 cases o with
 | none=>exact .v _
 | some l=>exact .sl _ _ (jQ l)
theorem Zp (st:St) (o:Option (List Request)):fO st (ov aA o)=some (ov aA o):=dX (dF o)
theorem aAC (st:St) {l:List Request} {kk:IntKind} {i:Int} (h0:0≤i) (h1:i<l.length):bD Tryz.prog st 54 (.sl l.length (aA l)) (.v (.int kk i))=some (.ip (bK (gx bW l i)) 0):=by
 have hl:i.toNat<l.length:=by omega
 have h2:i.toNat * 35+35≤(l.flatMap bK).length:=by rw[iH fY,← Nat.succ_mul];exact Nat.mul_le_mul_right _ hl
 have h3:((aA l).drop (i.toNat * 35)).take 35=bK (gx bW l i):=Ke fY h0 h1
 have h4:(aA l).length=(l.flatMap bK).length:=rfl
 (simp only[bD,aHu,Bq,h0,h1,h4,h2,and_self,if_true,h3])<;>rfl
theorem aHJ (st:St) {o:Option (List Request)} {kk:IntKind} {i:Int} (h0:0≤i) (h1:i<(ol o).length):bD Tryz.prog st 54 (ov aA o) (.v (.int kk i))=some (.ip (bK (gx bW (ol o) i)) 0):=by
 cases o with
 | none=>simp[ol] at h1;omega
 | some l=>exact aAC st h0 h1
theorem QL (x:Request):xL 63 35 56 (some (1,bK x))=some (none,.row 63 35 [x].length (aA [x])):=by
 simp[xL,maxLen,aA]
theorem qN (l:List Request) (h:(l.length:Int)<1000000):xL 63 35 56 (some (l.length,aA l))=some (none,.row 63 35 l.length (aA l)):=by
 unfold xL;simp only
 rw[if_pos ⟨iH fY l,by omega,by simp only[maxLen];omega⟩]
theorem sX (l:List Request) (x:Request) (s g:Nat) (h:(l.length:Int)<1000000):wZ 63 35 56 (some (.row 63 35 l.length (aA l))) s g (some (1,bK x))=some (some (s,g),.row 63 35 (l++[x]).length (aA (l++[x]))):=by
 simp only[wZ];rw[if_pos ⟨by simp,trivial,trivial,by omega,by simp only[maxLen];omega⟩]
 simp[aA,List.flatMap_append]
theorem Sd (l m:List Request) (s g:Nat) (h:(l.length:Int)<1000000) (h2:(m.length:Int)<1000000):wZ 63 35 56 (some (.row 63 35 l.length (aA l))) s g (some (m.length,aA m))=some (some (s,g),.row 63 35 (l++m).length (aA (l++m))):=by
 simp only[wZ];rw[if_pos ⟨iH fY m,trivial,trivial,by omega,by simp only[maxLen];omega⟩]
 simp[aA,List.flatMap_append]
theorem pB (n:Nat) (l:List Request):jC (some (.row 63 35 n (aA l)))=some (.sl n (aA l)):=by
 unfold jC;simp only;rw[if_pos (jQ l)]
theorem Ee {T n k off:Nat} {l:List Request} {i:Int} (h0:0≤i) (h1:i<l.length) (hk:sU Tryz.prog T=some k) (tP:0<k) (ho:off+k≤35):uK Tryz.prog T (some (.row 63 35 n (aA l))) (i.toNat * 35+off)=fD Tryz.prog T (bK (gx bW l i)) off:=QF fY h0 h1 hk tP ho
theorem zA {T n k:Nat} {l:List Request} {i:Int} (h0:0≤i) (h1:i<l.length) (hk:sU Tryz.prog T=some k) (tP:0<k) (ho:k≤35):uK Tryz.prog T (some (.row 63 35 n (aA l))) (i.toNat * 35)=fD Tryz.prog T (bK (gx bW l i)) 0:=by
 have h:=Ee (n:=n) (off:=0) h0 h1 hk tP (by omega)
 rw[Nat.add_zero] at h;exact h
theorem Ky (l:List Request) (i:Int) (x:Request) (h:i.toNat<l.length):dJ (aA l) (i.toNat * 35) (bK x) (i.toNat * 35+35)=aA (l.set i.toNat x):=by
 generalize i.toNat=k at h ⊢
 have:=JE (c:=bK) (sz:=35) fY l k x h
 exact this
theorem aML (st:St) (o:Option (List Request)) (hi:Operand):cW Tryz.prog st 54 (ov aA o) none (some hi)=Kk (st.ev hi) (fun j=>if 0≤j∧j≤(ol o).length then some (ov aA (o.map (·.take j.toNat))) else cW Tryz.prog st 54 (ov aA o) none (some hi)) (cW Tryz.prog st 54 (ov aA o) none (some hi)):=by
 unfold Kk;split
 ·rename_i j hj;dsimp only
  split
  ·rename_i hc;obtain⟨j0,j1⟩:=hc
   cases o with
   | none =>
     have:j=0:=by simp[ol] at j1;omega
     subst this;simp[cW,Bq,ov,hj]
   | some l =>
     have j1:j≤l.length:=j1
     have hn:j.toNat≤l.length:=by omega
     simp only[cW,Bq,ov,hj];rw[if_pos ⟨Int.le_refl _,j0,j1,iH fY l⟩];simp only[Int.toNat_zero,Nat.zero_mul,List.drop_zero,Int.sub_zero,Option.map_some];rw[show (aA l).take (j.toNat * 35)=aA (l.take j.toNat) from xH fY l j.toNat,List.length_take,Nat.min_eq_left hn]
  ·rfl
 ·rfl
theorem aDv (st:St) (o:Option (List Request)) (lo:Operand):cW Tryz.prog st 54 (ov aA o) (some lo) none=Kk (st.ev lo) (fun j=>if 0≤j∧j≤(ol o).length then some (ov aA (o.map (·.drop j.toNat))) else cW Tryz.prog st 54 (ov aA o) (some lo) none) (cW Tryz.prog st 54 (ov aA o) (some lo) none):=by
 unfold Kk;split
 ·rename_i j hj;dsimp only
  split
  ·rename_i hc;obtain⟨j0,j1⟩:=hc
   cases o with
   | none =>
     have:j=0:=by simp[ol] at j1;omega
     subst this;simp[cW,Bq,ov,hj]
   | some l =>
     have j1:j≤l.length:=j1
     have hn:j.toNat≤l.length:=by omega
     have e1:((l.length:Int)-j).toNat=l.length-j.toNat:=by omega
     simp only[cW,Bq,ov,hj];rw[if_pos ⟨j0,j1,Int.le_refl _,iH fY l⟩];simp only[Option.map_some,e1];rw[show (aA l).drop (j.toNat * 35)=aA (l.drop j.toNat) from xI fY l j.toNat,List.length_drop,List.take_of_length_le];rw[show aA (l.drop j.toNat)=(l.drop j.toNat).flatMap bK from rfl,iH fY,List.length_drop];exact Nat.le_refl _
  ·rfl
 ·rfl
theorem QM (st:St) (o:Option (List cM)):aR st (ov gJ o)=some ((ol o).length,gJ (ol o)):=by cases o<;>rfl
theorem Gt (o:Option (List cM)):Flat (ov gJ o):=by
 cases o with
 | none=>exact .v _
 | some l=>exact .sl _ _ (Sq l)
theorem aAD (st:St) {l:List cM} {kk:IntKind} {i:Int} (h0:0≤i) (h1:i<l.length):bD Tryz.prog st 70 (.sl l.length (gJ l)) (.v (.int kk i))=some (.ip (aZ (gx dK l i)) 0):=by
 have hl:i.toNat<l.length:=by omega
 have h2:i.toNat * 32+32≤(l.flatMap aZ).length:=by rw[iH aO,← Nat.succ_mul];exact Nat.mul_le_mul_right _ hl
 have h3:((gJ l).drop (i.toNat * 32)).take 32=aZ (gx dK l i):=Ke aO h0 h1
 have h4:(gJ l).length=(l.flatMap aZ).length:=rfl
 (simp only[bD,aMd,aC0,h0,h1,h4,h2,and_self,if_true,h3])<;>rfl
theorem aHK (st:St) {o:Option (List cM)} {kk:IntKind} {i:Int} (h0:0≤i) (h1:i<(ol o).length):bD Tryz.prog st 70 (ov gJ o) (.v (.int kk i))=some (.ip (aZ (gx dK (ol o) i)) 0):=by
 cases o with
 | none=>simp[ol] at h1;omega
 | some l=>exact aAD st h0 h1
theorem oE (l:List cM) (x:cM) (s g:Nat) (h:(l.length:Int)<1000000):wZ 27 32 32 (some (.row 27 32 l.length (gJ l))) s g (some (1,aZ x))=some (some (s,g),.row 27 32 (l++[x]).length (gJ (l++[x]))):=by
 simp only[wZ];rw[if_pos ⟨by simp,trivial,trivial,by omega,by simp only[maxLen];omega⟩]
 simp[gJ,List.flatMap_append]
theorem vP (n:Nat) (l:List cM):jC (some (.row 27 32 n (gJ l)))=some (.sl n (gJ l)):=by
 unfold jC;simp only;rw[if_pos (Sq l)]
theorem aDw (st:St) {l:List Bool} {kk:IntKind} {i:Int} (h0:0≤i) (h1:i<l.length):bD Tryz.prog st 262 (.sl l.length (mP l)) (.v (.int kk i))=some (.ip ([.v (.bool (gx false l i))]) 0):=by
 have hl:i.toNat<l.length:=by omega
 have h2:i.toNat * 1+1≤(l.flatMap uL).length:=by rw[iH gQ,← Nat.succ_mul];exact Nat.mul_le_mul_right _ hl
 have h3:((mP l).drop (i.toNat * 1)).take 1=uL (gx false l i):=Ke gQ h0 h1
 have h4:(mP l).length=(l.flatMap uL).length:=rfl
 (simp only[bD,aED,PY,h0,h1,h4,h2,and_self,if_true,h3])<;>rfl
theorem aAE (x:Bool):xL 4 1 1 (some (1,[.v (.bool x)]))=some (none,.row 4 1 [x].length (mP [x])):=by
 simp[xL,maxLen,mP,uL]
theorem LB (l:List Bool) (x:Bool) (s g:Nat) (h:(l.length:Int)<1000000):wZ 4 1 1 (some (.row 4 1 l.length (mP l))) s g (some (1,[.v (.bool x)]))=some (some (s,g),.row 4 1 (l++[x]).length (mP (l++[x]))):=by
 simp only[wZ];rw[if_pos ⟨by simp,trivial,trivial,by omega,by simp only[maxLen];omega⟩]
 simp[mP,List.flatMap_append,uL]
theorem XF (n:Nat) (l:List Bool):jC (some (.row 4 1 n (mP l)))=some (.sl n (mP l)):=by
 unfold jC;simp only;rw[if_pos (Sa l)]
theorem xY (o:Option (List Int)):Flat (ov jX o):=by
 cases o with
 | none=>exact .v _
 | some l=>exact .sl _ _ (vD l)
theorem qZ (st:St) (o:Option (List Int)):fO st (ov jX o)=some (ov jX o):=dX (xY o)
theorem SO (x:Int):xL 5 1 1 (some (1,[.v (.int .u8 x)]))=some (none,.row 5 1 [x].length (jX [x])):=by
 simp[xL,maxLen,jX,cU8]
theorem Ks (l:List Int) (x:Int) (s g:Nat) (h:(l.length:Int)<1000000):wZ 5 1 1 (some (.row 5 1 l.length (jX l))) s g (some (1,[.v (.int .u8 x)]))=some (some (s,g),.row 5 1 (l++[x]).length (jX (l++[x]))):=by
 simp only[wZ];rw[if_pos ⟨by simp,trivial,trivial,by omega,by simp only[maxLen];omega⟩]
 simp[jX,List.flatMap_append,cU8]
theorem SP (l m:List Int) (s g:Nat) (h:(l.length:Int)<1000000) (h2:(m.length:Int)<1000000):wZ 5 1 1 (some (.row 5 1 l.length (jX l))) s g (some (m.length,jX m))=some (some (s,g),.row 5 1 (l++m).length (jX (l++m))):=by
 simp only[wZ];rw[if_pos ⟨iH aDs m,trivial,trivial,by omega,by simp only[maxLen];omega⟩]
 simp[jX,List.flatMap_append]
theorem Cn (n:Nat) (l:List Int):jC (some (.row 5 1 n (jX l)))=some (.sl n (jX l)):=by
 unfold jC;simp only;rw[if_pos (vD l)]
theorem VZ (st:St) (o:Option (List Int)):aR st (ov aK o)=some ((ol o).length,aK (ol o)):=by cases o<;>rfl
theorem bO (o:Option (List Int)):Flat (ov aK o):=by
 cases o with
 | none=>exact .v _
 | some l=>exact .sl _ _ (gD l)
theorem Ed (st:St) (o:Option (List Int)):fO st (ov aK o)=some (ov aK o):=dX (bO o)
theorem WA (o:Option (List Int)):(ov aK o).jL=true:=by cases o<;>rfl
theorem F1 (o:Option (List Int)):(ov aK o).cells=[ov aK o]:=by cases o<;>rfl
theorem aAF (st:St) {l:List Int} {kk:IntKind} {i:Int} (h0:0≤i) (h1:i<l.length):bD Tryz.prog st 22 (.sl l.length (aK l)) (.v (.int kk i))=some (.ip ([.v (.int .i64 (gx (0:Int) l i))]) 0):=by
 have hl:i.toNat<l.length:=by omega
 have h2:i.toNat * 1+1≤(l.flatMap pE).length:=by rw[iH bA,← Nat.succ_mul];exact Nat.mul_le_mul_right _ hl
 have h3:((aK l).drop (i.toNat * 1)).take 1=pE (gx (0:Int) l i):=Ke bA h0 h1
 have h4:(aK l).length=(l.flatMap pE).length:=rfl
 (simp only[bD,aCZ,Kj,h0,h1,h4,h2,and_self,if_true,h3])<;>rfl
theorem aHL (st:St) {o:Option (List Int)} {kk:IntKind} {i:Int} (h0:0≤i) (h1:i<(ol o).length):bD Tryz.prog st 22 (ov aK o) (.v (.int kk i))=some (.ip ([.v (.int .i64 (gx (0:Int) (ol o) i))]) 0):=by
 cases o with
 | none=>simp[ol] at h1;omega
 | some l=>exact aAF st h0 h1
theorem Nc (l:List Int) (h:(l.length:Int)<1000000):xL 3 1 8 (some (l.length,aK l))=some (none,.row 3 1 l.length (aK l)):=by
 unfold xL;simp only
 rw[if_pos ⟨iH bA l,by omega,by simp only[maxLen];omega⟩]
theorem Ec (l:List Int) (x:Int) (s g:Nat) (h:(l.length:Int)<1000000):wZ 3 1 8 (some (.row 3 1 l.length (aK l))) s g (some (1,[.v (.int .i64 x)]))=some (some (s,g),.row 3 1 (l++[x]).length (aK (l++[x]))):=by
 simp only[wZ];rw[if_pos ⟨by simp,trivial,trivial,by omega,by simp only[maxLen];omega⟩]
 simp[aK,List.flatMap_append,pE]
theorem FC (l m:List Int) (s g:Nat) (h:(l.length:Int)<1000000) (h2:(m.length:Int)<1000000):wZ 3 1 8 (some (.row 3 1 l.length (aK l))) s g (some (m.length,aK m))=some (some (s,g),.row 3 1 (l++m).length (aK (l++m))):=by
 simp only[wZ];rw[if_pos ⟨iH bA m,trivial,trivial,by omega,by simp only[maxLen];omega⟩]
 simp[aK,List.flatMap_append]
theorem jS (n:Nat) (l:List Int):jC (some (.row 3 1 n (aK l)))=some (.sl n (aK l)):=by
 unfold jC;simp only;rw[if_pos (gD l)]
theorem aMM (st:St) (o:Option (List Int)) (hi:Operand):cW Tryz.prog st 22 (ov aK o) none (some hi)=Kk (st.ev hi) (fun j=>if 0≤j∧j≤(ol o).length then some (ov aK (o.map (·.take j.toNat))) else cW Tryz.prog st 22 (ov aK o) none (some hi)) (cW Tryz.prog st 22 (ov aK o) none (some hi)):=by
 unfold Kk;split
 ·rename_i j hj;dsimp only
  split
  ·rename_i hc;obtain⟨j0,j1⟩:=hc
   cases o with
   | none =>
     have:j=0:=by simp[ol] at j1;omega
     subst this;simp[cW,Kj,ov,hj]
   | some l =>
     have j1:j≤l.length:=j1
     have hn:j.toNat≤l.length:=by omega
     simp only[cW,Kj,ov,hj];rw[if_pos ⟨Int.le_refl _,j0,j1,iH bA l⟩];simp only[Int.toNat_zero,Nat.zero_mul,List.drop_zero,Int.sub_zero,Option.map_some];rw[show (aK l).take (j.toNat * 1)=aK (l.take j.toNat) from xH bA l j.toNat,List.length_take,Nat.min_eq_left hn]
  ·rfl
 ·rfl
theorem aDx (st:St) (o:Option (List Int)) (lo:Operand):cW Tryz.prog st 22 (ov aK o) (some lo) none=Kk (st.ev lo) (fun j=>if 0≤j∧j≤(ol o).length then some (ov aK (o.map (·.drop j.toNat))) else cW Tryz.prog st 22 (ov aK o) (some lo) none) (cW Tryz.prog st 22 (ov aK o) (some lo) none):=by
 unfold Kk;split
 ·rename_i j hj;dsimp only
  split
  ·rename_i hc;obtain⟨j0,j1⟩:=hc
   cases o with
   | none =>
     have:j=0:=by simp[ol] at j1;omega
     subst this;simp[cW,Kj,ov,hj]
   | some l =>
     have j1:j≤l.length:=j1
     have hn:j.toNat≤l.length:=by omega
     have e1:((l.length:Int)-j).toNat=l.length-j.toNat:=by omega
     simp only[cW,Kj,ov,hj];rw[if_pos ⟨j0,j1,Int.le_refl _,iH bA l⟩];simp only[Option.map_some,e1];rw[show (aK l).drop (j.toNat * 1)=aK (l.drop j.toNat) from xI bA l j.toNat,List.length_drop,List.take_of_length_le];rw[show aK (l.drop j.toNat)=(l.drop j.toNat).flatMap pE from rfl,iH bA,List.length_drop];exact Nat.le_refl _
  ·rfl
 ·rfl
theorem WB (st:St) (o:Option (List Int)):aR st (ov bC o)=some ((ol o).length,bC (ol o)):=by cases o<;>rfl
theorem dR (o:Option (List Int)):Flat (ov bC o):=by
 cases o with
 | none=>exact .v _
 | some l=>exact .sl _ _ (hU l)
theorem WC (o:Option (List Int)):(ov bC o).jL=true:=by cases o<;>rfl
theorem F2 (o:Option (List Int)):(ov bC o).cells=[ov bC o]:=by cases o<;>rfl
theorem aAG (st:St) {l:List Int} {kk:IntKind} {i:Int} (h0:0≤i) (h1:i<l.length):bD Tryz.prog st 34 (.sl l.length (bC l)) (.v (.int kk i))=some (.ip ([.v (.int .u64 (gx (0:Int) l i))]) 0):=by
 have hl:i.toNat<l.length:=by omega
 have h2:i.toNat * 1+1≤(l.flatMap rC).length:=by rw[iH aW,← Nat.succ_mul];exact Nat.mul_le_mul_right _ hl
 have h3:((bC l).drop (i.toNat * 1)).take 1=rC (gx (0:Int) l i):=Ke aW h0 h1
 have h4:(bC l).length=(l.flatMap rC).length:=rfl
 (simp only[bD,aHq,VS,h0,h1,h4,h2,and_self,if_true,h3])<;>rfl
theorem aHM (st:St) {o:Option (List Int)} {kk:IntKind} {i:Int} (h0:0≤i) (h1:i<(ol o).length):bD Tryz.prog st 34 (ov bC o) (.v (.int kk i))=some (.ip ([.v (.int .u64 (gx (0:Int) (ol o) i))]) 0):=by
 cases o with
 | none=>simp[ol] at h1;omega
 | some l=>exact aAG st h0 h1
theorem aDy (x:Int):xL 23 1 8 (some (1,[.v (.int .u64 x)]))=some (none,.row 23 1 [x].length (bC [x])):=by
 simp[xL,maxLen,bC,rC]
theorem Eb (l:List Int) (h:(l.length:Int)<1000000):xL 23 1 8 (some (l.length,bC l))=some (none,.row 23 1 l.length (bC l)):=by
 unfold xL;simp only
 rw[if_pos ⟨iH aW l,by omega,by simp only[maxLen];omega⟩]
theorem xJ (l:List Int) (x:Int) (s g:Nat) (h:(l.length:Int)<1000000):wZ 23 1 8 (some (.row 23 1 l.length (bC l))) s g (some (1,[.v (.int .u64 x)]))=some (some (s,g),.row 23 1 (l++[x]).length (bC (l++[x]))):=by
 simp only[wZ];rw[if_pos ⟨by simp,trivial,trivial,by omega,by simp only[maxLen];omega⟩]
 simp[bC,List.flatMap_append,rC]
theorem uZ (n:Nat) (l:List Int):jC (some (.row 23 1 n (bC l)))=some (.sl n (bC l)):=by
 unfold jC;simp only;rw[if_pos (hU l)]
theorem aAH {T n k off:Nat} {l:List Int} {i:Int} (h0:0≤i) (h1:i<l.length) (hk:sU Tryz.prog T=some k) (tP:0<k) (ho:off+k≤1):uK Tryz.prog T (some (.row 23 1 n (bC l))) (i.toNat * 1+off)=fD Tryz.prog T ([.v (.int .u64 (gx (0:Int) l i))]) off:=QF aW h0 h1 hk tP ho
theorem J5 {T n k:Nat} {l:List Int} {i:Int} (h0:0≤i) (h1:i<l.length) (hk:sU Tryz.prog T=some k) (tP:0<k) (ho:k≤1):uK Tryz.prog T (some (.row 23 1 n (bC l))) (i.toNat * 1)=fD Tryz.prog T ([.v (.int .u64 (gx (0:Int) l i))]) 0:=by
 have h:=aAH (n:=n) (off:=0) h0 h1 hk tP (by omega)
 rw[Nat.add_zero] at h;exact h
theorem J4 (l:List Int) (i:Int) (x:Int) (h:i.toNat<l.length):dJ (bC l) (i.toNat * 1) ([.v (.int .u64 x)]) (i.toNat * 1+1)=bC (l.set i.toNat x):=by
 generalize i.toNat=k at h ⊢
 have:=JE (c:=rC) (sz:=1) aW l k x h
 exact this
end Tryz
end Go.Ab
end
section
namespace Go.Ab.Tryz
open Classical Go.Proofs Go.Ab
theorem aj {a b:Prop} (x:a) (y:b):a∧b:=⟨x,y⟩
def EN:=aj (aj (aj (aj (aj (aj (aj @cU (aj @LD @mR)) (aj @T9 (aj @z8 @UF))) (aj (aj @B5 (aj @decide_true @decide_false)) (aj (aj @Int.cast_ofNat_Int @Bool.not_true) (aj @Bool.not_false @Bool.false_eq_true)))) (aj (aj (aj @Bool.true_eq_false (aj @aCd @aCe)) (aj @aCf (aj @aCg @aCh))) (aj (aj @aCi (aj @aCj @aCk)) (aj (aj @aCl @aCm) (aj @aCp @aCq))))) (aj (aj (aj (aj @aCn (aj @aCo @not_false_eq_true)) (aj @ne_eq.{1} (aj @W6 @B4))) (aj (aj @UP (aj @UQ @Option.bind_some.{0,0})) (aj (aj @aB3 @z9) (aj @aB4 @U0)))) (aj (aj (aj @aB5 (aj @UG @HE)) (aj @HF (aj @aB6 @UI))) (aj (aj @U2 (aj @U3 @U4)) (aj (aj @aFV @U5) (aj @Z7 @Bool.or_false)))))) (aj (aj (aj (aj (aj @Bool.false_or (aj @Bool.false_and @Bool.or_true)) (aj @aB8 (aj @aC3 @A0))) (aj (aj @A1 (aj @UK @HG)) (aj (aj @NS @vA) (aj @QD @E0)))) (aj (aj (aj @E1 (aj @aC8 @aAj)) (aj @oZ (aj @D2 @D3))) (aj (aj @VU (aj @QA @Option.map_some.{0,0})) (aj (aj @Pw @Ih) (aj @Qb @Ku))))) (aj (aj (aj (aj @aAb (aj @aAc @aC4)) (aj @gR (aj @bR @aAm))) (aj (aj @aAn (aj @CD @E4)) (aj (aj @aC7 @D4) (aj @D5 @aCt)))) (aj (aj (aj @W8 (aj @aCu @aCr)) (aj (aj @D6 @D7) (aj @D8 @D9))) (aj (aj @aAi (aj @E2 @aC9)) (aj (aj @aC5 @aC6) (aj @aAd @aAe))))))) (aj (aj (aj (aj (aj (aj @aAf (aj @aAg @aAh)) (aj @A5 (aj @HJ @aC1))) (aj (aj @Z6 (aj @aMF @aDI)) (aj (aj @V0 @aFX) (aj @aB9 @HI)))) (aj (aj (aj @aCa (aj @V1 @aCb)) (aj @aCc (aj @V5
 @V6))) (aj (aj @V7 (aj @A2 @V8)) (aj (aj @V9 @A3) (aj @W0 @NT))))) (aj (aj (aj (aj @A4 (aj @List.toList_toArray.{0} @List.map_cons.{0,0})) (aj @List.map_nil.{0,0} (aj @aB2 @UE))) (aj (aj @z7 (aj @T5 @T6)) (aj (aj @aB1 @HK) (aj @B6 @UR)))) (aj (aj (aj @List.getElem?_cons_zero.{0} (aj @List.getElem?_cons_succ.{0} @List.getElem?_nil.{0})) (aj @Option.getD_some.{0} (aj @Option.getD_none.{0} @and_true))) (aj (aj @true_and (aj @and_self @false_and)) (aj (aj @and_false @if_true.{1}) (aj @if_false.{1} @Nat.succ_ne_zero)))))) (aj (aj (aj (aj (aj @JC (aj @JD @Nat.add_zero)) (aj @Nat.zero_add (aj @VV @U1))) (aj (aj @aF6 (aj @aF7 @X7)) (aj (aj @X8 @D1) (aj @UZ @Z9)))) (aj (aj (aj @aDc (aj @aDd @aDe)) (aj @VW (aj @E5 @aDf))) (aj (aj @aHz (aj @QE @E6)) (aj (aj @aDg @aAp) (aj @aHA @aAq))))) (aj (aj (aj (aj @aDh (aj @aDi @aDj)) (aj @aAr (aj @aAs @aDk))) (aj (aj @aAt (aj @aMI @aDl)) (aj (aj @aHB @aHC) (aj @aHD @aDm)))) (aj (aj (aj @aDn (aj @aHE @aDo)) (aj (aj @aDp @aAu) (aj @E7 @VX))) (aj (aj @aDq (aj @aAv @aDr)) (aj (aj @gei @gti) (aj @aTt @gtn)))))))
def EV:=aj EN @B0
def LE:=aj (aj (aj (aj (aj (aj @aHx @aHy) (aj @aAk (aj @aAl @Kn))) (aj (aj @Iq @Qg) (aj @aHv (aj @aHw @aC2)))) (aj (aj (aj @aW @bA) (aj @gQ (aj @aO @dU))) (aj (aj @bQ @cI) (aj @bM (aj @uT @Qy))))) (aj (aj (aj (aj @Nat.sub_zero @Nat.le_refl) (aj @KT (aj @DA @Option.map_some.{0,0}))) (aj (aj @List.all_cons.{0} @List.all_nil.{0}) (aj @Bool.and_true (aj @Bool.true_and @Bool.and_self)))) (aj (aj (aj @A7 @List.length_cons.{0}) (aj @List.length_nil.{0} (aj @jG @jH))) (aj (aj @Ok (aj @Al @Qu)) (aj @HP (aj @Nat.zero_le @Nat.mul_one)))))) (aj (aj (aj (aj (aj @Vv @Aq) (aj @gK (aj @lX @fZ))) (aj (aj @bL @rG) (aj @iB (aj @iK @fL)))) (aj (aj (aj @fQ @fY) (aj @lY (aj @dB @cV))) (aj (aj @iC (aj @mM @cF)) (aj @Lv (aj @Zi @VR))))) (aj (aj (aj (aj @kZ @Iv) (aj @Lo (aj @Re @Rh))) (aj (aj @YI @VH) (aj @Yn (aj @Hn @Yp)))) (aj (aj (aj @Yr @Lu) (aj @Yz (aj @Hq @EF))) (aj (aj @PT (aj @Ze @PU)) (aj @Z4 (aj @Uk @aCE))))))
def RD:=aj (aj (aj (aj (aj (aj (aj (aj @NY @NZ) (aj @OA @OB)) (aj (aj @jU @Bt) (aj @uA (aj @Eo @OC)))) (aj (aj (aj @OD @Od) (aj @Oe (aj @xB @zI))) (aj (aj @Of @Og) (aj @xC (aj @AZ @BA))))) (aj (aj (aj (aj @Fg @Ti) (aj @zJ @Lk)) (aj (aj @rM @Bu) (aj @zK (aj @Ll @rO)))) (aj (aj (aj @Hi @BB) (aj @Jw (aj @BC @Tj))) (aj (aj @Tk @Cy) (aj @Qv (aj @BD @BE)))))) (aj (aj (aj (aj (aj @Ye @Yf) (aj @Jx @BF)) (aj (aj @Hj @Oi) (aj @HM (aj @Jd @Oj)))) (aj (aj (aj @Qw @Tl) (aj @HN (aj @HO @BG))) (aj (aj @BH @Hk) (aj @Cz (aj @vJ @Da))))) (aj (aj (aj (aj @vK @Je) (aj @Lm (aj @Ft @Ln))) (aj (aj @Ol @OF) (aj @UT (aj @Ez @Gi)))) (aj (aj (aj @OG @OH) (aj @Yj (aj @OI @OJ))) (aj (aj @zL @Jy) (aj @Oo (aj @Er @Fu))))))) (aj (aj (aj (aj (aj (aj @Ra @Tm) (aj @Oq @Ot)) (aj (aj @Yk @Yl) (aj @Db (aj @Tn @Dc)))) (aj (aj (aj @To
 @Ay) (aj @Rb (aj @Az @Rc))) (aj (aj @Ba @Rd) (aj @zM (aj @Ou @BK))))) (aj (aj (aj (aj @BL @wG) (aj @wH @uM)) (aj (aj @uN @uO) (aj @uC (aj @Hl @BM)))) (aj (aj (aj @Ow @Rf) (aj @Jz (aj @BN @Bb))) (aj (aj @Ox @yJ) (aj @Ka (aj @BO @BP)))))) (aj (aj (aj (aj (aj @HY @PH) (aj @Ym @BR)) (aj (aj @HZ @IA) (aj @PI (aj @PJ @IB)))) (aj (aj (aj @PK @PL) (aj @PM (aj @BS @BT))) (aj (aj @Hm @Jf) (aj @Lp (aj @Lq @Dw))))) (aj (aj (aj (aj @PN @VJ) (aj @VK (aj @vL @Fh))) (aj (aj @vM @Fi) (aj @BU (aj @Kb @tT)))) (aj (aj (aj @BV @Oz) (aj @Pa (aj @zW @zX))) (aj (aj @oB @Lr) (aj @Ls (aj @zN @zY)))))))) (aj (aj (aj (aj (aj (aj (aj @zO @zZ) (aj @Dd @nI)) (aj (aj @Tp @Tq) (aj @PO (aj @PQ @Lt)))) (aj (aj (aj @Rk @Bh) (aj @ID (aj @IE @IF))) (aj (aj @Pb @Pc) (aj @Es (aj @Rl @Rm))))) (aj (aj (aj (aj @Pd
 @Rn) (aj @Tr @Yq)) (aj (aj @Ys @Yt) (aj @Ts (aj @Tt @Yu)))) (aj (aj (aj @Yw @Yx) (aj @uV (aj @Fj @wO))) (aj (aj @Hp @IJ) (aj @IK (aj @Df @Dg)))))) (aj (aj (aj (aj (aj @tD @uP) (aj @Fk @Fl)) (aj (aj @uD @wI) (aj @uW (aj @Fm @sG)))) (aj (aj (aj @Bc @wP) (aj @Hr (aj @Tu @Tv))) (aj (aj @zP @zQ) (aj @xQ (aj @xR @pY))))) (aj (aj (aj (aj @pK @Hs) (aj @Jg (aj @tE @qF))) (aj (aj @Jh @Zb) (aj @Zc (aj @oV @Fv)))) (aj (aj (aj @pQ @Ht) (aj @Pe (aj @Pf @Et))) (aj (aj @Eu @wJ) (aj @pZ (aj @uQ @Fw))))))) (aj (aj (aj (aj (aj (aj @wV @qS) (aj @oW @Fx)) (aj (aj @nH @Di) (aj @Kc (aj @Bv @qG)))) (aj (aj (aj @Ji @Kd) (aj @Pg (aj @Hu @Hv))) (aj (aj @uX @Tw) (aj @IL (aj @IM @Zf))))) (aj (aj (aj (aj @Zg @tH) (aj
 @sP @wK)) (aj (aj @qH @pF) (aj @pW (aj @tI @xS)))) (aj (aj (aj @uF @pG) (aj @oA (aj @Jj @xD))) (aj (aj @qI @Jk) (aj @Lw (aj @Hw @Hx)))))) (aj (aj (aj (aj (aj @tS @yM) (aj @Ph @Ai)) (aj (aj @Rp @Pj) (aj @Rq (aj @Zh @BZ)))) (aj (aj (aj @CA @CB) (aj @Lx (aj @Pk @Rr))) (aj (aj @Tx @IP) (aj @IQ (aj @IS @PV))))) (aj (aj (aj (aj @IT @IU) (aj @VN (aj @VO @Ci))) (aj (aj @IV @IW) (aj @rS (aj @rI @IX)))) (aj (aj (aj @IY @Aj) (aj @Zj (aj @Zk @CC))) (aj (aj @IZ @JA) (aj @PW (aj @VP @VQ))))))))
def FA:=aj (aj (aj (aj (aj (aj (aj (aj @ld3 @ik3) (aj @lk3 (aj @ze3 @aQX))) (aj (aj @aQY @RY) (aj @aGd (aj @aQZ @aQ0)))) (aj (aj (aj @aQ1 @ld5) (aj @ik5 (aj @lk5 @ze5))) (aj (aj @ik2 (aj @lk2 @ze2)) (aj @aQ2 (aj @aQ3 @aQ4))))) (aj (aj (aj (aj @ld4 @lk4) (aj @ze4 (aj @be4 @aQ5))) (aj (aj @aJp (aj @aLL @aGe)) (aj @aQ6 (aj @aQ7 @aEY)))) (aj (aj (aj @aQ8 @aQ9) (aj @aRa (aj @aRb @aLM))) (aj (aj @aRc (aj @aI8 @aRd)) (aj @aRe (aj @aRf @aGf)))))) (aj (aj (aj (aj (aj @aGg @aJo) (aj @aGh (aj @aRg @aRh))) (aj (aj @aRi (aj @aRj @aRk)) (aj @aGi (aj @aGj @aRl)))) (aj (aj (aj @aRm @aRn) (aj @SX (aj @aGk @aGl))) (aj (aj @aGm (aj @aGn @aGo)) (aj @aGp (aj @aGq @aGr))))) (aj (aj (aj (aj @aGs @aGt) (aj @aGu (aj @aGv @aRo))) (aj (aj @aRp (aj @aRq @aRr)) (aj @aRs (aj @aGw @aGx)))) (aj (aj (aj @aGy @aGz) (aj @aLN (aj @aRt @aRu))) (aj (aj @aRv (aj @aRw @aGA)) (aj @aRx (aj @aRy @aRz))))))) (aj (aj (aj (aj (aj (aj @aRA @aGB) (aj @aRB (aj @aRC @aRD))) (aj (aj @aRE @aGC) (aj @aGD (aj @aGE @aRF)))) (aj (aj (aj @aLO @aRG) (aj @aRH (aj @aRI @aRJ))) (aj (aj @aGF (aj @aGG @aGH)) (aj @aGI (aj @aGJ @aGK))))) (aj (aj (aj (aj @aRK @aLP) (aj @aRL (aj @aRM @aRN))) (aj (aj @aRO (aj @aGL @aGM)) (aj @aGN (aj @aGO @aGP)))) (aj (aj (aj @aGQ @aRP) (aj @aRQ (aj @aLQ @aDR))) (aj (aj @aCG (aj @aCH @aCI)) (aj @aEx (aj @aEy @aLR)))))) (aj (aj (aj (aj (aj @aLS @aRR) (aj @aRS (aj @aGR @aGS))) (aj (aj @aGT (aj @aGU @aLT)) (aj @aRT (aj @aLU @aLV)))) (aj (aj (aj @aCJ @aCK) (aj @aCL (aj @aCM @aLW))) (aj (aj @aLX (aj @aLY @aLZ)) (aj @aCN (aj @aCO @aL0))))) (aj (aj (aj (aj @aL1 @aL2) (aj @aL3 (aj @aCP @aCQ))) (aj (aj @aEz (aj @aL4 @aRU)) (aj @aFs (aj @aGV @aGW)))) (aj (aj (aj @aGX @aGY) (aj @aBF (aj @aGZ @aRV))) (aj (aj @aRW (aj @aRX
 @aRY)) (aj @aRZ (aj @aG0 @aG1)))))))) (aj (aj (aj (aj (aj (aj (aj @aG2 @aL5) (aj @aL6 (aj @aR0 @aR1))) (aj (aj @aR2 @aR3) (aj @aG3 (aj @aG4 @aR4)))) (aj (aj (aj @aR5 @aR6) (aj @aR7 (aj @aG5 @aG6))) (aj (aj @aR8 (aj @aL7 @aR9)) (aj @aSa (aj @aSb @aG7))))) (aj (aj (aj (aj @aG8 @aSc) (aj @aSd (aj @aSe @aG9))) (aj (aj @aHa (aj @aHb @aHc)) (aj @aHd (aj @aHe @aHf)))) (aj (aj (aj @aHg @aSf) (aj @aSg (aj @aSh @aSi))) (aj (aj @aHh (aj @aHi @aHj)) (aj @aHk (aj @aHl @aHm)))))) (aj (aj (aj (aj (aj @aHn @aHo) (aj @aSj (aj @aSk @aL8))) (aj (aj @aL9 (aj @aCR @aCS)) (aj @aCT (aj @aCU @aCV)))) (aj (aj (aj @aCW @aCX) (aj @aCY (aj @aEA @aMa))) (aj (aj @aHp (aj @Kj @aCZ)) (aj @aSl (aj @aSm @aSn))))) (aj (aj (aj (aj @aSo @aSp) (aj @VS (aj @aHq @aSq))) (aj (aj @aSr (aj @aSs @aSt)) (aj @aSu (aj @C8 @aHr)))) (aj (aj (aj @aSv @aSw) (aj @aSx (aj @aSy @aSz))) (aj (aj @Z5 (aj @aMb @aSA)) (aj @aSB (aj @aSC @oK))))))) (aj (aj (aj (aj (aj (aj @aHs @aSD) (aj @aSE (aj @aSF @aSG))) (aj (aj @aSH (aj @PX @aHt)) (aj @aSI (aj @aSJ @aSK)))) (aj (aj (aj @aSL @JB) (aj @aMc (aj @aSM @aSN))) (aj (aj @aSO (aj @Bq @aHu)) (aj @aSP (aj @aSQ @aSR))))) (aj (aj (aj (aj @aSS @aST) (aj @aC0 (aj @aMd @aSU))) (aj (aj @aSV (aj @I6 @aEB)) (aj @aMe (aj @aMf @YJ)))) (aj (aj (aj @aMg @aMh) (aj @aMi (aj @aEC @aMj))) (aj (aj @aMk (aj @aMl @YK)) (aj @aMm (aj @aMn @aMo)))))) (aj (aj (aj (aj (aj @PY @aED) (aj @aMp (aj @aMq @aSW))) (aj (aj @aSX (aj @aSY @aSZ)) (aj @aS0 (aj @aS1 @aS2)))) (aj (aj (aj @aS3 @aS4) (aj @aS5 (aj @aS6 @aS7))) (aj (aj @aS8 (aj @aS9 @aTa)) (aj @aTb (aj @aTc @aTd))))) (aj (aj (aj (aj @aTe @aTf) (aj @aTg (aj @aTh @aTi))) (aj (aj @aTj (aj @aTk @aTl)) (aj @aTm (aj @aTn @aTo)))) (aj (aj (aj @aMr @aMs) (aj @aMt (aj @aMu @aMv)))
 (aj (aj @aMw (aj @aMx @aMy)) (aj @aMz (aj @aMA @aMB))))))))
def ZZ:=aj (aj EV LE) (aj RD FA)
section
variable {f:Nat} {fn:Func} {st:St} {x y z:AV}
theorem bT {t:Nat} (hr:fn.results.toList=[.tmp t]) (hx:st.env t=x) (hf:Flat x:=by exact .v _) (hk:Ext.qB f=false:=by exact aE (by decide)):zU Tryz.prog f fn (.ret,st)=some x:=W4 hk (.inl rfl) hr hx hf
theorem fF {t T:Nat} (hr:fn.results.toList=[.cell t T]) (hy:st.env t=y) (hx:Fe Tryz.prog st T y=some x) (hf:Flat x) (hk:Ext.qB f=false:=by exact aE (by decide)):zU Tryz.prog f fn (.ret,st)=some x:=A8 hk (.inl rfl) hr hy hx hf
theorem sF {t s g e' sz n:Nat} {cs:List AV} (hr:fn.results.toList=[.tmp t]) (hx:st.env t=.own s g) (hh:st.heap s g=some (.row e' sz n cs)) (hf:∀c∈cs,Flat c) (hk:Ext.qB f=false:=by exact aE (by decide)):zU Tryz.prog f fn (.ret,st)=some (.uniq e' sz n cs):=Wf hk (.inl rfl) hr hx hh hf
theorem eK {t T:Nat} {cs:List AV} (hr:fn.results.toList=[.cell t T]) (hz:st.env t=z) (hx:Fe Tryz.prog st T z=some (.agg cs)) (hy:fO st (.agg cs)=some y) (hk:Ext.qB f=false:=by exact aE (by decide)):zU Tryz.prog f fn (.ret,st)=some y:=UM hk (.inl rfl) hr hz hx hy
theorem dO {r1 r2:ResultVar} {x1 x2 y1 y2:AV} (hr:fn.results.toList=[r1,r2]) (h1:bJ Tryz.prog st r1=some x1) (h2:bJ Tryz.prog st r2=some x2) (e1:fO st x1=some y1) (e2:fO st x2=some y2) (hk:Ext.qB f=false:=by exact aE (by decide)):zU Tryz.prog f fn (.ret,st)=some (.eE [y1,y2]):=W5 hk (.inl rfl) hr h1 h2 e1 e2
theorem aJ3 {r1 r2:ResultVar} {x1 x2 y1 y2:AV} (hr:fn.results.toList=[r1,r2]) (h1:bJ Tryz.prog st r1=some x1) (h2:bJ Tryz.prog st r2=some x2) (e0:fO st x1=none) (e1:Mc st x1=some y1) (e2:fO st x2=some y2) (hk:Ext.qB f=false:=by exact aE (by decide)):zU Tryz.prog f fn (.ret,st)=some (.eE [y1,y2]):=A9 hk (.inl rfl) hr h1 h2 e0 e1 e2
theorem cN {r1 r2 r3:ResultVar} {x1 x2 x3 y1 y2 y3:AV} (hr:fn.results.toList=[r1,r2,r3]) (h1:bJ Tryz.prog st r1=some x1) (h2:bJ Tryz.prog st r2=some x2) (h3:bJ Tryz.prog st r3=some x3) (e1:fO st x1=some y1) (e2:fO st x2=some y2) (e3:fO st x3=some y3) (hk:Ext.qB f=false:=by exact aE (by decide)):zU Tryz.prog f fn (.ret,st)=some (.eE [y1,y2,y3]):=UN hk (.inl rfl) hr h1 h2 h3 e1 e2 e3
theorem cL {c:Code} (hf:Tryz.prog.funcs[f]? = some fn) (hb:fn.body=some c) (pM:bH fn=true) {xs:List AV} (hu:xs.any tM=false):aC Tryz.prog f xs=cD (yH Tryz.prog c (St.init xs)) (zU Tryz.prog f fn):=T8 _ hf hb pM xs (rV _ _) hu
theorem cG {c:Code} (hf:Tryz.prog.funcs[f]? = some fn) (hb:fn.body=some c) (pM:tL fn=true) (hc:nN c=true) {xs:List AV} (hu:xs.any tM=false):aC Tryz.prog f xs=cD (wA Tryz.prog true c (St.init xs)) (zU Tryz.prog f fn):=by
 rw[NQ Tryz.prog hf hb pM xs (rV _ _) hu,hc]
end
section
variable {b:Code} {st st':St} {n:Nat} {I:Nat→St→Prop} {Q:Ex→St→Prop}
theorem oN (m:Nat) (h:yH Tryz.prog b st=some (.normal,st')) (hi:I m st') (hm:m<n:=by omega):∃e st',yH Tryz.prog b st=some (e,st')∧((e=.normal∧∃m,m<n∧I m st')∨(e≠.normal∧Q e st')):=oP h m hm hi
theorem oT (e:Ex) (h:yH Tryz.prog b st=some (e,st')) (hq:Q e st') (he:e≠.normal:=by simp):∃e st',yH Tryz.prog b st=some (e,st')∧((e=.normal∧∃m,m<n∧I m st')∨(e≠.normal∧Q e st')):=aFZ h he hq
theorem Ea {bi:Bool} (m:Nat) (h:wA Tryz.prog bi b st=some (.normal,st')) (hi:I m st') (hm:m<n:=by omega):∃e st',wA Tryz.prog bi b st=some (e,st')∧((e=.normal∧∃m,m<n∧I m st')∨(e≠.normal∧Q e st')):=aF3 h m hm hi
theorem JK {bi:Bool} (e:Ex) (h:wA Tryz.prog bi b st=some (e,st')) (hq:Q e st') (he:e≠.normal:=by simp):∃e st',wA Tryz.prog bi b st=some (e,st')∧((e=.normal∧∃m,m<n∧I m st')∨(e≠.normal∧Q e st')):=aCv h he hq
end
end Go.Ab.Tryz
end
namespace Go.Ab.Tryz
open Classical Go.Proofs Go.Ab
def FT:=aj (aj (aj (aj (aj (aj @E9 (aj @JF @aAx)) (aj @Zm (aj @Zn @QG))) (aj (aj @QH (aj @ES @XA)) (aj @Mx (aj @QI @aAy)))) (aj (aj (aj @aHF (aj @KX @Uf)) (aj @YL (aj @XB @EY))) (aj (aj @VY (aj @aAz @aHG)) (aj (aj @FO @XE) (aj @Uh @M1))))) (aj (aj (aj (aj @JG (aj @mZ @JH)) (aj @QJ (aj @aAA @aHH))) (aj (aj @DO (aj @DB @Px)) (aj (aj @DC @Mz) (aj @aMJ @aDt)))) (aj (aj (aj @JI (aj @aAB @aHI)) (aj @F0 (aj @iP @DM))) (aj (aj @rD (aj @tU @QK)) (aj (aj @yY @aMK) (aj @aDu @Zo)))))) (aj (aj (aj (aj (aj @Zp (aj @aAC @aHJ)) (aj @QL (aj @qN @sX))) (aj (aj @Sd (aj @pB @Ee)) (aj @zA (aj @Ky @aML)))) (aj (aj (aj @aDv (aj @QM @aAD)) (aj @aHK (aj @oE @vP))) (aj (aj @aDw (aj @aAE @LB)) (aj (aj @XF @qZ) (aj @SO @Ks))))) (aj (aj (aj (aj @SP (aj @Cn @VZ)) (aj @Ed (aj @WA @F1))) (aj (aj @aAF (aj @aHL @Nc)) (aj (aj @Ec @FC) (aj @jS @aMM)))) (aj (aj (aj @aDx (aj @WB @WC)) (aj @F2 (aj @aAG @aHM))) (aj (aj @aDy (aj @Eb @xJ)) (aj (aj @uZ @aAH) (aj @J5 @J4))))))
def E8:=EV
def L8:=LE
def R8:=RD
def F8:=aj FA FT
def EGn:=aj (aj (aj (aj (aj (aj @List.size_toArray.{0} @iX) (aj @mD @iY)) (aj (aj @kH @mE) (aj @NN @NO))) (aj (aj (aj @XX @FJ) (aj @EA @PC)) (aj (aj @VA @UW) (aj @OL (aj @fG @dH))))) (aj (aj (aj (aj @bX @C1) (aj @UY @C2)) (aj (aj @X0 @X3) (aj @OO (aj @OP @OQ)))) (aj (aj (aj @OR @OS) (aj @OT @OU)) (aj (aj @OV @OW) (aj @OX (aj @OY @OZ)))))) (aj (aj (aj (aj (aj @PA @PB) (aj @aGb @Z1)) (aj (aj @Wl @YF) (aj @aCw (aj @C3 @aCx)))) (aj (aj (aj @X9 @aF8) (aj @Y0 @BI)) (aj (aj @HR @PD) (aj @aCy (aj @Y1 @Y2))))) (aj (aj (aj (aj @aCz @HS) (aj @Y3 @HT)) (aj (aj @VB @VC) (aj @Y4 (aj @VD @aF9)))) (aj (aj (aj @aCA @SY) (aj @aCB @Y5)) (aj (aj @Y6 @Y7) (aj @aGa (aj @C4 @Y8))))))
def ZC:=aj (aj L8 R8) F8
def Z8:=aj EV ZC
def ZG:=aj (aj EGn @B9) Z8
end Go.Ab.Tryz
namespace Go.Ab.Tryz
open Go.Ab
theorem Fs:(((aF 0 2 (some 2)=[])∧((aF 1 13 (some 11)=[])∧(aF 2 17 (some 22)=[])))∧(((aF 3 4 (some 37)=[])∧(aF 4 8 (some 40)=[]))∧((aF 5 10 (some 48)=[])∧(aF 6 9 (some 56)=[(4,7)]))))∧(((aF 7 6 (some 63)=[])∧((aF 8 6 (some 68)=[])∧(aF 9 9 (some 73)=[])))∧(((aF 10 18 (some 82)=[])∧(aF 11 4 (some 99)=[]))∧((aF 12 3 (some 103)=[])∧(aF 13 2 (some 105)=[])))):=⟨⟨⟨rfl,⟨rfl,rfl⟩⟩,⟨⟨rfl,rfl⟩,⟨rfl,rfl⟩⟩⟩,⟨⟨rfl,⟨rfl,rfl⟩⟩,⟨⟨rfl,rfl⟩,⟨rfl,rfl⟩⟩⟩⟩
theorem aFD:((aF 0 5 (some 2)=[])∧((aF 1 5 (some 9)=[])∧(aF 2 2 (some 13)=[])))∧(((aF 3 5 (some 15)=[])∧(aF 4 4 (some 17)=[]))∧((aF 5 8 (some 19)=[])∧(aF 6 9 (some 26)=[(5,6)]))):=⟨⟨rfl,⟨rfl,rfl⟩⟩,⟨⟨rfl,rfl⟩,⟨rfl,rfl⟩⟩⟩
theorem FV:(((aF 0 5 (some 2)=[])∧(aF 1 1 (some 7)=[]))∧((aF 2 5 (some 9)=[])∧(aF 4 11 (some 16)=[])))∧(((aF 5 7 (some 27)=[])∧(aF 6 13 (some 32)=[]))∧((aF 7 5 (some 44)=[(1,2)])∧((aF 3 3 (some 14)=[])∧(aF 8 5 (some 46)=[])))):=⟨⟨⟨rfl,rfl⟩,⟨rfl,rfl⟩⟩,⟨⟨rfl,rfl⟩,⟨rfl,⟨rfl,rfl⟩⟩⟩⟩
theorem MG:((((aF 0 3 (some 2)=[])∧(aF 1 8 (some 9)=[(3,6)]))∧((aF 2 41 (some 13)=[])∧(aF 3 1 (some 4)=[])))∧(((aF 4 38 (some 54)=[])∧(aF 5 1 (some 4)=[]))∧((aF 6 1 (some 7)=[])∧(aF 7 6 (some 131)=[]))))∧((((aF 9 14 (some 139)=[])∧(aF 10 1 (some 4)=[]))∧((aF 8 3 (some 137)=[])∧(aF 11 1 (some 8)=[])))∧(((aF 12 6 (some 153)=[])∧(aF 14 13 (some 161)=[]))∧((aF 15 1 (some 4)=[])∧((aF 13 3 (some 159)=[])∧(aF 16 1 (some 4)=[]))))):=⟨⟨⟨⟨rfl,rfl⟩,⟨rfl,rfl⟩⟩,⟨⟨rfl,rfl⟩,⟨rfl,rfl⟩⟩⟩,⟨⟨⟨rfl,rfl⟩,⟨rfl,rfl⟩⟩,⟨⟨rfl,rfl⟩,⟨rfl,⟨rfl,rfl⟩⟩⟩⟩⟩
theorem rW:(((((aF 0 2 (some 3)=[])∧(aF 1 7 (some 12)=[]))∧((aF 2 4 (some 18)=[])∧(aF 3 14 (some 22)=[])))∧(((aF 4 8 (some 35)=[])∧(aF 5 23 (some 41)=[]))∧((aF 6 9 (some 62)=[])∧((aF 7 5 (some 71)=[])∧(aF 8 4 (some 75)=[])))))∧((((aF 9 9 (some 79)=[])∧(aF 10 7 (some 87)=[]))∧((aF 11 6 (some 93)=[])∧((aF 12 13 (some 97)=[])∧(aF 13 4 (some 110)=[]))))∧(((aF 14 6 (some 114)=[])∧(aF 15 4 (some 119)=[]))∧((aF 16 15 (some 122)=[])∧((aF 17 12 (some 137)=[(7,9)])∧(aF 18 11 (some 147)=[]))))))∧(((((aF 19 5 (some 158)=[])∧(aF 20 8 (some 162)=[(3,5)]))∧((aF 21 3 (some 168)=[])∧((aF 22 2 (some 172)=[])∧(aF 23 6 (some 173)=[]))))∧(((aF 24 2 (some 179)=[])∧(aF 25 5 (some 180)=[]))∧((aF 26 2 (some 185)=[])∧((aF 27 5 (some 186)=[])∧(aF 28 2 (some 191)=[])))))∧((((aF 29 9 (some 192)=[])∧(aF 30 2 (some 201)=[]))∧((aF 31 5 (some 202)=[])∧((aF 32 2 (some 207)=[])∧(aF 33 16 (some 208)=[]))))∧(((aF 34 2 (some 224)=[])∧(aF 35 5 (some 225)=[]))∧((aF 36 2 (some 230)=[])∧((aF 37 3 (some 231)=[])∧(aF 38 2 (some 233)=[])))))):=⟨⟨⟨⟨⟨rfl,rfl⟩,⟨rfl,rfl⟩⟩,⟨⟨rfl,rfl⟩,⟨rfl,⟨rfl,rfl⟩⟩⟩⟩,⟨⟨⟨rfl,rfl⟩,⟨rfl,⟨rfl,rfl⟩⟩⟩,⟨⟨rfl,rfl⟩,⟨rfl,⟨rfl,rfl⟩⟩⟩⟩⟩,⟨⟨⟨⟨rfl,rfl⟩,⟨rfl,⟨rfl,rfl⟩⟩⟩,⟨⟨rfl,rfl⟩,⟨rfl,⟨rfl,rfl⟩⟩⟩⟩,⟨⟨⟨rfl,rfl⟩,⟨rfl,⟨rfl,rfl⟩⟩⟩,⟨⟨rfl,rfl⟩,⟨rfl,⟨rfl,rfl⟩⟩⟩⟩⟩⟩
theorem mY:(((aF 0 6 (some 3)=[])∧(aF 1 10 (some 13)=[(5,8)]))∧((aF 2 5 (some 19)=[])∧((aF 3 2 (some 24)=[])∧(aF 4 5 (some 25)=[]))))∧(((aF 5 2 (some 30)=[])∧(aF 6 12 (some 31)=[]))∧((aF 7 36 (some 41)=[])∧((aF 8 5 (some 114)=[])∧(aF 9 5 (some 116)=[(1,2)])))):=⟨⟨⟨rfl,rfl⟩,⟨rfl,⟨rfl,rfl⟩⟩⟩,⟨⟨rfl,rfl⟩,⟨rfl,⟨rfl,rfl⟩⟩⟩⟩
theorem sI:((((aF 0 4 (some 3)=[])∧(aF 1 13 (some 16)=[]))∧((aF 2 2 (some 23)=[])∧((aF 3 2 (some 25)=[])∧(aF 4 7 (some 26)=[]))))∧(((aF 5 6 (some 32)=[])∧(aF 6 8 (some 37)=[(1,4)]))∧((aF 7 2 (some 43)=[])∧((aF 8 2 (some 45)=[])∧(aF 9 14 (some 47)=[])))))∧((((aF 10 6 (some 59)=[])∧(aF 11 3 (some 65)=[]))∧((aF 12 9 (some 68)=[])∧((aF 13 1 (some 13)=[])∧(aF 14 1 (some 14)=[]))))∧(((aF 15 6 (some 74)=[])∧((aF 17 9 (some 82)=[])∧(aF 18 10 (some 91)=[])))∧((aF 16 3 (some 80)=[])∧((aF 19 4 (some 100)=[])∧(aF 20 2 (some 103)=[]))))):=⟨⟨⟨⟨rfl,rfl⟩,⟨rfl,⟨rfl,rfl⟩⟩⟩,⟨⟨rfl,rfl⟩,⟨rfl,⟨rfl,rfl⟩⟩⟩⟩,⟨⟨⟨rfl,rfl⟩,⟨rfl,⟨rfl,rfl⟩⟩⟩,⟨⟨rfl,⟨rfl,rfl⟩⟩,⟨rfl,⟨rfl,rfl⟩⟩⟩⟩⟩
theorem Jc:(((aF 0 2 (some 1)=[])∧(aF 1 3 (some 5)=[]))∧((aF 2 2 (some 7)=[])∧((aF 3 1 (some 4)=[])∧(aF 4 4 (some 8)=[]))))∧(((aF 6 9 (some 14)=[])∧((aF 7 10 (some 23)=[])∧(aF 8 7 (some 32)=[])))∧((aF 9 13 (some 39)=[])∧((aF 5 3 (some 12)=[])∧(aF 10 2 (some 51)=[])))):=⟨⟨⟨rfl,rfl⟩,⟨rfl,⟨rfl,rfl⟩⟩⟩,⟨⟨rfl,⟨rfl,rfl⟩⟩,⟨rfl,⟨rfl,rfl⟩⟩⟩⟩
theorem Wp:((((aF 0 3 (some 2)=[])∧(aF 1 4 (some 14)=[]))∧((aF 2 10 (some 17)=[])∧(aF 3 1 (some 9)=[])))∧(((aF 4 4 (some 22)=[])∧(aF 5 4 (some 25)=[]))∧((aF 6 1 (some 10)=[])∧(aF 7 1 (some 11)=[]))))∧((((aF 8 3 (some 29)=[])∧(aF 10 5 (some 34)=[]))∧((aF 11 2 (some 38)=[])∧(aF 12 1 (some 12)=[])))∧(((aF 13 7 (some 40)=[])∧(aF 14 5 (some 45)=[]))∧((aF 15 8 (some 50)=[])∧((aF 9 3 (some 32)=[])∧(aF 16 6 (some 56)=[(2,3)]))))):=⟨⟨⟨⟨rfl,rfl⟩,⟨rfl,rfl⟩⟩,⟨⟨rfl,rfl⟩,⟨rfl,rfl⟩⟩⟩,⟨⟨⟨rfl,rfl⟩,⟨rfl,rfl⟩⟩,⟨⟨rfl,rfl⟩,⟨rfl,⟨rfl,rfl⟩⟩⟩⟩⟩
theorem K7:((aF 0 3 (some 1)=[])∧((aF 1 5 (some 5)=[])∧(aF 2 8 (some 8)=[])))∧((aF 3 3 (some 16)=[])∧((aF 4 5 (some 17)=[(0,2)])∧(aF 5 5 (some 20)=[(1,3)]))):=⟨⟨rfl,⟨rfl,rfl⟩⟩,⟨rfl,⟨rfl,rfl⟩⟩⟩
theorem Jp:((((aF 0 2 (some 1)=[])∧(aF 1 8 (some 6)=[]))∧((aF 2 1 (some 2)=[])∧((aF 3 7 (some 15)=[])∧(aF 4 2 (some 19)=[]))))∧(((aF 5 2 (some 21)=[])∧((aF 6 5 (some 22)=[])∧(aF 7 2 (some 25)=[])))∧((aF 8 2 (some 28)=[])∧((aF 9 4 (some 29)=[])∧(aF 10 2 (some 33)=[])))))∧((((aF 11 4 (some 34)=[])∧((aF 12 2 (some 38)=[])∧(aF 13 4 (some 39)=[])))∧((aF 14 2 (some 43)=[])∧((aF 15 4 (some 44)=[])∧(aF 16 2 (some 48)=[]))))∧(((aF 17 4 (some 49)=[])∧((aF 18 2 (some 53)=[])∧(aF 19 8 (some 54)=[(3,5)])))∧((aF 20 4 (some 60)=[])∧((aF 21 1 (some 2)=[])∧(aF 22 1 (some 2)=[]))))):=⟨⟨⟨⟨rfl,rfl⟩,⟨rfl,⟨rfl,rfl⟩⟩⟩,⟨⟨rfl,⟨rfl,rfl⟩⟩,⟨rfl,⟨rfl,rfl⟩⟩⟩⟩,⟨⟨⟨rfl,⟨rfl,rfl⟩⟩,⟨rfl,⟨rfl,rfl⟩⟩⟩,⟨⟨rfl,⟨rfl,rfl⟩⟩,⟨rfl,⟨rfl,rfl⟩⟩⟩⟩⟩
theorem KV:((aF 0 2 (some 3)=[])∧(aF 1 1 (some 5)=[]))∧((aF 2 15 (some 6)=[])∧((aF 3 3 (some 21)=[])∧(aF 4 13 (some 23)=[(7,10)]))):=⟨⟨rfl,rfl⟩,⟨rfl,⟨rfl,rfl⟩⟩⟩
theorem As:((((aF 0 3 (some 1)=[])∧(aF 1 3 (some 9)=[]))∧((aF 2 3 (some 12)=[])∧(aF 3 5 (some 13)=[])))∧(((aF 4 3 (some 17)=[])∧(aF 5 7 (some 19)=[]))∧((aF 6 4 (some 26)=[])∧((aF 7 7 (some 28)=[])∧(aF 8 4 (some 34)=[])))))∧((((aF 9 3 (some 37)=[])∧(aF 10 1 (some 6)=[]))∧((aF 11 4 (some 39)=[])∧((aF 13 8 (some 45)=[])∧(aF 14 12 (some 53)=[]))))∧(((aF 15 11 (some 65)=[])∧(aF 16 2 (some 73)=[]))∧((aF 17 7 (some 75)=[])∧((aF 12 3 (some 43)=[])∧(aF 18 3 (some 81)=[]))))):=⟨⟨⟨⟨rfl,rfl⟩,⟨rfl,rfl⟩⟩,⟨⟨rfl,rfl⟩,⟨rfl,⟨rfl,rfl⟩⟩⟩⟩,⟨⟨⟨rfl,rfl⟩,⟨rfl,⟨rfl,rfl⟩⟩⟩,⟨⟨rfl,rfl⟩,⟨rfl,⟨rfl,rfl⟩⟩⟩⟩⟩
theorem aKz:((aF 0 2 (some 3)=[])∧(aF 1 14 (some 5)=[(3,5),(3,8),(6,8),(3,11),(6,11),(9,11)]))∧((aF 2 8 (some 18)=[(3,5)])∧((aF 3 8 (some 25)=[(3,5)])∧(aF 4 13 (some 32)=[(4,7),(4,10),(8,10)]))):=⟨⟨rfl,rfl⟩,⟨rfl,⟨rfl,rfl⟩⟩⟩
theorem aD6:((aF 0 3 (some 1)=[])∧(aF 1 4 (some 5)=[]))∧((aF 2 2 (some 8)=[])∧((aF 3 3 (some 10)=[])∧(aF 4 14 (some 11)=[(5,7),(5,10),(8,10)]))):=⟨⟨rfl,rfl⟩,⟨rfl,⟨rfl,rfl⟩⟩⟩
theorem LK:(((aF 0 3 (some 1)=[])∧(aF 1 4 (some 6)=[]))∧((aF 2 2 (some 2)=[])∧(aF 3 14 (some 10)=[(7,9),(7,10)])))∧(((aF 4 1 (some 5)=[])∧(aF 5 5 (some 23)=[]))∧((aF 7 8 (some 30)=[])∧((aF 6 3 (some 28)=[])∧(aF 8 3 (some 37)=[])))):=⟨⟨⟨rfl,rfl⟩,⟨rfl,rfl⟩⟩,⟨⟨rfl,rfl⟩,⟨rfl,⟨rfl,rfl⟩⟩⟩⟩
theorem L6:((aF 0 3 (some 1)=[])∧(aF 1 8 (some 4)=[]))∧((aF 2 2 (some 2)=[])∧(aF 3 13 (some 12)=[(7,9)])):=⟨⟨rfl,rfl⟩,⟨rfl,rfl⟩⟩
theorem aKj:(aF 0 2 (some 3)=[])∧(aF 1 8 (some 5)=[(3,5)]):=⟨rfl,rfl⟩
theorem aD5:(aF 0 2 (some 3)=[])∧(aF 1 14 (some 5)=[(3,5),(3,8),(6,8),(3,11),(6,11),(9,11)]):=⟨rfl,rfl⟩
theorem Wb:((aF 0 1 (some 4)=[])∧((aF 1 1 (some 5)=[])∧(aF 2 12 (some 6)=[])))∧(((aF 3 3 (some 18)=[])∧(aF 4 12 (some 20)=[]))∧((aF 5 2 (some 32)=[])∧(aF 6 12 (some 33)=[(6,9)]))):=⟨⟨rfl,⟨rfl,rfl⟩⟩,⟨⟨rfl,rfl⟩,⟨rfl,rfl⟩⟩⟩
end Go.Ab.Tryz
namespace Go.Ab.Tryz
open Classical Go.Proofs Go.Ab
theorem Ix (x:Int) (h1:-9223372036854775808≤x) (h2:x≤9223372036854775807):IntKind.i64.wrap x=x:=wrap_i64 x h1 h2
theorem c87 (ns:List Node) (i:Int):aC Tryz.prog 87 [.agg (cP ⟨ns⟩),.v (.int .i64 i)]=some (.v (.bool (decide (0≤i) && decide (i<ns.length)))):=by
 rw[cL Tryz.func87 rfl aTr rfl];by_cases h:0≤i
 all_goals
  simp only[ZZ,seval,h,decide_true,decide_false,Bool.false_eq_true,Bool.true_and,Bool.false_and];exact bT rfl (by simp only[EV,seval]) (.v _)
theorem QO (ns:List Node) (i:Int) (st:St) (d:Option Nat):aN (aC Tryz.prog) 87 [.agg (cP ⟨ns⟩),.v (.int .i64 i)] st d=some { dst:=d,val:=.v (.bool (decide (0≤i) && decide (i<ns.length)))}:=bI (bE (nJ _) (.v _)) (c87 ns i) (.v _)
def RF (n:Int):Bool:=decide (0≤n) && decide (n≤2)
theorem aNm (i:Int):aC Tryz.prog 186 [.v (.int .i64 i)]=some (.v (.bool (RF i))):=by
 rw[cL Tryz.func186 rfl aME rfl];by_cases h:0≤i
 all_goals
  simp only[ZZ,seval,h,decide_true,decide_false,Bool.false_eq_true,Bool.true_and,Bool.false_and];exact bT rfl (by simp only[EV,seval,RF,h,decide_true,decide_false,Bool.false_and,Bool.true_and]) (.v _)
noncomputable def aM (ns:List Node) (r:cM):Int:=match ns.findIdx? (fun n=>decide (n.block.root=r)) with
 | some k=>(k:Int)
 | none=>-1
theorem aAI {ns:List Node} {r:cM} {i:Int} (h0:0≤i) (h1:i<ns.length) (hr:(nd ns i).block.root=r) (hb:∀j,0≤j→j<i→(nd ns j).block.root≠r):aM ns r=i:=by
 obtain⟨hi,e⟩:=Km h0 h1
 have:ns.findIdx? (fun n=>decide (n.block.root=r))=some i.toNat:=by
  rw[List.findIdx?_eq_some_iff_getElem];refine⟨hi,by simp[← e,hr],fun j hj=>?_⟩
  have h:=hb j (by omega) (by omega)
  have hj':j<ns.length:=by omega
  simp[nd,hj'] at h
  simpa using h
 unfold aM;rw[this];simp;omega
theorem WD {ns:List Node} {r:cM} (hb:∀j,0≤j→j<(ns.length:Int)→(nd ns j).block.root≠r):aM ns r=-1:=by
 have:ns.findIdx? (fun n=>decide (n.block.root=r))=none:=by
  rw[List.findIdx?_eq_none_iff];intro n hn;obtain⟨j,hj,rfl⟩:=List.getElem_of_mem hn
  have h:=hb j (by omega) (by omega)
  simp[nd,hj] at h
  simpa using h
 unfold aM;rw[this]
theorem c46 (ns:List Node) (r:cM) (hn:(ns.length:Int)<1000000):aC Tryz.prog 46 [.agg (cP ⟨ns⟩),.agg (aZ r)]=some (.v (.int .i64 (aM ns r))):=by
 rw[cL Tryz.func46 rfl aTp rfl];simp only[ZZ,seval];refine mH (fun n st=>∃i:Int,st.env 2=.ptr 2 0 0∧st.env 3=.ptr 3 0 0∧st.heap 2 0=some (.cells (cP ⟨ns⟩))∧st.heap 3 0=some (.cells (aZ r))∧st.env 5=.v (.int .i64 i)∧0≤i∧i≤ns.length∧n=(ns.length-i).toNat ∧
  ∀j,0≤j→j<i→(nd ns j).block.root≠r)
  (fun e st=>(e=.ret∧st.env 4=.v (.int .i64 (aM ns r)))∨(e=.exit 0∧aM ns r=-1)) ns.length ?step ?start ?rest
 case step =>
  rintro n st ⟨i,h2,h3,tG,RH,h5,i0,i1,Iw,hb⟩
  by_cases bB:i<ns.length
  ·have hw:IntKind.i64.wrap (i+1)=i+1:=Ix _ (by omega) (by omega)
   by_cases hr:(nd ns i).block.root=r
   ·apply oT (.ret)
    ·simp only[ZZ,seval,h2,h3,tG,RH,h5,bB,i0,hr];rfl
    ·exact .inl ⟨rfl,by simp only[EV,seval,aAI i0 bB hr hb]⟩
   ·apply oN ((ns.length-(i+1)).toNat)
    ·simp only[ZZ,seval,h2,h3,tG,RH,h5,bB,i0,hr,hw];rfl
    ·exact⟨i+1,by simp only[EV,seval,h2],by simp only[EV,seval,h3],by simp only[EV,seval,tG],by simp only[EV,seval,RH],(by simp only[EV,seval]),by omega,by omega,rfl,fun j j0 j1=>by
     rcases Int.lt_or_eq_of_le (show j≤i by omega) with h|rfl
     ·exact hb j j0 h
     ·exact hr⟩
  ·apply oT (.exit 0)
   ·simp only[ZZ,seval,h2,h3,tG,RH,h5,bB,i0];rfl
   ·exact .inr ⟨rfl,WD fun j j0 j1=>hb j j0 (by omega)⟩
 case start=>exact⟨0,(by simp only[EV,seval]),(by simp only[EV,seval]),(by simp only[EV,seval]),(by simp only[EV,seval]),(by simp only[EV,seval]),by omega,by omega,by omega,fun j _ _=>by omega⟩
 case rest =>
  rintro e st (⟨rfl,h⟩|⟨rfl,h⟩)
  ·simp only[ZZ,seval];exact bT rfl h (.v _)
  ·simp only[ZZ,seval];exact bT rfl (by simp only[EV,seval,h]) (.v _)
theorem q49 (args:List AV) (st:St) (d:Option Nat):aN (aC Tryz.prog) 49 args st d=tQ (aC Tryz.prog) 49 (cE (args.map (fO st))) (decide (∀x∈args,Flat x)) st d:=mU _ _ _ _ _
theorem c49 (l:List Int) (a:Int) (hn:(l.length:Int)<1000000):aC Tryz.prog 49 [.sl l.length (aK l),.v (.int .i64 a)]=some (.v (.bool (decide (a∈l)))):=by
 rw[cL Tryz.func49 rfl aMC rfl];simp only[ZZ,seval];refine mH (fun n st=>∃i:Int,st.env 0=.sl l.length (aK l)∧st.env 1=.v (.int .i64 a)∧st.env 5=.v (.int .i64 i)∧0≤i∧i≤l.length∧n=(l.length-i).toNat∧∀j,0≤j→j<i→it l j≠a)
  (fun e st=>(e=.ret∧st.env 4=.v (.bool (decide (a∈l))))∨(e=.exit 0∧decide (a∈l)=false)) l.length ?step ?start ?rest
 case step =>
  rintro n st ⟨i,h0,h1,h5,i0,i1,Iw,hb⟩
  by_cases bB:i<l.length
  ·have hw:IntKind.i64.wrap (i+1)=i+1:=Ix _ (by omega) (by omega)
   obtain⟨hi,he⟩:=wN i0 bB
   by_cases hr:it l i=a
   ·have hm:decide (a∈l)=true:=by rw[decide_eq_true_eq,← hr,he];exact List.getElem_mem hi
    have hbq:(it l i == a)=true:=by simp[hr]
    apply oT (.ret)
    ·simp only[ZZ,seval,h0,h1,h5,bB,i0,hbq];rfl
    ·exact .inl ⟨rfl,by simp only[EV,seval,hm]⟩
   ·have hbq:(it l i == a)=false:=by simp[hr]
    apply oN ((l.length-(i+1)).toNat)
    ·simp only[ZZ,seval,h0,h1,h5,bB,i0,hbq,hw];rfl
    ·exact⟨i+1,by simp only[EV,seval,h0],by simp only[EV,seval,h1],(by simp only[EV,seval]),by omega,by omega,rfl,fun j j0 j1=>by
     rcases Int.lt_or_eq_of_le (show j≤i by omega) with h|rfl
     ·exact hb j j0 h
     ·exact hr⟩
  ·apply oT (.exit 0)
   ·simp only[ZZ,seval,h0,h1,h5,bB,i0];rfl
   ·exact .inr ⟨rfl,by
    rw[decide_eq_false_iff_not];intro hm;obtain⟨j,hj,rfl⟩:=List.getElem_of_mem hm
    exact hb j (by omega) (by omega) (by simp[it,hj])⟩
 case start=>exact⟨0,(by simp only[EV,seval]),(by simp only[EV,seval]),(by simp only[EV,seval]),by omega,by omega,by omega,fun j _ _=>by omega⟩
 case rest =>
  rintro e st (⟨rfl,h⟩|⟨rfl,h⟩)
  ·simp only[ZZ,seval];exact bT rfl h (.v _)
  ·simp only[ZZ,seval];exact bT rfl (by simp only[EV,seval,h]) (.v _)
theorem aJI (a:Int):aC Tryz.prog 49 [.v (.slice none 0 0),.v (.int .i64 a)]=some (.v (.bool false)):=by
 rw[cL Tryz.func49 rfl aMC rfl];simp only[ZZ,seval,Cf,Int.natCast_zero,Int.lt_irrefl,decide_false];exact bT rfl (by simp only[EV,seval]) (.v _)
theorem k49 (l:List Int) (a:Int) (hn:(l.length:Int)<1000000) (fl:Bool) (st:St) (d:Option Nat):tQ (aC Tryz.prog) 49 (some [.sl l.length (aK l),.v (.int .i64 a)]) fl st d=some { dst:=d,val:=.v (.bool (decide (a∈l)))}:=SZ (c49 l a hn)
theorem aTu (a:Int) (fl:Bool) (st:St) (d:Option Nat):tQ (aC Tryz.prog) 49 (some [.v (.slice none 0 0),.v (.int .i64 a)]) fl st d=some { dst:=d,val:=.v (.bool false)}:=SZ (aJI a)
def gZ (ns:List Node):Prop:=∀i:Int,0<i→i<ns.length→0≤(nd ns i).up∧(nd ns i).up<i
def Zq (ns:List Node):Nat→Int→List Int
 | 0,_=>[]
 | f+1,i=>if i=0 then [0] else Zq ns f (nd ns i).up++[i]
def path (ns:List Node) (i:Int):List Int:=if 0≤i∧i<ns.length then Zq ns (i.toNat+1) i else []
theorem Zr {ns:List Node} (h:gZ ns):∀(f g:Nat) (i:Int),0≤i→i<ns.length→i.toNat<f→i.toNat<g→Zq ns f i=Zq ns g i
 | 0,_,i,_,_,h1,_=>by omega
 | f+1,0,i,_,_,_,h2=>by omega
 | f+1,g+1,i,i0,i1,h1,h2=>by
   simp only[Zq];by_cases hi:i=0
   ·rw[if_pos hi,if_pos hi]
   ·obtain⟨u0,u1⟩:=h i (by omega) i1
    rw[if_neg hi,if_neg hi,Zr h f g (nd ns i).up u0 (by omega) (by omega) (by omega)]
theorem qV {ns:List Node} (h:0<ns.length):path ns 0=[0]:=by
 unfold path;rw[if_pos ⟨by omega,by omega⟩]
 rfl
theorem qW {ns:List Node} (h:gZ ns) {i:Int} (i0:0<i) (i1:i<ns.length):path ns i=path ns (nd ns i).up++[i]:=by
 obtain⟨u0,u1⟩:=h i i0 i1
 unfold path;rw[if_pos ⟨by omega,i1⟩,if_pos ⟨u0,by omega⟩]
 show Zq ns (i.toNat+1) i=_
 rw[Zq,if_neg (by omega)]
 rw[Zr h i.toNat ((nd ns i).up.toNat+1) (nd ns i).up u0 (by omega) (by omega) (by omega)]
theorem xU {ns:List Node} {i:Int} (h:¬(0≤i∧i<ns.length)):path ns i=[]:=if_neg h
theorem aAJ {ns:List Node} (h:gZ ns):∀(k:Nat) (i:Int),i.toNat=k→0≤i→i<ns.length→(path ns i).length≤i+1:=by
 intro k;induction k using Nat.strongRecOn with
 | _ k ih =>
   intro i hk i0 i1;by_cases hi:i=0
   ·subst hi;rw[qV (by omega)];simp
   ·obtain⟨u0,u1⟩:=h i (by omega) i1
    rw[qW h (by omega) i1]
    have:=ih (nd ns i).up.toNat (by omega) _ rfl u0 (by omega)
    simp only[List.length_append,List.length_singleton];omega
theorem Ag {ns:List Node} (h:gZ ns) (i:Int):((path ns i).length:Int)≤ns.length:=by
 by_cases hi:0≤i∧i<ns.length
 ·have:=aAJ h _ i rfl hi.1 hi.2;omega
 ·rw[xU hi];simp
theorem aTv (ns:List Node) (i:Int) (h:¬(0≤i∧i<ns.length)):aC Tryz.prog 76 [.agg (cP ⟨ns⟩),.v (.int .i64 i)]=some (.v (.slice none 0 0)):=by
 rw[cL Tryz.func76 rfl aMD rfl];have hd:(decide (0≤i) && decide (i<ns.length))=false:=by
  rw[← Bool.not_eq_true];simpa using h
 simp only[ZZ,seval,QO,hd];exact bT rfl (by simp only[EV,seval]) (.v _)
theorem c76 (ns:List Node) (hu:gZ ns) (hn:(ns.length:Int)<1000000):∀(k:Nat) (i:Int),i.toNat=k→0≤i→i<ns.length→aC Tryz.prog 76 [.agg (cP ⟨ns⟩),.v (.int .i64 i)]=some (.uniq 3 1 (path ns i).length (aK (path ns i))):=by
 intro k;induction k using Nat.strongRecOn with
 | _ k ih =>
   intro i hk i0 i1;have hd:(decide (0≤i) && decide (i<ns.length))=true:=by simp[i0,i1]
   rw[cL Tryz.func76 rfl aMD rfl];by_cases hi:i=0
   ·subst hi;simp only[ZZ,seval,QO,hd,i1,beq_self_eq_true];exact sF rfl (by simp only[EV,seval];rfl) (by simp only[EV,seval,qV (show 0<ns.length by omega)];rfl) (gD _)
   ·obtain⟨u0,u1⟩:=hu i (by omega) i1
    have hq:(i == 0)=false:=by simp[hi]
    have hr:=ih (nd ns i).up.toNat (by omega) _ rfl u0 (by omega)
    have hc:∀(st:St) (d:Nat),aN (aC Tryz.prog) 76 [.agg (cP ⟨ns⟩),.v (.int .i64 (nd ns i).up)] st (some d)=some { dst:=some d,val:=.own d (st.aQ d),new:=some (d,[.row 3 1 (path ns (nd ns i).up).length (aK (path ns (nd ns i).up))])}:=fun st d=>jB (bE (nJ _) (.v _)) hr
    have hl:((path ns (nd ns i).up).length:Int)<1000000:=by have:=Ag hu (nd ns i).up;omega
    simp only[ZZ,seval,QO,hd,hq,i0,i1,hc,hl];exact sF rfl (by simp only[EV,seval];rfl) (by simp only[EV,seval,qW hu (show 0<i by omega) i1]) (gD _)
theorem k76 (ns:List Node) (hu:gZ ns) (hn:(ns.length:Int)<1000000) (i:Int) (i0:0≤i) (i1:i<ns.length) (st:St) (d:Nat):aN (aC Tryz.prog) 76 [.agg (cP ⟨ns⟩),.v (.int .i64 i)] st (some d)=some { dst:=some d,val:=.own d (st.aQ d),new:=some (d,[.row 3 1 (path ns i).length (aK (path ns i))])}:=jB (bE (nJ _) (.v _)) (c76 ns hu hn _ i rfl i0 i1)
theorem YU (ns:List Node) (i:Int) (h:¬(0≤i∧i<ns.length)) (st:St) (d:Option Nat):aN (aC Tryz.prog) 76 [.agg (cP ⟨ns⟩),.v (.int .i64 i)] st d=some { dst:=d,val:=.v (.slice none 0 0)}:=bI (bE (nJ _) (.v _)) (aTv ns i h) (.v _)
def wY (ns:List Node) (a b:Int):Bool:=decide (a∈path ns b)
theorem c47 (ns:List Node) (hu:gZ ns) (hn:(ns.length:Int)<1000000) (a b:Int):aC Tryz.prog 47 [.agg (cP ⟨ns⟩),.v (.int .i64 a),.v (.int .i64 b)]=some (.v (.bool (wY ns a b))):=by
 rw[cL Tryz.func47 rfl aTq rfl];by_cases hb:0≤b∧b<ns.length
 ·have hl:((path ns b).length:Int)<1000000:=by have:=Ag hu b;omega
  simp only[ZZ,seval,k76 ns hu hn b hb.1 hb.2,q49,k49,hl];exact bT rfl (by simp only[EV,seval,wY]) (.v _)
 ·simp only[ZZ,seval,YU ns b hb,q49,aTu];exact bT rfl (by simp only[EV,seval,wY,xU hb,List.not_mem_nil,decide_false]) (.v _)
theorem sS (ns:List Node) (hu:gZ ns) (hn:(ns.length:Int)<1000000) (a b:Int) (st:St) (d:Option Nat):aN (aC Tryz.prog) 47 [.agg (cP ⟨ns⟩),.v (.int .i64 a),.v (.int .i64 b)] st d=some { dst:=d,val:=.v (.bool (wY ns a b))}:=bI (lN (nJ _) (.v _) (.v _)) (c47 ns hu hn a b) (.v _)
end Go.Ab.Tryz
