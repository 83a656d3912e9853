/-
  Part 9 of the proof: an evaluator of programs, its soundness, and what functions of this program compute.
-/
import Derived.Test.YtmcjkemalibacaaGreatK8
import Derived.Test.YtmcjkemalibacaaGreatK5
set_option linter.all false
set_option maxRecDepth 20000
set_option maxHeartbeats 40000000
section
namespace Go.Ab
open Classical
instance:Inhabited Node:=⟨ZN⟩
def nd (ns:List Node) (i:Int):Node:=ns.getD i.toNat ZN
def it (l:List Int) (i:Int):Int:=l.getD i.toNat 0
theorem Lb {ns:List Node} {i:Int} (h0:0≤i) (h1:i<ns.length):∃h:i.toNat<ns.length,nd ns i=ns[i.toNat]:=by
 have h:i.toNat<ns.length:=by omega
 exact⟨h,by simp[nd,h]⟩
theorem xA {l:List Int} {i:Int} (h0:0≤i) (h1:i<l.length):∃h:i.toNat<l.length,it l i=l[i.toNat]:=by
 have h:i.toNat<l.length:=by omega
 exact⟨h,by simp[it,h]⟩
theorem RF (l:List Int):aJ l=l.map fun x=>.v (.int .i64 x):=by
 induction l with
 | nil=>rfl
 | cons a l ih=>simp only[aJ,List.flatMap_cons,List.map_cons,pV] at *;rw[ih];rfl
theorem KX (l:List Int):bD l=l.map fun x=>.v (.int .u64 x):=by
 induction l with
 | nil=>rfl
 | cons a l ih=>simp only[bD,List.flatMap_cons,List.map_cons,sF] at *;rw[ih];rfl
theorem H5 (a b:List Int):aJ (a++b)=aJ a++aJ b:=by simp[aJ]
theorem AJ (a b:List Node):cD (a++b)=cD a++cD b:=by simp[cD]
theorem A2 (l:List Int):∀c∈aJ l,dY c:=by rw[RF];intro c hc;obtain⟨x,_,rfl⟩:=List.mem_map.1 hc;exact .v _
theorem H6 {l:List Int} {i:Int} (h0:0≤i) (h1:i<l.length):(aJ l)[i.toNat]? = some (.v (.int .i64 (it l i))):=by
 obtain⟨h,e⟩:=xA h0 h1
 rw[RF,List.getElem?_map,List.getElem?_eq_getElem h,e];rfl
theorem A1 {l:List Int} {i:Int} (h0:0≤i) (h1:i<l.length):(bD l)[i.toNat]? = some (.v (.int .u64 (it l i))):=by
 obtain⟨h,e⟩:=xA h0 h1
 rw[KX,List.getElem?_map,List.getElem?_eq_getElem h,e];rfl
theorem XD {ns:List Node} {i:Int} (h0:0≤i) (h1:i<ns.length):((cD ns).drop (i.toNat * 240)).take 240=fG (nd ns i):=by
 obtain⟨h,e⟩:=Lb h0 h1
 rw[e,← G3 ns i.toNat h];rfl
theorem KF:((1:Nat)=0)=False:=by simp
theorem KG:((0:Nat)=1)=False:=by simp
theorem cV {x:AV} (h:Flat x):∀y∈[x],Flat y:=by simpa using h
theorem bH {x y:AV} (h:Flat x) (h':Flat y):∀z∈[x,y],Flat z:=by simp[h,h']
theorem nD {x y u:AV} (h:Flat x) (h':Flat y) (h2:Flat u):∀z∈[x,y,u],Flat z:=by simp[h,h',h2]
theorem nC (t:Tree):Flat (.agg (cX t)):=.agg _ (WC t)
theorem uT (t:Block):Flat (.agg (aU t)):=.agg _ (Bj t)
theorem qK (t:cK):Flat (.agg (aX t)):=.agg _ (dJ t)
theorem Qi (l:List Int):Flat (.sl l.length (aJ l)):=.sl _ _ (gF l)
theorem aDK (st:St) (n:Nat) (cs:List AV):aR st (.sl n cs)=some (n,cs):=rfl
theorem aAM (st:St):aR st (.v (.slice none 0 0))=some (0,[]):=rfl
theorem aIl (x:Int):pV x=[.v (.int .i64 x)]:=rfl
theorem aIm (x:Int):sF x=[.v (.int .u64 x)]:=rfl
theorem aDL (x:Bool):tJ x=[.v (.bool x)]:=rfl
namespace Tryz
open Go.Proofs
theorem aNx (st:St) {ns:List Node} {k:IntKind} {i:Int} (h0:0≤i) (h1:i<ns.length):bF Tryz.prog st 48 (.sl ns.length (cD ns)) (.v (.int k i))=some (.ip (fG (nd ns i)) 0):=by
 have hl:i.toNat<ns.length:=by omega
 have:i.toNat * 240+240≤ns.length * 240:=by rw[← Nat.succ_mul];exact Nat.mul_le_mul_right _ hl
 simp only[bF,aIj,RC,h0,h1,Lc,this,and_self,if_true,XD h0 h1]
theorem aEq (st:St) {l:List Int} {k:IntKind} {i:Int} (h0:0≤i) (h1:i<l.length):bF Tryz.prog st 22 (.sl l.length (aJ l)) (.v (.int k i))=some (.ip (pV (it l i)) 0):=by
 obtain⟨h,e⟩:=xA h0 h1
 have:i.toNat * 1+1≤l.length * 1:=by omega
 have hr:=aAl l i.toNat h
 simp only[bF,aDI,Kw,h0,h1,Jf,this,and_self,if_true,e,← hr];rfl
theorem aAN {call:Nat→List AV→Option AV} {ops:Array Oper} {st:St} {d:Option Nat} {T:Nat} {pos:String} {eP:Array Edge} (g:Nat) (args:Array Operand) (tH:Array Nat) (h:(g == 215 || g == 226 || g == 227 || g == 229 || g == 228 || g == 230 || g == 231 || g == 210 || g == 81 || g == 217 || g == 222 || g == 235 || g == 220 || g == 101 || g == 57 || g == 32 || (g == 43 && d == some 72))=false) :
 cF Tryz.prog call ops ⟨d,.call ⟨.value (.func g),args,tH⟩,T,pos,eP,none⟩ st=cN (aL call g (args.toList.map st.ev) st d) fun e=>some (e.apply st):=by
 simp only[Bool.or_eq_false_iff] at h;exact aCQ g args tH (aDm (by simp only[h,Bool.or_self])) (aAF (by simp only[h,Bool.or_self]))
theorem H7 {call:Nat→List AV→Option AV} {ops:Array Oper} {st:St} {d:Option Nat} {T:Nat} {pos:String} {eP:Array Edge} (g:Nat) (args:Array Operand) (tH:Array Nat) (h:(g == 215 || g == 226 || g == 227 || g == 229 || g == 228 || g == 230 || g == 231 || g == 210 || g == 81)=true) :
 cF Tryz.prog call ops ⟨d,.call ⟨.value (.func g),args,tH⟩,T,pos,eP,none⟩ st=cN (lN call g (args.toList.map st.ev) st d) fun e=>some (e.apply st):=Z7 g args tH (ZQ h)
theorem aAO {call:Nat→List AV→Option AV} {ops:Array Oper} {st:St} {d:Option Nat} {T:Nat} {pos:String} {eP:Array Edge} (g:Nat) (args:Array Operand) (tH:Array Nat) (h:(g == 217 || g == 222 || g == 235 || g == 220 || g == 101 || g == 57 || g == 32 || (g == 43 && d == some 72))=true) :
 cF Tryz.prog call ops ⟨d,.call ⟨.value (.func g),args,tH⟩,T,pos,eP,none⟩ st=cN (fF call g (args.toList.map st.ev) st d) fun e=>some (e.apply st):=by
 refine VR g args tH ?_ (aAG h)
 simp only[Bool.or_eq_true,Bool.and_eq_true,beq_iff_eq] at h;rcases h with ((((((h|h)|h)|h)|h)|h)|h)|⟨h,_⟩<;>(subst h;rfl)
theorem aNy {S d:Nat} (h:((S == 54 && (d == 36 || d == 42 || d == 26)) || (S == 45 && (d == 84 || d == 91)))=false):Ext.va S d=false:=ZO (by
 simp only[Bool.or_eq_false_iff,Bool.and_eq_false_iff] at h ⊢;exact h.1.imp id fun h=>h.2)
theorem aNz {S d:Nat} (h:((S == 54 && (d == 36 || d == 42 || d == 26)) || (S == 45 && (d == 84 || d == 91)))=false):Ext.pa S d=false:=aDl (by
 simp only[Bool.or_eq_false_iff,Bool.and_eq_false_iff] at h ⊢;exact⟨h.1.imp id fun h=>h.1,h.2⟩)
theorem aAP {S d:Nat} (h:((S == 54 && (d == 36 || d == 42)) || (S == 45 && (d == 84 || d == 91)))=true):Ext.va S d=false:=ZO (by
 by_cases h2:d=26
 ·subst h2;simp at h
 ·simp[h2])
theorem aDM {call:Nat→List AV→Option AV} {ops:Array Oper} {st:St} {T:Nat} {pos:String} {eP:Array Edge} (s x:Operand) (S d:Nat) (h:((S == 54 && (d == 36 || d == 42 || d == 26)) || (S == 45 && (d == 84 || d == 91)))=false):cF Tryz.prog call ops ⟨some d,.call ⟨.builtin .append,#[s,x],#[S,S]⟩,T,pos,eP,none⟩ st=cN (dE Tryz.prog st S (st.ev s) (st.ev x)) fun ur =>
 some (((match ur.1 with|some p=>st.iY p.1 p.2 none|none=>st).new d ur.2).put (some d) (.own d (st.aP d))):=VT s x S d (aNy h) (aNz h)
theorem iL {call:Nat→List AV→Option AV} {ops:Array Oper} {st:St} {T:Nat} {pos:String} {eP:Array Edge} (s x:Operand) (S d:Nat) (h:((S == 54 && (d == 36 || d == 42)) || (S == 45 && (d == 84 || d == 91)))=true) (hn:¬(st.ev s=.v (.slice none 0 0)∧(aR st (st.ev x)).map Prod.fst=some 0)):cF Tryz.prog call ops ⟨some d,.call ⟨.builtin .append,#[s,x],#[S,S]⟩,T,pos,eP,none⟩ st=cN (dE Tryz.prog st S (st.ev s) (st.ev x)) fun ur =>
 some (((match ur.1 with|some p=>st.iY p.1 p.2 none|none=>st).new d ur.2).put (some d) (.own d (st.aP d))):=aAa s x S d (aAP h) (ZP h) hn
theorem iK {call:Nat→List AV→Option AV} {ops:Array Oper} {st:St} {T:Nat} {pos:String} {eP:Array Edge} (s x:Operand) (S d:Nat) (h:((S == 54 && (d == 36 || d == 42)) || (S == 45 && (d == 84 || d == 91)))=true) (hi:(dM Tryz.prog S).isSome=true) (h1:st.ev s=.v (.slice none 0 0)) (h2:(aR st (st.ev x)).map Prod.fst=some 0):cF Tryz.prog call ops ⟨some d,.call ⟨.builtin .append,#[s,x],#[S,S]⟩,T,pos,eP,none⟩ st=some (st.put (some d) (.v (.slice none 0 0))):=aAb s x S d (aAP h) (ZP h) hi h1 h2
end Tryz
end Go.Ab
end
section
namespace Go.Ab
open Classical
noncomputable def sA (call:Nat→List AV→Option AV) (g:Nat) (xs:Option (List AV)) (fl:Bool) (st:St) (d:Option Nat):Option rC :=
 cN xs fun xs=>cN (call g xs) fun r=>if fl=true∨Vl r then jA r st d else none
theorem Cv {st:St}:∀(args:List AV),(∀x∈args,Flat x)→cC (args.map (fK st))=some args
 | [],_=>rfl
 | x :: xs,h=>by
   simp only[List.map_cons,dP (h x (by simp)),cC,Cv xs fun y hy=>h y (by simp[hy]),Option.map_some]
theorem lF (call:Nat→List AV→Option AV) (g:Nat) (args:List AV) (st:St) (d:Option Nat):aL call g args st d=sA call g (cC (args.map (fK st))) (decide (∀x∈args,Flat x)) st d:=by
 unfold aL sA;by_cases h:∀x∈args,Flat x
 ·rw[if_pos h,Cv args h];have hd:decide (∀x∈args,Flat x)=true:=decide_eq_true h
  rw[hd];simp only[cZ,true_or,if_true]
 ·rw[if_neg h];cases cC (args.map (fK st)) with
  | none=>rfl
  | some xs =>
    have hd:decide (∀x∈args,Flat x)=false:=decide_eq_false h
    rw[hd];simp only[cZ,Bool.false_eq_true,false_or]
theorem p9 {call:Nat→List AV→Option AV} {g:Nat} {xs:List AV} {r:AV} {fl:Bool} {st:St} {d:Option Nat} (h:call g xs=some r) (hr:Vl r) (hf:Flat r):sA call g (some xs) fl st d=some { dst:=d,val:=r }:=by
 unfold sA;simp only[cZ,h,hr,or_true,if_true,jA,if_pos hf]
theorem GU {call:Nat→List AV→Option AV} {g:Nat} {xs:List AV} {b:Bool} {fl:Bool} {st:St} {d:Option Nat} (h:call g xs=some (.v (.bool b))):sA call g (some xs) fl st d=some { dst:=d,val:=.v (.bool b)}:=p9 h (.v _) (.v _)
theorem Ss {call:Nat→List AV→Option AV} {g:Nat} {xs:List AV} {k:IntKind} {b:Int} {fl:Bool} {st:St} {d:Option Nat} (h:call g xs=some (.v (.int k b))):sA call g (some xs) fl st d=some { dst:=d,val:=.v (.int k b)}:=p9 h (.v _) (.v _)
theorem O6 {call:Nat→List AV→Option AV} {g:Nat} {xs:List AV} {e sz n:Nat} {cs:List AV} {fl:Bool} {st:St} {d:Nat} (h:call g xs=some (.uniq e sz n cs)) (hr:∀c∈cs,dY c):sA call g (some xs) fl st (some d)=some { dst:=some d,val:=.own d (st.aP d),new:=some (d,[.row e sz n cs])}:=by
 have XZ:Vl (.uniq e sz n cs):=hr
 have hnf:¬Flat (.uniq e sz n cs):=by intro h;cases h
 unfold sA;simp only[cZ,h,XZ,or_true,if_true,jA,if_neg hnf];rfl
noncomputable def jH (o:Option nM):Option AV :=
 match o with
 | some (.row _ _ n cs)=>if ∀c∈cs,Flat c then some (.sl n cs) else none
 | _=>none
theorem vJ (st:St) (s g:Nat):fK st (.own s g)=jH (st.heap s g):=by
 unfold fK cA jH;rw[if_neg (nF s g)];simp only[if_neg (nF s g)];cases st.heap s g with
 | none=>rfl
 | some e=>cases e<;>rfl
theorem H8 (e sz n:Nat) (l:List Int):jH (some (.row e sz n (aJ l)))=some (.sl n (aJ l)):=by
 unfold jH;simp only;rw[if_pos (gF l)]
theorem H9 (e sz n:Nat) (l:List Int):jH (some (.row e sz n (bD l)))=some (.sl n (bD l)):=by
 unfold jH;simp only;rw[if_pos (iE l)]
theorem XE (e sz n:Nat) (l:List Node):jH (some (.row e sz n (cD l)))=some (.sl n (cD l)):=by
 unfold jH;simp only;rw[if_pos (kD l)]
theorem RH (e sz:Nat) (x:Node):jH (some (.row e sz 1 (fG x)))=some (.sl [x].length (cD [x])):=by
 unfold jH;simp only;rw[if_pos (La x)];simp[cD]
theorem Ld (st:St) (x:Value):fK st (.v x)=some (.v x):=dP (.v x)
theorem Iw (st:St) (t:Tree):fK st (.agg (cX t))=some (.agg (cX t)):=dP (nC t)
theorem Qt (st:St) (t:cK):fK st (.agg (aX t))=some (.agg (aX t)):=dP (qK t)
theorem Lj (st:St) (t:Block):fK st (.agg (aU t))=some (.agg (aU t)):=dP (uT t)
theorem aAQ (st:St) (n:Nat) (l:List Int):fK st (.sl n (aJ l))=some (.sl n (aJ l)):=dP (.sl _ _ (gF l))
theorem aAR (st:St) (n:Nat) (l:List Int):fK st (.sl n (bD l))=some (.sl n (bD l)):=dP (.sl _ _ (iE l))
theorem aDN (st:St):fK st (.agg [.v (.slice none 0 0)])=some (.agg [.v (.slice none 0 0)]):=dP (.agg _ (by simp;exact .v _))
theorem gL {α:Type}:cC ([]:List (Option α))=some []:=rfl
theorem bP {α:Type} (x:α) (r:List (Option α)):cC (some x :: r)=(cC r).map (x :: ·):=rfl
theorem aDO (x:Int):xY 3 1 8 (some (1,[.v (.int .i64 x)]))=some (none,.row 3 1 [x].length (aJ [x])):=by
 simp[xY,maxLen];rfl
theorem aDP (l:List Int) (x:Int) (s g:Nat) (h:(l.length:Int)<1000000):xJ 3 1 8 (some (.row 3 1 l.length (aJ l))) s g (some (1,[.v (.int .i64 x)]))=some (some (s,g),.row 3 1 (l++[x]).length (aJ (l++[x]))):=by
 simp only[xJ];rw[if_pos ⟨by simp,by simp,by simp,by omega,by simp only[maxLen];omega⟩,H5]
 simp[aJ,pV]
theorem aAS (x:Node):xY 76 240 352 (some (1,fG x))=some (none,.row 76 240 [x].length (cD [x])):=by
 simp[xY,maxLen,cD]
theorem aAT (l:List Node) (x:Node) (s g:Nat) (h:(l.length:Int)<1000000):xJ 76 240 352 (some (.row 76 240 l.length (cD l))) s g (some (1,fG x))=some (some (s,g),.row 76 240 (l++[x]).length (cD (l++[x]))):=by
 simp only[xJ];rw[if_pos ⟨by simp,by simp,by simp,by omega,by simp only[maxLen];omega⟩,AJ]
 simp[cD]
theorem aAU (l:List Node) (h:(l.length:Int)<1000000):xY 76 240 352 (some (l.length,cD l))=some (none,.row 76 240 l.length (cD l)):=by
 simp only[xY];rw[if_pos (by refine⟨by simp, ?_, ?_⟩<;>(try simp only[maxLen])<;>omega)]
theorem aAV (l:List Node) (h:(l.length:Int)<1000000):acE 76 240 352 0 [] (some (l.length,cD l))=some (none,.row 76 240 l.length (cD l)):=by
 simp only[acE];rw[if_pos ⟨by simp,by simp,by simp,by omega,by simp only[maxLen];omega⟩]
 simp
theorem aAW (l:List Node) (x:Node) (h:(l.length:Int)<1000000):acE 76 240 352 l.length (cD l) (some (1,fG x))=some (none,.row 76 240 (l++[x]).length (cD (l++[x]))):=by
 simp only[acE];rw[if_pos (by refine⟨by simp,by simp,.inr (by omega), ?_, ?_⟩<;>(try simp only[maxLen])<;>omega),AJ]
 simp[cD]
def onI {α:Type} (x:AV) (k:Int→Option α):Option α :=
 match x with
 | .v (.int .i64 v)=>k v
 | _=>none
def aFq {α:Type} (z:Nat) (x:AV) (k:List AV→Option α):Option α :=
 match x with
 | .agg cs=>if cs.length=z then k cs else none
 | _=>none
@[congr] theorem aI8 {α:Type} {x y:AV} {k:Int→Option α} (h:x=y):onI x k=onI y k:=by rw[h]
@[congr] theorem aFr {α:Type} {z:Nat} {x y:AV} {k:List AV→Option α} (h:x=y):aFq z x k=aFq z y k:=by rw[h]
def Kx {α:Type} (x:AV) (k:Int→Option α) (fb:Option α):Option α :=
 match x with
 | .v (.int .i64 v)=>k v
 | _=>fb
def RI {α:Type} (z:Nat) (x:AV) (k:List AV→Option α) (fb:Option α):Option α :=
 match x with
 | .agg cs=>if cs.length=z then k cs else fb
 | _=>fb
def RJ {α:Type} (x:AV) (k:Nat→List AV→Option α) (fb:Option α):Option α :=
 match x with
 | .uO g cs=>k g cs
 | _=>fb
theorem aDQ {α:Type} (v:Int) (k:Int→Option α) (fb:Option α):Kx (.v (.int .i64 v)) k fb=k v:=rfl
theorem I0 {α:Type} (z:Nat) (cs:List AV) (k:List AV→Option α) (fb:Option α) (h:cs.length=z):RI z (.agg cs) k fb=k cs:=if_pos h
theorem I1 {α:Type} (g:Nat) (cs:List AV) (k:Nat→List AV→Option α) (fb:Option α):RJ (.uO g cs) k fb=k g cs:=rfl
@[congr] theorem aI9 {α:Type} {x y:AV} {k:Int→Option α} {fb:Option α} (h:x=y):Kx x k fb=Kx y k fb:=by rw[h]
@[congr] theorem aFs {α:Type} {z:Nat} {x y:AV} {k:List AV→Option α} {fb:Option α} (h:x=y):RI z x k fb=RI z y k fb:=by rw[h]
@[congr] theorem aFt {α:Type} {x y:AV} {k:Nat→List AV→Option α} {fb:Option α} (h:x=y):RJ x k fb=RJ y k fb:=by rw[h]
namespace Tryz
open Go.Proofs
theorem I2 (st:St) (x:AV):dE Tryz.prog st 22 (.v (.slice none 0 0)) x=xY 3 1 8 (aR st x):=uK Kw x
theorem I3 (st:St) (s g:Nat) (x:AV):dE Tryz.prog st 22 (.own s g) x=xJ 3 1 8 (st.heap s g) s g (aR st x):=sN Kw s g x
theorem I4 (st:St) (x:AV):dE Tryz.prog st 48 (.v (.slice none 0 0)) x=xY 76 240 352 (aR st x):=uK RC x
theorem I5 (st:St) (s g:Nat) (x:AV):dE Tryz.prog st 48 (.own s g) x=xJ 76 240 352 (st.heap s g) s g (aR st x):=sN RC s g x
theorem aAX (st:St) (n:Nat) (cs:List AV) (x:AV):dE Tryz.prog st 48 (.cl n cs) x=acE 76 240 352 n cs (aR st x):=aGT RC n cs x
theorem I6 (st:St) (s g:Nat) (k:IntKind) (i:Int):bF Tryz.prog st 22 (.own s g) (.v (.int k i))=PO 3 1 (st.heap s g) s g i:=by
 simp only[bF,aDI,Kw,PO];cases st.heap s g with
 | none=>rfl
 | some e=>cases e<;>rfl
theorem I7 (st:St) (s g:Nat) (k:IntKind) (i:Int):bF Tryz.prog st 48 (.own s g) (.v (.int k i))=PO 76 240 (st.heap s g) s g i:=by
 simp only[bF,aIj,RC,PO];cases st.heap s g with
 | none=>rfl
 | some e=>cases e<;>rfl
theorem aDR (l:List Int) (s g:Nat) (i:Int) (h0:0≤i) (h1:i<l.length):PO 3 1 (some (.row 3 1 l.length (aJ l))) s g i=some (.ptr s g i.toNat):=by
 simp[PO,h0,h1]
theorem aAY (l:List Node) (s g:Nat) (i:Int) (h0:0≤i) (h1:i<l.length):PO 76 240 (some (.row 76 240 l.length (cD l))) s g i=some (.ptr s g (i.toNat * 240)):=by
 simp[PO,h0,h1]
theorem RK (st:St) (s g:Nat):fK st (.agg [.own s g])=(jH (st.heap s g)).map fun y=>.agg [y]:=by
 have hn:¬Flat (.agg [.own s g]):=by intro h;cases h with|agg _ h=>exact nF s g (h _ (by simp))
 unfold fK jH;rw[if_neg hn];simp only[List.map_cons,List.map_nil];unfold cA;rw[if_neg (nF s g)];simp only
 cases st.heap s g with
 | none=>rfl
 | some e=>cases e with
   | row a b n cs =>
     by_cases h:∀c∈cs,Flat c
     ·simp only[if_pos h,cC,Option.map_some]
     ·simp only[if_neg h,cC,Option.map_none]
   | _=>rfl
theorem aIn (x:AV):rd [x] 0 1=[x]:=rfl
theorem aIo (x y:AV):dK [x] 0 [y] 1=[y]:=rfl
theorem aAZ (x:AV) (t:Tree):dK [x] 0 (cX t) 1=cX t:=rfl
theorem aA0 (x:AV) (t:Tree):dK (cX t) 0 [x] 1=[x]:=rfl
theorem pD {l:List Int} {i:Int} (h0:0≤i) (h1:i<l.length):(aJ l)[i.toNat]? = some (.v (.int .i64 (it l i))):=H6 h0 h1
def vow (o:Option nM):Option (Nat × List AV) :=
 match o with
 | some (.row _ _ n cs)=>some (n,cs)
 | _=>none
theorem aDS (e sz n:Nat) (cs:List AV):vow (some (.row e sz n cs))=some (n,cs):=rfl
theorem I8 (st:St) (s g:Nat):aR st (.own s g)=vow (st.heap s g):=by
 simp only[aR,vow];cases st.heap s g with
 | none=>rfl
 | some o=>cases o<;>rfl
section
variable {call:Nat→List AV→Option AV} {ops:Array Oper} {st:St} {T:Nat} {pos:String} {eP:Array Edge}
theorem aDT (d:Nat) (x:Operand) {v:Int} (h:st.ev x=.v (.int .i64 v)):cF Tryz.prog call ops ⟨some d,.buildSlice 22 1 #[(0,x)],T,pos,eP,none⟩ st=some ((st.new d (.row 3 1 1 [.v (.int .i64 v)])).put (some d) (.own d (st.aP d))):=by
 rw[lB];simp[Kw,ze3,cN,h,AV.jD,Value.oneCell',gT,AV.cells]
theorem aDU (d:Nat) (x:Operand) {cs:List AV} (h:st.ev x=.agg cs) (hl:cs.length=240):cF Tryz.prog call ops ⟨some d,.buildSlice 48 1 #[(0,x)],T,pos,eP,none⟩ st=some ((st.new d (.row 76 240 1 cs)).put (some d) (.own d (st.aP d))):=by
 rw[lB];have hz:(Zf.map AV.v).length=240:=by rw[IU];simp
 simp only[RC,aHq,cN,List.toList_toArray,List.all_cons,List.all_nil,h,AV.jD,Bool.and_self,List.map_cons,List.map_nil,gT,AV.cells,hl,Nat.zero_mul,Nat.zero_add,true_and,List.take_zero,List.nil_append];have h2:((List.range 1).flatMap fun _=>Zf.map AV.v)=Zf.map AV.v:=by simp[List.range,List.range.loop]
 rw[h2,if_pos (by simp),if_pos (by rw[hz];exact Nat.le_refl _)]
 rw[List.drop_of_length_le (by rw[hz];exact Nat.le_refl _),List.append_nil]
theorem aA1 (d:Nat) (x:Operand):cF Tryz.prog call ops ⟨some d,.buildSlice 22 1 #[(0,x)],T,pos,eP,none⟩ st =
 Kx (st.ev x) (fun v=>some ((st.new d (.row 3 1 1 [.v (.int .i64 v)])).put (some d) (.own d (st.aP d)))) (cF Tryz.prog call ops ⟨some d,.buildSlice 22 1 #[(0,x)],T,pos,eP,none⟩ st):=by
 unfold Kx;split
 ·rename_i v h;exact aDT d x h
 ·rfl
theorem I9 (d:Nat) (x y z:Operand) {a b c:Int} (h1:st.ev x=.v (.int .i64 a)) (h2:st.ev y=.v (.int .i64 b)) (h3:st.ev z=.v (.int .i64 c)):cF Tryz.prog call ops ⟨some d,.buildSlice 22 3 #[(0,x),(1,y),(2,z)],T,pos,eP,none⟩ st =
 some ((st.new d (.row 3 1 [a,b,c].length (aJ [a,b,c]))).put (some d) (.own d (st.aP d))):=by
 rw[lB];simp[Kw,ze3,cN,h1,h2,h3,AV.jD,Value.oneCell',gT,AV.cells,List.range,List.range.loop,aJ,pV]
theorem XF (d:Nat) (x y z:Operand):cF Tryz.prog call ops ⟨some d,.buildSlice 22 3 #[(0,x),(1,y),(2,z)],T,pos,eP,none⟩ st =
 Kx (st.ev x) (fun a=>Kx (st.ev y) (fun b=>Kx (st.ev z) (fun c=>some ((st.new d (.row 3 1 [a,b,c].length (aJ [a,b,c]))).put (some d) (.own d (st.aP d)))) (cF Tryz.prog call ops ⟨some d,.buildSlice 22 3 #[(0,x),(1,y),(2,z)],T,pos,eP,none⟩ st))
  (cF Tryz.prog call ops ⟨some d,.buildSlice 22 3 #[(0,x),(1,y),(2,z)],T,pos,eP,none⟩ st)) (cF Tryz.prog call ops ⟨some d,.buildSlice 22 3 #[(0,x),(1,y),(2,z)],T,pos,eP,none⟩ st):=by
 unfold Kx;split
 ·rename_i a h1;try dsimp only
  split
  ·rename_i b h2;try dsimp only
   split
   ·rename_i c h3;exact I9 d x y z h1 h2 h3
   ·rfl
  ·rfl
 ·rfl
theorem aA2 (d:Nat) (x:Operand):cF Tryz.prog call ops ⟨some d,.buildSlice 48 1 #[(0,x)],T,pos,eP,none⟩ st =
 RI 240 (st.ev x) (fun cs=>some ((st.new d (.row 76 240 1 cs)).put (some d) (.own d (st.aP d)))) (cF Tryz.prog call ops ⟨some d,.buildSlice 48 1 #[(0,x)],T,pos,eP,none⟩ st):=by
 unfold RI;split
 ·rename_i cs h;split
  ·rename_i hl;exact aDU d x h hl
  ·rfl
 ·rfl
theorem DA (S d:Nat) (l c:Operand):cF Tryz.prog call ops ⟨some d,.makeSlice S l c,T,pos,eP,none⟩ st =
 Kx (st.ev l) (fun n=>Kx (st.ev c) (fun m=>if 0≤n∧n=m then (cN (dM Tryz.prog S) fun t=>cN (dZ Tryz.prog t.1) fun z =>
  if n * t.2.2≤140737488355328∧n≤maxLen then some ((st.new d (.row t.1 t.2.1 n.toNat ((List.range n.toNat).flatMap fun _=>z.map .v))).put (some d) (.own d (st.aP d))) else none)
  else cF Tryz.prog call ops ⟨some d,.makeSlice S l c,T,pos,eP,none⟩ st) (cF Tryz.prog call ops ⟨some d,.makeSlice S l c,T,pos,eP,none⟩ st)) (cF Tryz.prog call ops ⟨some d,.makeSlice S l c,T,pos,eP,none⟩ st):=by
 unfold Kx;split
 ·rename_i n hl;split
  ·rename_i m hc;dsimp only
   split
   ·rename_i hnm;obtain⟨h0,rfl⟩:=hnm
    have hn:n=(n.toNat:Int):=by omega
    rw[IK S d l c (n:=n.toNat) (by rw[hl,← hn]) (by rw[hc,← hn]),← hn]
   ·rfl
  ·rfl
 ·rfl
theorem J0 (t:Nat) (args:Array Operand) (tH:Array Nat) (d:Option Nat):cF Tryz.prog call ops ⟨d,.call ⟨.value (.tmp t),args,tH⟩,T,pos,eP,none⟩ st =
 RJ (st.env t) (fun g nN=>cN (aL call g (args.toList.map st.ev++nN) st d) fun e=>some (e.apply st)) (cF Tryz.prog call ops ⟨d,.call ⟨.value (.tmp t),args,tH⟩,T,pos,eP,none⟩ st):=by
 unfold RJ;split
 ·rename_i g nN h;exact Z9 t args tH h
 ·rfl
end
end Tryz
end Go.Ab
end
namespace Go.Ab
open Classical
theorem aDV (b:Bool):unA .not (.v (.bool b))=some (.v (.bool (!b))):=rfl
theorem aDW (k:IntKind) (n:Int):unA .neg (.v (.int k n))=some (.v (.int k (k.wrap (0-n)))):=rfl
theorem aDX (k:IntKind) (n:Int):unA .xor (.v (.int k n))=some (.v (.int k (k.wrap (BitVec.ofInt k.bits (if k.signed then -1 else k.max) ^^^ BitVec.ofInt k.bits n).toNat))):=rfl
def aA3 (a b:Option IntKind) (n:Int):Option AV :=
 match a,b with
 | some k,some _=>some (.v (.int k (k.wrap n)))
 | _,_=>none
theorem XG (k k':IntKind) (n:Int):aA3 (some k) (some k') n=some (.v (.int k (k.wrap n))):=rfl
theorem J1 (P:Program) (s d:Nat) (k:IntKind) (n:Int):OX P s d (.v (.int k n))=aA3 (intKind P d) (intKind P s) n:=by
 simp only[OX,aA3];cases intKind P d with
 | none=>rfl
 | some a=>cases intKind P s<;>rfl
theorem aDY (s g o k:Nat):vA (.ptr s g o) k=some (.ptr s g (o+k)):=rfl
theorem aIp (cs:List AV) (o k:Nat):vA (.ip cs o) k=if o+k≤cs.length then some (.ip cs (o+k)) else none:=rfl
def tZ (P:Program) (T:Nat) (e:Option nM) (o:Nat):Option AV :=
 match e with
 | some (.cells cs)=>fD P T cs o
 | some (.row _ _ _ cs)=>fD P T cs o
 | _=>none
theorem RL (P:Program) (T o:Nat) (cs:List AV):tZ P T (some (.cells cs)) o=fD P T cs o:=rfl
theorem J2 (P:Program) (T o e sz n:Nat) (cs:List AV):tZ P T (some (.row e sz n cs)) o=fD P T cs o:=rfl
theorem aDZ (P:Program) (st:St) (T o:Nat) (cs:List AV):Fs P st T (.ip cs o)=fD P T cs o:=rfl
theorem aA4 (P:Program) (st:St) (T s g o:Nat):Fs P st T (.ptr s g o)=tZ P T (st.heap s g) o:=by
 simp only[Fs,tZ];cases st.heap s g with
 | none=>rfl
 | some e=>cases e<;>rfl
theorem aIq (x:Value):(AV.v x).jD=x.oneCell':=rfl
theorem aA5 (cs:List AV):(AV.agg cs).jD=true:=rfl
theorem aD0 (n:Nat) (cs:List AV):(AV.sl n cs).jD=true:=rfl
theorem aD1 (n:Nat) (cs:List AV):(AV.cl n cs).jD=true:=rfl
theorem aD2 (n:Nat) (cs:List AV):(AV.ip cs n).jD=true:=rfl
theorem aA6 (s g o:Nat):(AV.ptr s g o).jD=true:=rfl
theorem aA7 (s g:Nat):(AV.own s g).jD=true:=rfl
theorem aD3 (s g:Nat):(AV.mp s g).jD=true:=rfl
theorem aA8 (f:Nat) (cs:List AV):(AV.uO f cs).jD=true:=rfl
theorem aNA (x:Value):(AV.v x).cells=[.v x]:=rfl
theorem aD4 (cs:List AV):(AV.agg cs).cells=cs:=rfl
theorem aIr (n:Nat) (cs:List AV):(AV.sl n cs).cells=[.sl n cs]:=rfl
theorem aIs (n:Nat) (cs:List AV):(AV.cl n cs).cells=[.cl n cs]:=rfl
theorem aIt (n:Nat) (cs:List AV):(AV.ip cs n).cells=[.ip cs n]:=rfl
theorem aD5 (s g o:Nat):(AV.ptr s g o).cells=[.ptr s g o]:=rfl
theorem aD6 (s g:Nat):(AV.own s g).cells=[.own s g]:=rfl
theorem aIu (s g:Nat):(AV.mp s g).cells=[.mp s g]:=rfl
theorem aD7 (f:Nat) (cs:List AV):(AV.uO f cs).cells=[.uO f cs]:=rfl
theorem aD8 (k:IntKind) (n:Int):(Value.int k n).oneCell'=true:=rfl
theorem aA9 (b:Bool):(Value.bool b).oneCell'=true:=rfl
theorem J3 (a:Option Addr) (n m:Nat):(Value.slice a n m).oneCell'=true:=rfl
theorem XH (id:Nat):Ex.normal.inBlock id=.normal:=rfl
theorem aD9 (id:Nat):Ex.ret.inBlock id=.ret:=rfl
theorem aBa (id i:Nat):(Ex.exit i).inBlock id=if i=id then .normal else .exit i:=rfl
theorem aEa (l:List Oper) (j:Nat):ZL l.toArray j=(l[j]?).bind (·.dst):=by simp[ZL]
theorem gei (a b:Int):(a≥b)=(b≤a):=rfl
theorem gti (a b:Int):(a > b)=(b<a):=rfl
theorem aUo (a b:Nat):(a≥b)=(b≤a):=rfl
theorem gtn (a b:Nat):(a > b)=(b<a):=rfl
end Go.Ab
section
namespace Go.Ab
open Classical
def cU8 (x:Int):List AV:=[.v (.int .u8 x)]
theorem aEb (x:Int):(cU8 x).length=1:=rfl
theorem aBb (s:Int):∀x∈cU8 s,Flat x:=by intro x hx;simp[cU8] at hx;subst hx;exact .v _
def kF (l:List Int):List AV:=l.flatMap cU8
theorem vM (l:List Int):∀x∈kF l,Flat x:=by
 intro x hx;obtain⟨y,_,hy⟩:=List.mem_flatMap.1 hx
 exact aBb y x hy
section
variable {α:Type} {c:α→List AV} {sz:Nat}
theorem iM (hc:∀x,(c x).length=sz) (l:List α):(l.flatMap c).length=l.length * sz:=by
 induction l with
 | nil=>simp
 | cons x l ih=>simp only[List.flatMap_cons,List.length_append,hc,List.length_cons,ih];rw[Nat.succ_mul];omega
theorem vZ (hc:∀x,(c x).length=sz):∀(l:List α) (k:Nat),(l.flatMap c).take (k * sz)=(l.take k).flatMap c
 | [],k=>by simp
 | x :: l,0=>by simp
 | x :: l,k+1=>by
   simp only[List.flatMap_cons,List.take_succ_cons];rw[List.take_append,List.take_of_length_le (by rw[hc,Nat.succ_mul];omega),hc,show (k+1) * sz-sz=k * sz by rw[Nat.succ_mul];omega,vZ hc l k]
theorem xU (hc:∀x,(c x).length=sz):∀(l:List α) (k:Nat),(l.flatMap c).drop (k * sz)=(l.drop k).flatMap c
 | [],k=>by simp
 | x :: l,0=>by simp
 | x :: l,k+1=>by
   simp only[List.flatMap_cons,List.drop_succ_cons];rw[List.drop_append,List.drop_of_length_le (by rw[hc,Nat.succ_mul];omega),List.nil_append,hc,show (k+1) * sz-sz=k * sz by rw[Nat.succ_mul];omega,xU hc l k]
theorem Kr (hc:∀x,(c x).length=sz) {z:α} {l:List α} {i:Int} (h0:0≤i) (h1:i<l.length):((l.flatMap c).drop (i.toNat * sz)).take sz=c (gx z l i):=by
 obtain⟨h,e⟩:=WM (z:=z) h0 h1
 rw[xU hc,e];have h2:=vZ hc (l.drop i.toNat) 1
 rw[Nat.one_mul] at h2;rw[h2];have h3:(l.drop i.toNat).take 1=[l[i.toNat]]:=by rw[List.take_one];simp[List.head?_drop,h]
 rw[h3];simp
theorem KH (hc:∀x,(c x).length=sz) (l:List α) (k:Nat) (x:α) (h:k<l.length):dK (l.flatMap c) (k * sz) (c x) (k * sz+sz)=(l.set k x).flatMap c:=by
 unfold dK;rw[vZ hc,show k * sz+sz=(k+1) * sz by rw[Nat.succ_mul],xU hc,List.set_eq_take_append_cons_drop,if_pos h]
 simp
theorem RM [Ext] {P:Program} {T e n k off:Nat} (hc:∀x,(c x).length=sz) {z:α} {l:List α} {i:Int} (h0:0≤i) (h1:i<l.length) (hk:tC P T=some k) (uQ:0<k) (ho:off+k≤sz) :
 tZ P T (some (.row e sz n (l.flatMap c))) (i.toNat * sz+off)=fD P T (c (gx z l i)) off:=by
 obtain⟨hn,_⟩:=WM (z:=z) h0 h1
 have hat:=Kr hc (z:=z) h0 h1
 have hle:i.toNat * sz+sz≤(l.flatMap c).length:=by
  rw[iM hc,← Nat.succ_mul];exact Nat.mul_le_mul_right _ hn
 have Ag:=hc (gx z l i)
 simp only[tZ,fD];unfold tC at hk;cases hi:fP P T with
 | none=>rfl
 | some r =>
   obtain⟨b,k'⟩:=r
   rw[hi] at hk;simp only[Option.map_some,Option.some.injEq] at hk;subst hk;have hg:∀j,j<sz→(l.flatMap c)[i.toNat * sz+j]? = (c (gx z l i))[j]?:=fun j hj=>by
    rw[← hat,List.getElem?_take,if_pos hj,List.getElem?_drop]
   cases b with
   | true =>
     simp only
     have e1:rd (l.flatMap c) (i.toNat * sz+off) k'=rd (c (gx z l i)) off k':=by
      unfold rd;rw[← hat,List.drop_take,List.drop_drop,List.take_take,Nat.min_eq_left (by omega)]
     rw[e1];have l1:k'≤(l.flatMap c).length-(i.toNat * sz+off):=by omega
     have l2:k'≤(c (gx z l i)).length-off:=by omega
     rw[if_pos ⟨uQ,l1⟩,if_pos ⟨uQ,l2⟩]
   | false =>
     simp only
     exact hg off (by omega)
end
theorem aBc (ns:List Node):mM ⟨.sl ns.length (cD ns)⟩=cX ⟨ns⟩:=rfl
theorem AK (s:aO) (l:List Node):dK (aB s) 115 (cX ⟨l⟩) 116=aB { s with tree:=⟨.sl l.length (cD l)⟩}:=Ce s ⟨.sl l.length (cD l)⟩
theorem AL (s:State) (l:List Node):dK (aF s) 115 (cX ⟨l⟩) 116=aF { s with store:={ s.store with tree:=⟨.sl l.length (cD l)⟩} }:=xN s ⟨.sl l.length (cD l)⟩
namespace Tryz
open Go.Proofs
theorem J4 (st:St) (t:fS):fK st (.agg (bY t))=some (.agg (bY t)):=dP (.agg _ (dC t))
theorem KI (st:St) (t:Request):fK st (.agg (bL t))=some (.agg (bL t)):=dP (.agg _ (fQ t))
theorem RN (st:St) (s:aO) (h:Flat (.agg (aB s))):fK st (.agg (aB s))=some (.agg (aB s)):=dP h
theorem RO (st:St) (s:State) (h:Flat (.agg (aF s))):fK st (.agg (aF s))=some (.agg (aF s)):=dP h
theorem FV {T n k off:Nat} {l:List fS} {i:Int} (h0:0≤i) (h1:i<l.length) (hk:tC Tryz.prog T=some k) (uQ:0<k) (ho:off+k≤33):tZ Tryz.prog T (some (.row 41 33 n (zF l))) (i.toNat * 33+off)=fD Tryz.prog T (bY (gx iA l i)) off:=RM bT h0 h1 hk uQ ho
theorem YH {T n k:Nat} {l:List fS} {i:Int} (h0:0≤i) (h1:i<l.length) (hk:tC Tryz.prog T=some k) (uQ:0<k) (ho:k≤33):tZ Tryz.prog T (some (.row 41 33 n (zF l))) (i.toNat * 33)=fD Tryz.prog T (bY (gx iA l i)) 0:=by
 have h:=FV (n:=n) (off:=0) h0 h1 hk uQ (by omega)
 rw[Nat.add_zero] at h;exact h
theorem Nq (l:List fS) (i:Int) (x:fS) (h:i.toNat<l.length):dK (zF l) (i.toNat * 33) (bY x) (i.toNat * 33+33)=zF (l.set i.toNat x):=by
 generalize i.toNat=k at h ⊢
 have:=KH (c:=bY) (sz:=33) bT l k x h
 exact this
theorem RP (st:St) (o:Option (List kS)):aR st (ov cU o)=some ((ol o).length,cU (ol o)):=by cases o<;>rfl
theorem qQ (o:Option (List kS)):Flat (ov cU o):=by
 cases o with
 | none=>exact .v _
 | some l=>exact .sl _ _ (nH l)
theorem aBd (st:St) {l:List kS} {kk:IntKind} {i:Int} (h0:0≤i) (h1:i<l.length):bF Tryz.prog st 37 (.sl l.length (cU l)) (.v (.int kk i))=some (.ip (jS (gx sD l i)) 0):=by
 have hl:i.toNat<l.length:=by omega
 have h2:i.toNat * 34+34≤(l.flatMap jS).length:=by rw[iM rP,← Nat.succ_mul];exact Nat.mul_le_mul_right _ hl
 have h3:((cU l).drop (i.toNat * 34)).take 34=jS (gx sD l i):=Kr rP h0 h1
 have h4:(cU l).length=(l.flatMap jS).length:=rfl
 (simp only[bF,aIh,H4,h0,h1,h4,h2,and_self,if_true,h3])<;>rfl
theorem aIv (st:St) {o:Option (List kS)} {kk:IntKind} {i:Int} (h0:0≤i) (h1:i<(ol o).length):bF Tryz.prog st 37 (ov cU o) (.v (.int kk i))=some (.ip (jS (gx sD (ol o) i)) 0):=by
 cases o with
 | none=>simp[ol] at h1;omega
 | some l=>exact aBd st h0 h1
theorem MB (l:List kS) (h:(l.length:Int)<1000000):xY 100 34 48 (some (l.length,cU l))=some (none,.row 100 34 l.length (cU l)):=by
 unfold xY;simp only
 rw[if_pos ⟨iM rP l,by omega,by simp only[maxLen];omega⟩]
theorem Uz (n:Nat) (l:List kS):jH (some (.row 100 34 n (cU l)))=some (.sl n (cU l)):=by
 unfold jH;simp only;rw[if_pos (nH l)]
theorem ZW {T n k off:Nat} {l:List kS} {i:Int} (h0:0≤i) (h1:i<l.length) (hk:tC Tryz.prog T=some k) (uQ:0<k) (ho:off+k≤34):tZ Tryz.prog T (some (.row 100 34 n (cU l))) (i.toNat * 34+off)=fD Tryz.prog T (jS (gx sD l i)) off:=RM rP h0 h1 hk uQ ho
theorem YJ {T n k:Nat} {l:List kS} {i:Int} (h0:0≤i) (h1:i<l.length) (hk:tC Tryz.prog T=some k) (uQ:0<k) (ho:k≤34):tZ Tryz.prog T (some (.row 100 34 n (cU l))) (i.toNat * 34)=fD Tryz.prog T (jS (gx sD l i)) 0:=by
 have h:=ZW (n:=n) (off:=0) h0 h1 hk uQ (by omega)
 rw[Nat.add_zero] at h;exact h
theorem GA (l:List kS) (i:Int) (x:kS) (h:i.toNat<l.length):dK (cU l) (i.toNat * 34) (jS x) (i.toNat * 34+34)=cU (l.set i.toNat x):=by
 generalize i.toNat=k at h ⊢
 have:=KH (c:=jS) (sz:=34) rP l k x h
 exact this
theorem XI (st:St) (o:Option (List rX)):aR st (ov dG o)=some ((ol o).length,dG (ol o)):=by cases o<;>rfl
theorem Wl (o:Option (List rX)) (h:∀y∈ol o,Flat y.eY):Flat (ov dG o):=by
 cases o with
 | none=>exact .v _
 | some l=>exact .sl _ _ (sT l h)
theorem aBe (st:St) {l:List rX} {kk:IntKind} {i:Int} (h0:0≤i) (h1:i<l.length):bF Tryz.prog st 44 (.sl l.length (dG l)) (.v (.int kk i))=some (.ip (iB (gx Jo l i)) 0):=by
 have hl:i.toNat<l.length:=by omega
 have h2:i.toNat * 67+67≤(l.flatMap iB).length:=by rw[iM iG,← Nat.succ_mul];exact Nat.mul_le_mul_right _ hl
 have h3:((dG l).drop (i.toNat * 67)).take 67=iB (gx Jo l i):=Kr iG h0 h1
 have h4:(dG l).length=(l.flatMap iB).length:=rfl
 (simp only[bF,aM3,aAL,h0,h1,h4,h2,and_self,if_true,h3])<;>rfl
theorem aIw (st:St) {o:Option (List rX)} {kk:IntKind} {i:Int} (h0:0≤i) (h1:i<(ol o).length):bF Tryz.prog st 44 (ov dG o) (.v (.int kk i))=some (.ip (iB (gx Jo (ol o) i)) 0):=by
 cases o with
 | none=>simp[ol] at h1;omega
 | some l=>exact aBe st h0 h1
theorem GS (x:rX):xY 87 67 104 (some (1,iB x))=some (none,.row 87 67 [x].length (dG [x])):=by
 simp[xY,maxLen,dG]
theorem YM (l:List rX) (h:(l.length:Int)<1000000):xY 87 67 104 (some (l.length,dG l))=some (none,.row 87 67 l.length (dG l)):=by
 unfold xY;simp only
 rw[if_pos ⟨iM iG l,by omega,by simp only[maxLen];omega⟩]
theorem Vb (l:List rX) (x:rX) (s g:Nat) (h:(l.length:Int)<1000000):xJ 87 67 104 (some (.row 87 67 l.length (dG l))) s g (some (1,iB x))=some (some (s,g),.row 87 67 (l++[x]).length (dG (l++[x]))):=by
 simp only[xJ];rw[if_pos ⟨by simp,trivial,trivial,by omega,by simp only[maxLen];omega⟩]
 simp[dG,List.flatMap_append]
theorem Q5 (n:Nat) (l:List rX) (h:∀y∈l,Flat y.eY):jH (some (.row 87 67 n (dG l)))=some (.sl n (dG l)):=by
 unfold jH;simp only;rw[if_pos (sT l h)]
theorem KJ (st:St) (o:Option (List Table)):aR st (ov aT o)=some ((ol o).length,aT (ol o)):=by cases o<;>rfl
theorem lX (o:Option (List Table)) (h:∀y∈ol o,Flat y.jN):Flat (ov aT o):=by
 cases o with
 | none=>exact .v _
 | some l=>exact .sl _ _ (lY l h)
theorem nI (st:St) (o:Option (List Table)) (h:∀y∈ol o,Flat y.jN):fK st (ov aT o)=some (ov aT o):=dP (lX o h)
theorem KK (o:Option (List Table)):(ov aT o).jD=true:=by cases o<;>rfl
theorem RQ (o:Option (List Table)):(ov aT o).cells=[ov aT o]:=by cases o<;>rfl
theorem aBf (st:St) {l:List Table} {kk:IntKind} {i:Int} (h0:0≤i) (h1:i<l.length):bF Tryz.prog st 51 (.sl l.length (aT l)) (.v (.int kk i))=some (.ip (cI (gx iW l i)) 0):=by
 have hl:i.toNat<l.length:=by omega
 have h2:i.toNat * 34+34≤(l.flatMap cI).length:=by rw[iM fV,← Nat.succ_mul];exact Nat.mul_le_mul_right _ hl
 have h3:((aT l).drop (i.toNat * 34)).take 34=cI (gx iW l i):=Kr fV h0 h1
 have h4:(aT l).length=(l.flatMap cI).length:=rfl
 (simp only[bF,aM4,KE,h0,h1,h4,h2,and_self,if_true,h3])<;>rfl
theorem aIx (st:St) {o:Option (List Table)} {kk:IntKind} {i:Int} (h0:0≤i) (h1:i<(ol o).length):bF Tryz.prog st 51 (ov aT o) (.v (.int kk i))=some (.ip (cI (gx iW (ol o) i)) 0):=by
 cases o with
 | none=>simp[ol] at h1;omega
 | some l=>exact aBf st h0 h1
theorem EK (x:Table):xY 118 34 64 (some (1,cI x))=some (none,.row 118 34 [x].length (aT [x])):=by
 simp[xY,maxLen,aT]
theorem DX (l:List Table) (h:(l.length:Int)<1000000):xY 118 34 64 (some (l.length,aT l))=some (none,.row 118 34 l.length (aT l)):=by
 unfold xY;simp only
 rw[if_pos ⟨iM fV l,by omega,by simp only[maxLen];omega⟩]
theorem Qp (l:List Table) (x:Table) (s g:Nat) (h:(l.length:Int)<1000000):xJ 118 34 64 (some (.row 118 34 l.length (aT l))) s g (some (1,cI x))=some (some (s,g),.row 118 34 (l++[x]).length (aT (l++[x]))):=by
 simp only[xJ];rw[if_pos ⟨by simp,trivial,trivial,by omega,by simp only[maxLen];omega⟩]
 simp[aT,List.flatMap_append]
theorem DY (l m:List Table) (s g:Nat) (h:(l.length:Int)<1000000) (h2:(m.length:Int)<1000000):xJ 118 34 64 (some (.row 118 34 l.length (aT l))) s g (some (m.length,aT m))=some (some (s,g),.row 118 34 (l++m).length (aT (l++m))):=by
 simp only[xJ];rw[if_pos ⟨iM fV m,trivial,trivial,by omega,by simp only[maxLen];omega⟩]
 simp[aT,List.flatMap_append]
theorem Ns (n:Nat) (l:List Table) (h:∀y∈l,Flat y.jN):jH (some (.row 118 34 n (aT l)))=some (.sl n (aT l)):=by
 unfold jH;simp only;rw[if_pos (lY l h)]
theorem aNB (st:St) (o:Option (List Table)) (hi:Operand):cW Tryz.prog st 51 (ov aT o) none (some hi)=Kx (st.ev hi) (fun j=>if 0≤j∧j≤(ol o).length then some (ov aT (o.map (·.take j.toNat))) else cW Tryz.prog st 51 (ov aT o) none (some hi)) (cW Tryz.prog st 51 (ov aT o) none (some hi)):=by
 unfold Kx;split
 ·rename_i j hj;dsimp only
  split
  ·rename_i hc;obtain⟨j0,j1⟩:=hc
   cases o with
   | none =>
     have:j=0:=by simp[ol] at j1;omega
     subst this;simp[cW,KE,ov,hj]
   | some l =>
     have j1:j≤l.length:=j1
     have hn:j.toNat≤l.length:=by omega
     simp only[cW,KE,ov,hj];rw[if_pos ⟨Int.le_refl _,j0,j1,iM fV l⟩];simp only[Int.toNat_zero,Nat.zero_mul,List.drop_zero,Int.sub_zero,Option.map_some];rw[show (aT l).take (j.toNat * 34)=aT (l.take j.toNat) from vZ fV l j.toNat,List.length_take,Nat.min_eq_left hn]
  ·rfl
 ·rfl
theorem aEc (st:St) (o:Option (List Table)) (lo:Operand):cW Tryz.prog st 51 (ov aT o) (some lo) none=Kx (st.ev lo) (fun j=>if 0≤j∧j≤(ol o).length then some (ov aT (o.map (·.drop j.toNat))) else cW Tryz.prog st 51 (ov aT o) (some lo) none) (cW Tryz.prog st 51 (ov aT o) (some lo) none):=by
 unfold Kx;split
 ·rename_i j hj;dsimp only
  split
  ·rename_i hc;obtain⟨j0,j1⟩:=hc
   cases o with
   | none =>
     have:j=0:=by simp[ol] at j1;omega
     subst this;simp[cW,KE,ov,hj]
   | some l =>
     have j1:j≤l.length:=j1
     have hn:j.toNat≤l.length:=by omega
     have e1:((l.length:Int)-j).toNat=l.length-j.toNat:=by omega
     simp only[cW,KE,ov,hj];rw[if_pos ⟨j0,j1,Int.le_refl _,iM fV l⟩];simp only[Option.map_some,e1];rw[show (aT l).drop (j.toNat * 34)=aT (l.drop j.toNat) from xU fV l j.toNat,List.length_drop,List.take_of_length_le];rw[show aT (l.drop j.toNat)=(l.drop j.toNat).flatMap cI from rfl,iM fV,List.length_drop];exact Nat.le_refl _
  ·rfl
 ·rfl
theorem KL (st:St) (o:Option (List Block)):aR st (ov aH o)=some ((ol o).length,aH (ol o)):=by cases o<;>rfl
theorem Ek (o:Option (List Block)):Flat (ov aH o):=by
 cases o with
 | none=>exact .v _
 | some l=>exact .sl _ _ (pB l)
theorem aBg (st:St) {l:List Block} {kk:IntKind} {i:Int} (h0:0≤i) (h1:i<l.length):bF Tryz.prog st 45 (.sl l.length (aH l)) (.v (.int kk i))=some (.ip (aU (gx fC l i)) 0):=by
 have hl:i.toNat<l.length:=by omega
 have h2:i.toNat * 238+238≤(l.flatMap aU).length:=by rw[iM bQ,← Nat.succ_mul];exact Nat.mul_le_mul_right _ hl
 have h3:((aH l).drop (i.toNat * 238)).take 238=aU (gx fC l i):=Kr bQ h0 h1
 have h4:(aH l).length=(l.flatMap aU).length:=rfl
 (simp only[bF,aIi,oR,h0,h1,h4,h2,and_self,if_true,h3])<;>rfl
theorem aIy (st:St) {o:Option (List Block)} {kk:IntKind} {i:Int} (h0:0≤i) (h1:i<(ol o).length):bF Tryz.prog st 45 (ov aH o) (.v (.int kk i))=some (.ip (aU (gx fC (ol o) i)) 0):=by
 cases o with
 | none=>simp[ol] at h1;omega
 | some l=>exact aBg st h0 h1
theorem J5 (x:Block):xY 74 238 336 (some (1,aU x))=some (none,.row 74 238 [x].length (aH [x])):=by
 simp[xY,maxLen,aH]
theorem iS (l:List Block) (h:(l.length:Int)<1000000):xY 74 238 336 (some (l.length,aH l))=some (none,.row 74 238 l.length (aH l)):=by
 unfold xY;simp only
 rw[if_pos ⟨iM bQ l,by omega,by simp only[maxLen];omega⟩]
theorem EI (l:List Block) (x:Block) (s g:Nat) (h:(l.length:Int)<1000000):xJ 74 238 336 (some (.row 74 238 l.length (aH l))) s g (some (1,aU x))=some (some (s,g),.row 74 238 (l++[x]).length (aH (l++[x]))):=by
 simp only[xJ];rw[if_pos ⟨by simp,trivial,trivial,by omega,by simp only[maxLen];omega⟩]
 simp[aH,List.flatMap_append]
theorem rM (l m:List Block) (s g:Nat) (h:(l.length:Int)<1000000) (h2:(m.length:Int)<1000000):xJ 74 238 336 (some (.row 74 238 l.length (aH l))) s g (some (m.length,aH m))=some (some (s,g),.row 74 238 (l++m).length (aH (l++m))):=by
 simp only[xJ];rw[if_pos ⟨iM bQ m,trivial,trivial,by omega,by simp only[maxLen];omega⟩]
 simp[aH,List.flatMap_append]
theorem uA (n:Nat) (l:List Block):jH (some (.row 74 238 n (aH l)))=some (.sl n (aH l)):=by
 unfold jH;simp only;rw[if_pos (pB l)]
theorem RR {T n k off:Nat} {l:List Block} {i:Int} (h0:0≤i) (h1:i<l.length) (hk:tC Tryz.prog T=some k) (uQ:0<k) (ho:off+k≤238):tZ Tryz.prog T (some (.row 74 238 n (aH l))) (i.toNat * 238+off)=fD Tryz.prog T (aU (gx fC l i)) off:=RM bQ h0 h1 hk uQ ho
theorem zL {T n k:Nat} {l:List Block} {i:Int} (h0:0≤i) (h1:i<l.length) (hk:tC Tryz.prog T=some k) (uQ:0<k) (ho:k≤238):tZ Tryz.prog T (some (.row 74 238 n (aH l))) (i.toNat * 238)=fD Tryz.prog T (aU (gx fC l i)) 0:=by
 have h:=RR (n:=n) (off:=0) h0 h1 hk uQ (by omega)
 rw[Nat.add_zero] at h;exact h
theorem aNC (st:St) (o:Option (List Block)) (hi:Operand):cW Tryz.prog st 45 (ov aH o) none (some hi)=Kx (st.ev hi) (fun j=>if 0≤j∧j≤(ol o).length then some (ov aH (o.map (·.take j.toNat))) else cW Tryz.prog st 45 (ov aH o) none (some hi)) (cW Tryz.prog st 45 (ov aH o) none (some hi)):=by
 unfold Kx;split
 ·rename_i j hj;dsimp only
  split
  ·rename_i hc;obtain⟨j0,j1⟩:=hc
   cases o with
   | none =>
     have:j=0:=by simp[ol] at j1;omega
     subst this;simp[cW,oR,ov,hj]
   | some l =>
     have j1:j≤l.length:=j1
     have hn:j.toNat≤l.length:=by omega
     simp only[cW,oR,ov,hj];rw[if_pos ⟨Int.le_refl _,j0,j1,iM bQ l⟩];simp only[Int.toNat_zero,Nat.zero_mul,List.drop_zero,Int.sub_zero,Option.map_some];rw[show (aH l).take (j.toNat * 238)=aH (l.take j.toNat) from vZ bQ l j.toNat,List.length_take,Nat.min_eq_left hn]
  ·rfl
 ·rfl
theorem aEd (st:St) (o:Option (List Block)) (lo:Operand):cW Tryz.prog st 45 (ov aH o) (some lo) none=Kx (st.ev lo) (fun j=>if 0≤j∧j≤(ol o).length then some (ov aH (o.map (·.drop j.toNat))) else cW Tryz.prog st 45 (ov aH o) (some lo) none) (cW Tryz.prog st 45 (ov aH o) (some lo) none):=by
 unfold Kx;split
 ·rename_i j hj;dsimp only
  split
  ·rename_i hc;obtain⟨j0,j1⟩:=hc
   cases o with
   | none =>
     have:j=0:=by simp[ol] at j1;omega
     subst this;simp[cW,oR,ov,hj]
   | some l =>
     have j1:j≤l.length:=j1
     have hn:j.toNat≤l.length:=by omega
     have e1:((l.length:Int)-j).toNat=l.length-j.toNat:=by omega
     simp only[cW,oR,ov,hj];rw[if_pos ⟨j0,j1,Int.le_refl _,iM bQ l⟩];simp only[Option.map_some,e1];rw[show (aH l).drop (j.toNat * 238)=aH (l.drop j.toNat) from xU bQ l j.toNat,List.length_drop,List.take_of_length_le];rw[show aH (l.drop j.toNat)=(l.drop j.toNat).flatMap aU from rfl,iM bQ,List.length_drop];exact Nat.le_refl _
  ·rfl
 ·rfl
theorem AM (st:St) (o:Option (List Request)):aR st (ov aA o)=some ((ol o).length,aA (ol o)):=by cases o<;>rfl
theorem cH (o:Option (List Request)):Flat (ov aA o):=by
 cases o with
 | none=>exact .v _
 | some l=>exact .sl _ _ (dX l)
theorem AN (st:St) (o:Option (List Request)):fK st (ov aA o)=some (ov aA o):=dP (cH o)
theorem aBh (st:St) {l:List Request} {kk:IntKind} {i:Int} (h0:0≤i) (h1:i<l.length):bF Tryz.prog st 54 (.sl l.length (aA l)) (.v (.int kk i))=some (.ip (bL (gx bN l i)) 0):=by
 have hl:i.toNat<l.length:=by omega
 have h2:i.toNat * 35+35≤(l.flatMap bL).length:=by rw[iM fO,← Nat.succ_mul];exact Nat.mul_le_mul_right _ hl
 have h3:((aA l).drop (i.toNat * 35)).take 35=bL (gx bN l i):=Kr fO h0 h1
 have h4:(aA l).length=(l.flatMap bL).length:=rfl
 (simp only[bF,aIk,xX,h0,h1,h4,h2,and_self,if_true,h3])<;>rfl
theorem aIz (st:St) {o:Option (List Request)} {kk:IntKind} {i:Int} (h0:0≤i) (h1:i<(ol o).length):bF Tryz.prog st 54 (ov aA o) (.v (.int kk i))=some (.ip (bL (gx bN (ol o) i)) 0):=by
 cases o with
 | none=>simp[ol] at h1;omega
 | some l=>exact aBh st h0 h1
theorem RS (x:Request):xY 63 35 56 (some (1,bL x))=some (none,.row 63 35 [x].length (aA [x])):=by
 simp[xY,maxLen,aA]
theorem qV (l:List Request) (h:(l.length:Int)<1000000):xY 63 35 56 (some (l.length,aA l))=some (none,.row 63 35 l.length (aA l)):=by
 unfold xY;simp only
 rw[if_pos ⟨iM fO l,by omega,by simp only[maxLen];omega⟩]
theorem tF (l:List Request) (x:Request) (s g:Nat) (h:(l.length:Int)<1000000):xJ 63 35 56 (some (.row 63 35 l.length (aA l))) s g (some (1,bL x))=some (some (s,g),.row 63 35 (l++[x]).length (aA (l++[x]))):=by
 simp only[xJ];rw[if_pos ⟨by simp,trivial,trivial,by omega,by simp only[maxLen];omega⟩]
 simp[aA,List.flatMap_append]
theorem Sy (l m:List Request) (s g:Nat) (h:(l.length:Int)<1000000) (h2:(m.length:Int)<1000000):xJ 63 35 56 (some (.row 63 35 l.length (aA l))) s g (some (m.length,aA m))=some (some (s,g),.row 63 35 (l++m).length (aA (l++m))):=by
 simp only[xJ];rw[if_pos ⟨iM fO m,trivial,trivial,by omega,by simp only[maxLen];omega⟩]
 simp[aA,List.flatMap_append]
theorem pF (n:Nat) (l:List Request):jH (some (.row 63 35 n (aA l)))=some (.sl n (aA l)):=by
 unfold jH;simp only;rw[if_pos (dX l)]
theorem Es {T n k off:Nat} {l:List Request} {i:Int} (h0:0≤i) (h1:i<l.length) (hk:tC Tryz.prog T=some k) (uQ:0<k) (ho:off+k≤35):tZ Tryz.prog T (some (.row 63 35 n (aA l))) (i.toNat * 35+off)=fD Tryz.prog T (bL (gx bN l i)) off:=RM fO h0 h1 hk uQ ho
theorem vQ {T n k:Nat} {l:List Request} {i:Int} (h0:0≤i) (h1:i<l.length) (hk:tC Tryz.prog T=some k) (uQ:0<k) (ho:k≤35):tZ Tryz.prog T (some (.row 63 35 n (aA l))) (i.toNat * 35)=fD Tryz.prog T (bL (gx bN l i)) 0:=by
 have h:=Es (n:=n) (off:=0) h0 h1 hk uQ (by omega)
 rw[Nat.add_zero] at h;exact h
theorem Ln (l:List Request) (i:Int) (x:Request) (h:i.toNat<l.length):dK (aA l) (i.toNat * 35) (bL x) (i.toNat * 35+35)=aA (l.set i.toNat x):=by
 generalize i.toNat=k at h ⊢
 have:=KH (c:=bL) (sz:=35) fO l k x h
 exact this
theorem aND (st:St) (o:Option (List Request)) (hi:Operand):cW Tryz.prog st 54 (ov aA o) none (some hi)=Kx (st.ev hi) (fun j=>if 0≤j∧j≤(ol o).length then some (ov aA (o.map (·.take j.toNat))) else cW Tryz.prog st 54 (ov aA o) none (some hi)) (cW Tryz.prog st 54 (ov aA o) none (some hi)):=by
 unfold Kx;split
 ·rename_i j hj;dsimp only
  split
  ·rename_i hc;obtain⟨j0,j1⟩:=hc
   cases o with
   | none =>
     have:j=0:=by simp[ol] at j1;omega
     subst this;simp[cW,xX,ov,hj]
   | some l =>
     have j1:j≤l.length:=j1
     have hn:j.toNat≤l.length:=by omega
     simp only[cW,xX,ov,hj];rw[if_pos ⟨Int.le_refl _,j0,j1,iM fO l⟩];simp only[Int.toNat_zero,Nat.zero_mul,List.drop_zero,Int.sub_zero,Option.map_some];rw[show (aA l).take (j.toNat * 35)=aA (l.take j.toNat) from vZ fO l j.toNat,List.length_take,Nat.min_eq_left hn]
  ·rfl
 ·rfl
theorem aEe (st:St) (o:Option (List Request)) (lo:Operand):cW Tryz.prog st 54 (ov aA o) (some lo) none=Kx (st.ev lo) (fun j=>if 0≤j∧j≤(ol o).length then some (ov aA (o.map (·.drop j.toNat))) else cW Tryz.prog st 54 (ov aA o) (some lo) none) (cW Tryz.prog st 54 (ov aA o) (some lo) none):=by
 unfold Kx;split
 ·rename_i j hj;dsimp only
  split
  ·rename_i hc;obtain⟨j0,j1⟩:=hc
   cases o with
   | none =>
     have:j=0:=by simp[ol] at j1;omega
     subst this;simp[cW,xX,ov,hj]
   | some l =>
     have j1:j≤l.length:=j1
     have hn:j.toNat≤l.length:=by omega
     have e1:((l.length:Int)-j).toNat=l.length-j.toNat:=by omega
     simp only[cW,xX,ov,hj];rw[if_pos ⟨j0,j1,Int.le_refl _,iM fO l⟩];simp only[Option.map_some,e1];rw[show (aA l).drop (j.toNat * 35)=aA (l.drop j.toNat) from xU fO l j.toNat,List.length_drop,List.take_of_length_le];rw[show aA (l.drop j.toNat)=(l.drop j.toNat).flatMap bL from rfl,iM fO,List.length_drop];exact Nat.le_refl _
  ·rfl
 ·rfl
theorem RT (st:St) (o:Option (List cK)):aR st (ov gM o)=some ((ol o).length,gM (ol o)):=by cases o<;>rfl
theorem Hg (o:Option (List cK)):Flat (ov gM o):=by
 cases o with
 | none=>exact .v _
 | some l=>exact .sl _ _ (Tl l)
theorem aBi (st:St) {l:List cK} {kk:IntKind} {i:Int} (h0:0≤i) (h1:i<l.length):bF Tryz.prog st 70 (.sl l.length (gM l)) (.v (.int kk i))=some (.ip (aX (gx dL l i)) 0):=by
 have hl:i.toNat<l.length:=by omega
 have h2:i.toNat * 32+32≤(l.flatMap aX).length:=by rw[iM aM,← Nat.succ_mul];exact Nat.mul_le_mul_right _ hl
 have h3:((gM l).drop (i.toNat * 32)).take 32=aX (gx dL l i):=Kr aM h0 h1
 have h4:(gM l).length=(l.flatMap aX).length:=rfl
 (simp only[bF,aM5,aDJ,h0,h1,h4,h2,and_self,if_true,h3])<;>rfl
theorem aIA (st:St) {o:Option (List cK)} {kk:IntKind} {i:Int} (h0:0≤i) (h1:i<(ol o).length):bF Tryz.prog st 70 (ov gM o) (.v (.int kk i))=some (.ip (aX (gx dL (ol o) i)) 0):=by
 cases o with
 | none=>simp[ol] at h1;omega
 | some l=>exact aBi st h0 h1
theorem oK (l:List cK) (x:cK) (s g:Nat) (h:(l.length:Int)<1000000):xJ 27 32 32 (some (.row 27 32 l.length (gM l))) s g (some (1,aX x))=some (some (s,g),.row 27 32 (l++[x]).length (gM (l++[x]))):=by
 simp only[xJ];rw[if_pos ⟨by simp,trivial,trivial,by omega,by simp only[maxLen];omega⟩]
 simp[gM,List.flatMap_append]
theorem wA (n:Nat) (l:List cK):jH (some (.row 27 32 n (gM l)))=some (.sl n (gM l)):=by
 unfold jH;simp only;rw[if_pos (Tl l)]
theorem aEf (st:St) {l:List Bool} {kk:IntKind} {i:Int} (h0:0≤i) (h1:i<l.length):bF Tryz.prog st 262 (.sl l.length (mX l)) (.v (.int kk i))=some (.ip ([.v (.bool (gx false l i))]) 0):=by
 have hl:i.toNat<l.length:=by omega
 have h2:i.toNat * 1+1≤(l.flatMap tJ).length:=by rw[iM gX,← Nat.succ_mul];exact Nat.mul_le_mul_right _ hl
 have h3:((mX l).drop (i.toNat * 1)).take 1=tJ (gx false l i):=Kr gX h0 h1
 have h4:(mX l).length=(l.flatMap tJ).length:=rfl
 (simp only[bF,aFp,RE,h0,h1,h4,h2,and_self,if_true,h3])<;>rfl
theorem aBj (x:Bool):xY 4 1 1 (some (1,[.v (.bool x)]))=some (none,.row 4 1 [x].length (mX [x])):=by
 simp[xY,maxLen,mX,tJ]
theorem MF (l:List Bool) (x:Bool) (s g:Nat) (h:(l.length:Int)<1000000):xJ 4 1 1 (some (.row 4 1 l.length (mX l))) s g (some (1,[.v (.bool x)]))=some (some (s,g),.row 4 1 (l++[x]).length (mX (l++[x]))):=by
 simp only[xJ];rw[if_pos ⟨by simp,trivial,trivial,by omega,by simp only[maxLen];omega⟩]
 simp[mX,List.flatMap_append,tJ]
theorem YN (n:Nat) (l:List Bool):jH (some (.row 4 1 n (mX l)))=some (.sl n (mX l)):=by
 unfold jH;simp only;rw[if_pos (Sw l)]
theorem yL (o:Option (List Int)):Flat (ov kF o):=by
 cases o with
 | none=>exact .v _
 | some l=>exact .sl _ _ (vM l)
theorem rK (st:St) (o:Option (List Int)):fK st (ov kF o)=some (ov kF o):=dP (yL o)
theorem UA (x:Int):xY 5 1 1 (some (1,[.v (.int .u8 x)]))=some (none,.row 5 1 [x].length (kF [x])):=by
 simp[xY,maxLen,kF,cU8]
theorem Lh (l:List Int) (x:Int) (s g:Nat) (h:(l.length:Int)<1000000):xJ 5 1 1 (some (.row 5 1 l.length (kF l))) s g (some (1,[.v (.int .u8 x)]))=some (some (s,g),.row 5 1 (l++[x]).length (kF (l++[x]))):=by
 simp only[xJ];rw[if_pos ⟨by simp,trivial,trivial,by omega,by simp only[maxLen];omega⟩]
 simp[kF,List.flatMap_append,cU8]
theorem UB (l m:List Int) (s g:Nat) (h:(l.length:Int)<1000000) (h2:(m.length:Int)<1000000):xJ 5 1 1 (some (.row 5 1 l.length (kF l))) s g (some (m.length,kF m))=some (some (s,g),.row 5 1 (l++m).length (kF (l++m))):=by
 simp only[xJ];rw[if_pos ⟨iM aEb m,trivial,trivial,by omega,by simp only[maxLen];omega⟩]
 simp[kF,List.flatMap_append]
theorem Cw (n:Nat) (l:List Int):jH (some (.row 5 1 n (kF l)))=some (.sl n (kF l)):=by
 unfold jH;simp only;rw[if_pos (vM l)]
theorem XJ (st:St) (o:Option (List Int)):aR st (ov aJ o)=some ((ol o).length,aJ (ol o)):=by cases o<;>rfl
theorem bS (o:Option (List Int)):Flat (ov aJ o):=by
 cases o with
 | none=>exact .v _
 | some l=>exact .sl _ _ (gF l)
theorem Er (st:St) (o:Option (List Int)):fK st (ov aJ o)=some (ov aJ o):=dP (bS o)
theorem XK (o:Option (List Int)):(ov aJ o).jD=true:=by cases o<;>rfl
theorem J6 (o:Option (List Int)):(ov aJ o).cells=[ov aJ o]:=by cases o<;>rfl
theorem aBk (st:St) {l:List Int} {kk:IntKind} {i:Int} (h0:0≤i) (h1:i<l.length):bF Tryz.prog st 22 (.sl l.length (aJ l)) (.v (.int kk i))=some (.ip ([.v (.int .i64 (gx (0:Int) l i))]) 0):=by
 have hl:i.toNat<l.length:=by omega
 have h2:i.toNat * 1+1≤(l.flatMap pV).length:=by rw[iM bC,← Nat.succ_mul];exact Nat.mul_le_mul_right _ hl
 have h3:((aJ l).drop (i.toNat * 1)).take 1=pV (gx (0:Int) l i):=Kr bC h0 h1
 have h4:(aJ l).length=(l.flatMap pV).length:=rfl
 (simp only[bF,aDI,Kw,h0,h1,h4,h2,and_self,if_true,h3])<;>rfl
theorem aIB (st:St) {o:Option (List Int)} {kk:IntKind} {i:Int} (h0:0≤i) (h1:i<(ol o).length):bF Tryz.prog st 22 (ov aJ o) (.v (.int kk i))=some (.ip ([.v (.int .i64 (gx (0:Int) (ol o) i))]) 0):=by
 cases o with
 | none=>simp[ol] at h1;omega
 | some l=>exact aBk st h0 h1
theorem Nv (l:List Int) (h:(l.length:Int)<1000000):xY 3 1 8 (some (l.length,aJ l))=some (none,.row 3 1 l.length (aJ l)):=by
 unfold xY;simp only
 rw[if_pos ⟨iM bC l,by omega,by simp only[maxLen];omega⟩]
theorem Ep (l:List Int) (x:Int) (s g:Nat) (h:(l.length:Int)<1000000):xJ 3 1 8 (some (.row 3 1 l.length (aJ l))) s g (some (1,[.v (.int .i64 x)]))=some (some (s,g),.row 3 1 (l++[x]).length (aJ (l++[x]))):=by
 simp only[xJ];rw[if_pos ⟨by simp,trivial,trivial,by omega,by simp only[maxLen];omega⟩]
 simp[aJ,List.flatMap_append,pV]
theorem GD (l m:List Int) (s g:Nat) (h:(l.length:Int)<1000000) (h2:(m.length:Int)<1000000):xJ 3 1 8 (some (.row 3 1 l.length (aJ l))) s g (some (m.length,aJ m))=some (some (s,g),.row 3 1 (l++m).length (aJ (l++m))):=by
 simp only[xJ];rw[if_pos ⟨iM bC m,trivial,trivial,by omega,by simp only[maxLen];omega⟩]
 simp[aJ,List.flatMap_append]
theorem jV (n:Nat) (l:List Int):jH (some (.row 3 1 n (aJ l)))=some (.sl n (aJ l)):=by
 unfold jH;simp only;rw[if_pos (gF l)]
theorem aNE (st:St) (o:Option (List Int)) (hi:Operand):cW Tryz.prog st 22 (ov aJ o) none (some hi)=Kx (st.ev hi) (fun j=>if 0≤j∧j≤(ol o).length then some (ov aJ (o.map (·.take j.toNat))) else cW Tryz.prog st 22 (ov aJ o) none (some hi)) (cW Tryz.prog st 22 (ov aJ o) none (some hi)):=by
 unfold Kx;split
 ·rename_i j hj;dsimp only
  split
  ·rename_i hc;obtain⟨j0,j1⟩:=hc
   cases o with
   | none =>
     have:j=0:=by simp[ol] at j1;omega
     subst this;simp[cW,Kw,ov,hj]
   | some l =>
     have j1:j≤l.length:=j1
     have hn:j.toNat≤l.length:=by omega
     simp only[cW,Kw,ov,hj];rw[if_pos ⟨Int.le_refl _,j0,j1,iM bC l⟩];simp only[Int.toNat_zero,Nat.zero_mul,List.drop_zero,Int.sub_zero,Option.map_some];rw[show (aJ l).take (j.toNat * 1)=aJ (l.take j.toNat) from vZ bC l j.toNat,List.length_take,Nat.min_eq_left hn]
  ·rfl
 ·rfl
theorem aEg (st:St) (o:Option (List Int)) (lo:Operand):cW Tryz.prog st 22 (ov aJ o) (some lo) none=Kx (st.ev lo) (fun j=>if 0≤j∧j≤(ol o).length then some (ov aJ (o.map (·.drop j.toNat))) else cW Tryz.prog st 22 (ov aJ o) (some lo) none) (cW Tryz.prog st 22 (ov aJ o) (some lo) none):=by
 unfold Kx;split
 ·rename_i j hj;dsimp only
  split
  ·rename_i hc;obtain⟨j0,j1⟩:=hc
   cases o with
   | none =>
     have:j=0:=by simp[ol] at j1;omega
     subst this;simp[cW,Kw,ov,hj]
   | some l =>
     have j1:j≤l.length:=j1
     have hn:j.toNat≤l.length:=by omega
     have e1:((l.length:Int)-j).toNat=l.length-j.toNat:=by omega
     simp only[cW,Kw,ov,hj];rw[if_pos ⟨j0,j1,Int.le_refl _,iM bC l⟩];simp only[Option.map_some,e1];rw[show (aJ l).drop (j.toNat * 1)=aJ (l.drop j.toNat) from xU bC l j.toNat,List.length_drop,List.take_of_length_le];rw[show aJ (l.drop j.toNat)=(l.drop j.toNat).flatMap pV from rfl,iM bC,List.length_drop];exact Nat.le_refl _
  ·rfl
 ·rfl
theorem XL (st:St) (o:Option (List Int)):aR st (ov bD o)=some ((ol o).length,bD (ol o)):=by cases o<;>rfl
theorem dR (o:Option (List Int)):Flat (ov bD o):=by
 cases o with
 | none=>exact .v _
 | some l=>exact .sl _ _ (iE l)
theorem XM (o:Option (List Int)):(ov bD o).jD=true:=by cases o<;>rfl
theorem J7 (o:Option (List Int)):(ov bD o).cells=[ov bD o]:=by cases o<;>rfl
theorem aBl (st:St) {l:List Int} {kk:IntKind} {i:Int} (h0:0≤i) (h1:i<l.length):bF Tryz.prog st 34 (.sl l.length (bD l)) (.v (.int kk i))=some (.ip ([.v (.int .u64 (gx (0:Int) l i))]) 0):=by
 have hl:i.toNat<l.length:=by omega
 have h2:i.toNat * 1+1≤(l.flatMap sF).length:=by rw[iM aW,← Nat.succ_mul];exact Nat.mul_le_mul_right _ hl
 have h3:((bD l).drop (i.toNat * 1)).take 1=sF (gx (0:Int) l i):=Kr aW h0 h1
 have h4:(bD l).length=(l.flatMap sF).length:=rfl
 (simp only[bF,aIg,XC,h0,h1,h4,h2,and_self,if_true,h3])<;>rfl
theorem aIC (st:St) {o:Option (List Int)} {kk:IntKind} {i:Int} (h0:0≤i) (h1:i<(ol o).length):bF Tryz.prog st 34 (ov bD o) (.v (.int kk i))=some (.ip ([.v (.int .u64 (gx (0:Int) (ol o) i))]) 0):=by
 cases o with
 | none=>simp[ol] at h1;omega
 | some l=>exact aBl st h0 h1
theorem aEh (x:Int):xY 23 1 8 (some (1,[.v (.int .u64 x)]))=some (none,.row 23 1 [x].length (bD [x])):=by
 simp[xY,maxLen,bD,sF]
theorem Eo (l:List Int) (h:(l.length:Int)<1000000):xY 23 1 8 (some (l.length,bD l))=some (none,.row 23 1 l.length (bD l)):=by
 unfold xY;simp only
 rw[if_pos ⟨iM aW l,by omega,by simp only[maxLen];omega⟩]
theorem xV (l:List Int) (x:Int) (s g:Nat) (h:(l.length:Int)<1000000):xJ 23 1 8 (some (.row 23 1 l.length (bD l))) s g (some (1,[.v (.int .u64 x)]))=some (some (s,g),.row 23 1 (l++[x]).length (bD (l++[x]))):=by
 simp only[xJ];rw[if_pos ⟨by simp,trivial,trivial,by omega,by simp only[maxLen];omega⟩]
 simp[bD,List.flatMap_append,sF]
theorem vI (n:Nat) (l:List Int):jH (some (.row 23 1 n (bD l)))=some (.sl n (bD l)):=by
 unfold jH;simp only;rw[if_pos (iE l)]
theorem aBm {T n k off:Nat} {l:List Int} {i:Int} (h0:0≤i) (h1:i<l.length) (hk:tC Tryz.prog T=some k) (uQ:0<k) (ho:off+k≤1):tZ Tryz.prog T (some (.row 23 1 n (bD l))) (i.toNat * 1+off)=fD Tryz.prog T ([.v (.int .u64 (gx (0:Int) l i))]) off:=RM aW h0 h1 hk uQ ho
theorem O3 {T n k:Nat} {l:List Int} {i:Int} (h0:0≤i) (h1:i<l.length) (hk:tC Tryz.prog T=some k) (uQ:0<k) (ho:k≤1):tZ Tryz.prog T (some (.row 23 1 n (bD l))) (i.toNat * 1)=fD Tryz.prog T ([.v (.int .u64 (gx (0:Int) l i))]) 0:=by
 have h:=aBm (n:=n) (off:=0) h0 h1 hk uQ (by omega)
 rw[Nat.add_zero] at h;exact h
theorem O2 (l:List Int) (i:Int) (x:Int) (h:i.toNat<l.length):dK (bD l) (i.toNat * 1) ([.v (.int .u64 x)]) (i.toNat * 1+1)=bD (l.set i.toNat x):=by
 generalize i.toNat=k at h ⊢
 have:=KH (c:=sF) (sz:=1) aW l k x h
 exact this
end Tryz
end Go.Ab
end
section
namespace Go.Ab.Tryz
open Classical Go.Proofs Go.Ab
theorem aj {a b:Prop} (x:a) (y:b):a∧b:=⟨x,y⟩
def EN:=aj (aj (aj (aj (aj (aj (aj @cZ (aj @MH @mZ)) (aj @Z0 (aj @E4 @VN))) (aj (aj @F7 (aj @decide_true @decide_false)) (aj (aj @Int.cast_ofNat_Int @Bool.not_true) (aj @Bool.not_false @Bool.false_eq_true)))) (aj (aj (aj @Bool.true_eq_false (aj @aCW @aCX)) (aj @aCY (aj @aCZ @aC0))) (aj (aj @aC1 (aj @aC2 @aC3)) (aj (aj @aC4 @aC5) (aj @aC8 @aC9))))) (aj (aj (aj (aj @aC6 (aj @aC7 @not_false_eq_true)) (aj @ne_eq.{1} (aj @aAk @F6))) (aj (aj @VX (aj @VY @Option.bind_some.{0,0})) (aj (aj @aCM @E5) (aj @aCN @Z1)))) (aj (aj (aj @aCO (aj @VO @IG)) (aj @II (aj @aCP @VQ))) (aj (aj @Z3 (aj @Z4 @Z5)) (aj (aj @aGM @Z6) (aj @aAN @Bool.or_false)))))) (aj (aj (aj (aj (aj @Bool.false_or (aj @Bool.false_and @Bool.or_true)) (aj @aCR (aj @aDM @E6))) (aj (aj @E7 (aj @VS @IJ)) (aj (aj @OY @vJ) (aj @RK @I6)))) (aj (aj (aj @I7 (aj @aDR @aAY)) (aj @pD (aj @H8 @H9))) (aj (aj @XE (aj @RH @Option.map_some.{0,0})) (aj (aj @Ld @Iw) (aj @Qt @Lj))))) (aj (aj (aj (aj @aAQ (aj @aAR @aDN)) (aj @gL (aj @bP @aA1))) (aj (aj @aA2 (aj @DA @J0)) (aj (aj @aDQ @I0) (aj @I1 @aDc)))) (aj (aj (aj @aAm (aj @aDd @aDa)) (aj (aj @I2 @I3) (aj @I4 @I5))) (aj (aj @aAX (aj @I8 @aDS)) (aj (aj @aDO @aDP) (aj @aAS @aAT))))))) (aj (aj (aj (aj (aj (aj @aAU (aj @aAV @aAW)) (aj @F1 (aj @IM @aDK))) (aj (aj @aAM (aj @aNx @aEq)) (aj (aj @aAc @aGO) (aj @aCS @IL)))) (aj (aj (aj @aCT (aj @aAd @aCU)) (aj @aCV (aj @aAe
 @Xw))) (aj (aj @Xx (aj @yP @aAf)) (aj (aj @aAg @E9) (aj @aAh @OZ))))) (aj (aj (aj (aj @F0 (aj @List.toList_toArray.{0} @List.map_cons.{0,0})) (aj @List.map_nil.{0,0} (aj @aCL @VM))) (aj (aj @E3 (aj @Y6 @Y7)) (aj (aj @aCK @IN) (aj @F9 @VZ)))) (aj (aj (aj @List.getElem?_cons_zero.{0} (aj @List.getElem?_cons_succ.{0} @List.getElem?_nil.{0})) (aj @Option.getD_some.{0} (aj @Option.getD_none.{0} @and_true))) (aj (aj @true_and (aj @and_self @false_and)) (aj (aj @and_false @if_true.{1}) (aj @if_false.{1} @Nat.succ_ne_zero)))))) (aj (aj (aj (aj (aj @KF (aj @KG @Nat.add_zero)) (aj @Nat.zero_add (aj @XF @Z2))) (aj (aj @aGX (aj @aGY @aAt)) (aj (aj @aAu @H7) (aj @WH @aAO)))) (aj (aj (aj @aDV (aj @aDW @aDX)) (aj @XG (aj @J1 @aDY))) (aj (aj @aIp (aj @RL @J2)) (aj (aj @aDZ @aA4) (aj @aIq @aA5))))) (aj (aj (aj (aj @aD0 (aj @aD1 @aD2)) (aj @aA6 (aj @aA7 @aD3))) (aj (aj @aA8 (aj @aNA @aD4)) (aj (aj @aIr @aIs) (aj @aIt @aD5)))) (aj (aj (aj @aD6 (aj @aIu @aD7)) (aj (aj @aD8 @aA9) (aj @J3 @XH))) (aj (aj @aD9 (aj @aBa @aEa)) (aj (aj @gei @gti) (aj @aUo @gtn)))))))
def EV:=aj EN @F5
def LE:=aj (aj (aj (aj (aj (aj @aIn @aIo) (aj @aAZ (aj @aA0 @Lc))) (aj (aj @Jf @Qy) (aj @aIl (aj @aIm @aDL)))) (aj (aj (aj @aW @bC) (aj @gX (aj @aM @dU))) (aj (aj @bT @cS) (aj @bQ (aj @vC @Rs))))) (aj (aj (aj (aj @Nat.sub_zero @Nat.le_refl) (aj @LX (aj @DW @Option.map_some.{0,0}))) (aj (aj @List.all_cons.{0} @List.all_nil.{0}) (aj @Bool.and_true (aj @Bool.true_and @Bool.and_self)))) (aj (aj (aj @F2 @List.length_cons.{0}) (aj @List.length_nil.{0} (aj @jP @jQ))) (aj (aj @Pe (aj @Ax @Ro)) (aj @IU (aj @Nat.zero_le @Nat.mul_one)))))) (aj (aj (aj (aj (aj @Wq @Bc) (aj @gR (aj @mE @gA))) (aj (aj @bO @rP) (aj @iG (aj @iP @fR)))) (aj (aj (aj @fV @fO) (aj @mF (aj @dD @dA))) (aj (aj @iH (aj @mR @cP)) (aj @Mk (aj @AG @XB))))) (aj (aj (aj (aj @gO @Jk) (aj @Md (aj @Rz @Sb))) (aj (aj @ZT @WQ) (aj @Zk (aj @Ib @Zm)))) (aj (aj (aj @Zo @Mj) (aj @Zw (aj @Ig @FI))) (aj (aj @QX (aj @AB @QY)) (aj @aAK (aj @Vf @aDn))))))
def RD:=aj (aj (aj (aj (aj (aj (aj (aj @PC @PD) (aj @PE @PF)) (aj (aj @jY @Cc) (aj @uJ (aj @Fe @PG)))) (aj (aj (aj @PH @Ox) (aj @Oy (aj @xL @zT))) (aj (aj @Oz @Pa) (aj @xM (aj @BX @BY))))) (aj (aj (aj (aj @Fu @Uc) (aj @zU @Lz)) (aj (aj @rT @Cd) (aj @zV (aj @Ma @rU)))) (aj (aj (aj @Hw @BZ) (aj @Kj (aj @CA @Ud))) (aj (aj @Ue @Di) (aj @Rp (aj @CB @CC)))))) (aj (aj (aj (aj (aj @Zc @Zd) (aj @Kk @CD)) (aj (aj @Hx @Pc) (aj @IQ (aj @Jq @Pd)))) (aj (aj (aj @Rq @Uf) (aj @IS (aj @IT @CE))) (aj (aj @CF @Hy) (aj @Dj (aj @vT @Dk))))) (aj (aj (aj (aj @vU @Jr) (aj @Mb (aj @Gg @Mc))) (aj (aj @Pf @PJ) (aj @WB (aj @Fm @Gv)))) (aj (aj (aj @PK @PL) (aj @Zg (aj @PM @PN))) (aj (aj @zW @Kl) (aj @Pj (aj @Fg @Gh))))))) (aj (aj (aj (aj (aj (aj @Ru @Ug) (aj @Pk @Pl)) (aj (aj @Zh @Zi) (aj @Dl (aj @Uh @Dm)))) (aj (aj (aj @Ui
 @Bk) (aj @Rv (aj @Bl @Rx))) (aj (aj @Bm @Ry) (aj @zX (aj @Pm @CI))))) (aj (aj (aj (aj @CJ @wT) (aj @wU @uV)) (aj (aj @uW @uX) (aj @uL (aj @Hz @CK)))) (aj (aj (aj @Po @Sa) (aj @Km (aj @CL @Bn))) (aj (aj @Pp @yZ) (aj @Kn (aj @CM @CN)))))) (aj (aj (aj (aj (aj @JD @QM) (aj @Zj @CO)) (aj (aj @JE @JF) (aj @QN (aj @QO @JG)))) (aj (aj (aj @QP @QQ) (aj @QR (aj @CP @CQ))) (aj (aj @Ia @Js) (aj @Me (aj @Mf @Ej))))) (aj (aj (aj (aj @QS @WS) (aj @WU (aj @vV @Fv))) (aj (aj @vW @Fw) (aj @CR (aj @Ko @tX)))) (aj (aj (aj @CS @Ps) (aj @Pt (aj @Aj @Ak))) (aj (aj @oH @Mg) (aj @Mh (aj @zY @Al)))))))) (aj (aj (aj (aj (aj (aj (aj @zZ @Am) (aj @Dn @nY)) (aj (aj @Uj @Uk) (aj @QT (aj @QU @Mi)))) (aj (aj (aj @Se @Bt) (aj @JI (aj @JJ @JK))) (aj (aj @Pu @Pv) (aj @Fh (aj @Sf @Sg))))) (aj (aj (aj (aj @Pw
 @Sh) (aj @Ul @Zn)) (aj (aj @Zp @Zq) (aj @Um (aj @Un @Zr)))) (aj (aj (aj @Zt @Zu) (aj @vE (aj @Fx @xB))) (aj (aj @Ie @JN) (aj @JO (aj @Dq @Dr)))))) (aj (aj (aj (aj (aj @tK @uY) (aj @Fy @Fz)) (aj (aj @uM @wV) (aj @vF (aj @Ga @sQ)))) (aj (aj (aj @Bo @xC) (aj @Ih (aj @Uo @Up))) (aj (aj @Aa @Ac) (aj @yD (aj @yE @qF))))) (aj (aj (aj (aj @pP @Ii) (aj @Jt (aj @tL @qM))) (aj (aj @Ju @Zy) (aj @Zz (aj @oZ @Gi)))) (aj (aj (aj @pW @Ij) (aj @Px (aj @Py @Fi))) (aj (aj @Fj @wW) (aj @qG (aj @uZ @Gj))))))) (aj (aj (aj (aj (aj (aj @xH @rA) (aj @pA @Gk)) (aj (aj @nX @Dt) (aj @Kp (aj @Ce @qN)))) (aj (aj (aj @Jv @Kq) (aj @Pz (aj @Ik @Il))) (aj (aj @vG @Uq) (aj @JP (aj @JQ @AD))))) (aj (aj (aj (aj @AE @tO) (aj
 @sY @wX)) (aj (aj @qO @pH) (aj @qD (aj @tP @yF)))) (aj (aj (aj @uN @pI) (aj @oG (aj @Jw @xN))) (aj (aj @qP @Jx) (aj @Ml (aj @Im @Io)))))) (aj (aj (aj (aj (aj @tW @zB) (aj @Qa @Au)) (aj (aj @Sj @Qb) (aj @Sk (aj @AF @CW)))) (aj (aj (aj @CX @CY) (aj @Mm (aj @Qc @Sl))) (aj (aj @Ur @JS) (aj @JT (aj @JU @QZ))))) (aj (aj (aj (aj @JV @JW) (aj @WX (aj @WY @Cp))) (aj (aj @JX @JY) (aj @sB (aj @rQ @JZ)))) (aj (aj (aj @KA @Av) (aj @AH (aj @AI @CZ))) (aj (aj @KB @KC) (aj @RA (aj @WZ @XA))))))))
def FA:=aj (aj (aj (aj (aj (aj (aj (aj @ld3 @ik3) (aj @lk3 (aj @ze3 @aRT))) (aj (aj @aRU @TK) (aj @aG4 (aj @aRV @aRW)))) (aj (aj (aj @aRX @ld5) (aj @ik5 (aj @lk5 @ze5))) (aj (aj @ik2 (aj @lk2 @ze2)) (aj @aRY (aj @aRZ @aR0))))) (aj (aj (aj (aj @ld4 @lk4) (aj @ze4 (aj @be4 @aR1))) (aj (aj @aKg (aj @aMC @aG5)) (aj @aR2 (aj @aR3 @aFJ)))) (aj (aj (aj @aR4 @aR5) (aj @aR6 (aj @aR7 @aMD))) (aj (aj @aR8 (aj @aJZ @aR9)) (aj @aSa (aj @aSb @aG6)))))) (aj (aj (aj (aj (aj @aG7 @aKf) (aj @aG8 (aj @aSc @aSd))) (aj (aj @aSe (aj @aSf @aSg)) (aj @aG9 (aj @aHa @aSh)))) (aj (aj (aj @aSi @aSj) (aj @UG (aj @aHb @aHc))) (aj (aj @aHd (aj @aHe @aHf)) (aj @aHg (aj @aHh @aHi))))) (aj (aj (aj (aj @aHj @aHk) (aj @aHl (aj @aHm @aSk))) (aj (aj @aSl (aj @aSm @aSn)) (aj @aSo (aj @aHn @aHo)))) (aj (aj (aj @aHp @aHq) (aj @aME (aj @aSp @aSq))) (aj (aj @aSr (aj @aSs @aHr)) (aj @aSt (aj @aSu @aSv))))))) (aj (aj (aj (aj (aj (aj @aSw @aHs) (aj @aSx (aj @aSy @aSz))) (aj (aj @aSA @aHt) (aj @aHu (aj @aHv @aSB)))) (aj (aj (aj @aMF @aSC) (aj @aSD (aj @aSE @aSF))) (aj (aj @aHw (aj @aHx @aHy)) (aj @aHz (aj @aHA @aHB))))) (aj (aj (aj (aj @aSG @aMG) (aj @aSH (aj @aSI @aSJ))) (aj (aj @aSK (aj @aHC @aHD)) (aj @aHE (aj @aHF @aHG)))) (aj (aj (aj @aHH @aSL) (aj @aSM (aj @aMH @aEy))) (aj (aj @aDp (aj @aDq @aDr)) (aj @aFj (aj @aFk @aMI)))))) (aj (aj (aj (aj (aj @aMJ @aSN) (aj @aSO (aj @aHI @aHJ))) (aj (aj @aHK (aj @aHL @aMK)) (aj @aSP (aj @aML @aMM)))) (aj (aj (aj @aDs @aDt) (aj @aDu (aj @aDv @aMN))) (aj (aj @aMO (aj @aMP @aMQ)) (aj @aDw (aj @aDx @aMR))))) (aj (aj (aj (aj @aMS @aMT) (aj @aMU (aj @aDy @aDz))) (aj (aj @aFl (aj @aMV @aSQ)) (aj @aCf (aj @aHM @aHN)))) (aj (aj (aj @aHO @aHP) (aj @T6 (aj @aMW @aSR))) (aj (aj @aSS (aj @aST
 @aSU)) (aj @aHQ (aj @aHR @aHS)))))))) (aj (aj (aj (aj (aj (aj (aj @aMX @aMY) (aj @aSV (aj @aSW @aSX))) (aj (aj @aSY @aHT) (aj @aHU (aj @aSZ @aS0)))) (aj (aj (aj @aS1 @aS2) (aj @aHV (aj @aHW @aS3))) (aj (aj @aMZ (aj @aS4 @aS5)) (aj @aS6 (aj @aHX @aHY))))) (aj (aj (aj (aj @aS7 @aS8) (aj @aS9 (aj @aHZ @aH0))) (aj (aj @aH1 (aj @aH2 @aH3)) (aj @aH4 (aj @aH5 @aH6)))) (aj (aj (aj @aTa @aTb) (aj @aTc (aj @aTd @aH7))) (aj (aj @aH8 (aj @aH9 @aIa)) (aj @aIb (aj @aIc @aId)))))) (aj (aj (aj (aj (aj @aIe @aTe) (aj @aTf (aj @aM0 @aM1))) (aj (aj @aDA (aj @aDB @aDC)) (aj @aDD (aj @aDE @aDF)))) (aj (aj (aj @aDG @aDH) (aj @aFm (aj @aM2 @aIf))) (aj (aj @Kw (aj @aDI @aTg)) (aj @aTh (aj @aTi @aTj))))) (aj (aj (aj (aj @aTk @XC) (aj @aIg (aj @aTl @aTm))) (aj (aj @aTn (aj @aTo @aTp)) (aj @H4 (aj @aIh @aTq)))) (aj (aj (aj @aTr @aTs) (aj @aTt (aj @aTu @aAL))) (aj (aj @aM3 (aj @aTv @aTw)) (aj @aTx (aj @oR @aIi))))))) (aj (aj (aj (aj (aj (aj @aTy @aTz) (aj @aTA (aj @aTB @aTC))) (aj (aj @RC @aIj) (aj @aTD (aj @aTE @aTF)))) (aj (aj (aj @aTG @KE) (aj @aM4 (aj @aTH @aTI))) (aj (aj @aTJ (aj @xX @aIk)) (aj @aTK (aj @aTL @aTM))))) (aj (aj (aj (aj @aTN @aTO) (aj @aDJ (aj @aM5 @aTP))) (aj (aj @aTQ (aj @N3 @aFn)) (aj @aM6 (aj @aM7 @ZU)))) (aj (aj (aj @aM8 @aM9) (aj @aNa (aj @aFo @aNb))) (aj (aj @aNc (aj @aNd @ZV)) (aj @aNe (aj @aNf @aNg)))))) (aj (aj (aj (aj (aj @RE @aFp) (aj @aNh (aj @aNi @aTR))) (aj (aj @aTS (aj @aTT @aTU)) (aj @aTV (aj @aTW @aTX)))) (aj (aj (aj @aTY @aTZ) (aj @aT0 (aj @aT1 @aT2))) (aj (aj @aT3 (aj @aT4 @aT5)) (aj @aT6 (aj @aT7 @aT8))))) (aj (aj (aj (aj @aT9 @aUa) (aj @aUb (aj @aUc @aUd))) (aj (aj @aUe (aj @aUf @aUg)) (aj @aUh (aj @aUi @aUj)))) (aj (aj (aj @aNj @aNk) (aj @aNl (aj @aNm @aNn))) (aj (aj
 @aNo (aj @aNp @aNq)) (aj @aNr (aj @aNs @aNt))))))))
def ZZ:=aj (aj EV LE) (aj RD FA)
section
variable {f:Nat} {fn:Func} {st:St} {x y z:AV}
theorem bW {t:Nat} (hr:fn.results.toList=[.tmp t]) (hx:st.env t=x) (hf:Flat x:=by exact .v _) (hk:Ext.qH f=false:=by exact aI (by decide)):Af Tryz.prog f fn (.ret,st)=some x:=aAi hk (.inl rfl) hr hx hf
theorem fL {t T:Nat} (hr:fn.results.toList=[.cell t T]) (hy:st.env t=y) (hx:Fs Tryz.prog st T y=some x) (hf:Flat x) (hk:Ext.qH f=false:=by exact aI (by decide)):Af Tryz.prog f fn (.ret,st)=some x:=F3 hk (.inl rfl) hr hy hx hf
theorem sP {t s g e' sz n:Nat} {cs:List AV} (hr:fn.results.toList=[.tmp t]) (hx:st.env t=.own s g) (hh:st.heap s g=some (.row e' sz n cs)) (hf:∀c∈cs,Flat c) (hk:Ext.qH f=false:=by exact aI (by decide)):Af Tryz.prog f fn (.ret,st)=some (.uniq e' sz n cs):=Xc hk (.inl rfl) hr hx hh hf
theorem eH {t T:Nat} {cs:List AV} (hr:fn.results.toList=[.cell t T]) (hz:st.env t=z) (hx:Fs Tryz.prog st T z=some (.agg cs)) (hy:fK st (.agg cs)=some y) (hk:Ext.qH f=false:=by exact aI (by decide)):Af Tryz.prog f fn (.ret,st)=some y:=VU hk (.inl rfl) hr hz hx hy
theorem dO {r1 r2:ResultVar} {x1 x2 y1 y2:AV} (hr:fn.results.toList=[r1,r2]) (h1:bV Tryz.prog st r1=some x1) (h2:bV Tryz.prog st r2=some x2) (e1:fK st x1=some y1) (e2:fK st x2=some y2) (hk:Ext.qH f=false:=by exact aI (by decide)):Af Tryz.prog f fn (.ret,st)=some (.eN [y1,y2]):=aAj hk (.inl rfl) hr h1 h2 e1 e2
theorem aKU {r1 r2:ResultVar} {x1 x2 y1 y2:AV} (hr:fn.results.toList=[r1,r2]) (h1:bV Tryz.prog st r1=some x1) (h2:bV Tryz.prog st r2=some x2) (e0:fK st x1=none) (e1:Mt st x1=some y1) (e2:fK st x2=some y2) (hk:Ext.qH f=false:=by exact aI (by decide)):Af Tryz.prog f fn (.ret,st)=some (.eN [y1,y2]):=F4 hk (.inl rfl) hr h1 h2 e0 e1 e2
theorem gP {r1 r2 r3:ResultVar} {x1 x2 x3 y1 y2 y3:AV} (hr:fn.results.toList=[r1,r2,r3]) (h1:bV Tryz.prog st r1=some x1) (h2:bV Tryz.prog st r2=some x2) (h3:bV Tryz.prog st r3=some x3) (e1:fK st x1=some y1) (e2:fK st x2=some y2) (e3:fK st x3=some y3) (hk:Ext.qH f=false:=by exact aI (by decide)):Af Tryz.prog f fn (.ret,st)=some (.eN [y1,y2,y3]):=VV hk (.inl rfl) hr h1 h2 h3 e1 e2 e3
theorem cL {c:Code} (hf:Tryz.prog.funcs[f]? = some fn) (hb:fn.body=some c) (rY:bJ fn=true) {xs:List AV} (hu:xs.any tR=false):aC Tryz.prog f xs=cN (yX Tryz.prog c (St.init xs)) (Af Tryz.prog f fn):=Y9 _ hf hb rY xs (sE _ _) hu
theorem cG {c:Code} (hf:Tryz.prog.funcs[f]? = some fn) (hb:fn.body=some c) (rY:tN fn=true) (hc:oB c=true) {xs:List AV} (hu:xs.any tR=false):aC Tryz.prog f xs=cN (wM Tryz.prog true c (St.init xs)) (Af Tryz.prog f fn):=by
 rw[OW Tryz.prog hf hb rY xs (sE _ _) hu,hc]
end
section
variable {b:Code} {st st':St} {n:Nat} {I:Nat→St→Prop} {Q:Ex→St→Prop}
theorem oN (m:Nat) (h:yX Tryz.prog b st=some (.normal,st')) (hi:I m st') (hm:m<n:=by omega):∃e st',yX Tryz.prog b st=some (e,st')∧((e=.normal∧∃m,m<n∧I m st')∨(e≠.normal∧Q e st')):=oV h m hm hi
theorem oT (e:Ex) (h:yX Tryz.prog b st=some (e,st')) (hq:Q e st') (he:e≠.normal:=by simp):∃e st',yX Tryz.prog b st=some (e,st')∧((e=.normal∧∃m,m<n∧I m st')∨(e≠.normal∧Q e st')):=aGQ h he hq
theorem Ct {bi:Bool} (m:Nat) (h:wM Tryz.prog bi b st=some (.normal,st')) (hi:I m st') (hm:m<n:=by omega):∃e st',wM Tryz.prog bi b st=some (e,st')∧((e=.normal∧∃m,m<n∧I m st')∨(e≠.normal∧Q e st')):=aGU h m hm hi
theorem FY {bi:Bool} (e:Ex) (h:wM Tryz.prog bi b st=some (e,st')) (hq:Q e st') (he:e≠.normal:=by simp):∃e st',wM Tryz.prog bi b st=some (e,st')∧((e=.normal∧∃m,m<n∧I m st')∨(e≠.normal∧Q e st')):=aDe h he hq
end
end Go.Ab.Tryz
end
namespace Go.Ab.Tryz
open Classical Go.Proofs Go.Ab
def FT:=aj (aj (aj (aj (aj (aj @J4 (aj @KI @aBc)) (aj @AK (aj @AL @RN))) (aj (aj @RO (aj @FV @YH)) (aj @Nq (aj @RP @aBd)))) (aj (aj (aj @aIv (aj @MB @Uz)) (aj @ZW (aj @YJ @GA))) (aj (aj @XI (aj @aBe @aIw)) (aj (aj @GS @YM) (aj @Vb @Q5))))) (aj (aj (aj (aj @KJ (aj @nI @KK)) (aj @RQ (aj @aBf @aIx))) (aj (aj @EK (aj @DX @Qp)) (aj (aj @DY @Ns) (aj @aNB @aEc)))) (aj (aj (aj @KL (aj @aBg @aIy)) (aj @J5 (aj @iS @EI))) (aj (aj @rM (aj @uA @RR)) (aj (aj @zL @aNC) (aj @aEd @AM)))))) (aj (aj (aj (aj (aj @AN (aj @aBh @aIz)) (aj @RS (aj @qV @tF))) (aj (aj @Sy (aj @pF @Es)) (aj @vQ (aj @Ln @aND)))) (aj (aj (aj @aEe (aj @RT @aBi)) (aj @aIA (aj @oK @wA))) (aj (aj @aEf (aj @aBj @MF)) (aj (aj @YN @rK) (aj @UA @Lh))))) (aj (aj (aj (aj @UB (aj @Cw @XJ)) (aj @Er (aj @XK @J6))) (aj (aj @aBk (aj @aIB @Nv)) (aj (aj @Ep @GD) (aj @jV @aNE)))) (aj (aj (aj @aEg (aj @XL @XM)) (aj @J7 (aj @aBl @aIC))) (aj (aj @aEh (aj @Eo @xV)) (aj (aj @vI @aBm) (aj @O3 @O2))))))
def E8:=EV
def L8:=LE
def R8:=RD
def F8:=aj FA FT
def EGn:=aj (aj (aj (aj (aj (aj @List.size_toArray.{0} @jB) (aj @mI @jC)) (aj (aj @kU @mJ) (aj @OS @OT))) (aj (aj (aj @ZI @GN) (aj @FC @QH)) (aj (aj @WI @WD) (aj @PQ (aj @cE @bE))))) (aj (aj (aj (aj @bB @G6) (aj @WG @G7)) (aj (aj @aAo @aAp) (aj @PT (aj @PU @PV)))) (aj (aj (aj @PW @PX) (aj @PY @PZ)) (aj (aj @QA @QB) (aj @QC (aj @QD @QE)))))) (aj (aj (aj (aj (aj @QF @QG) (aj @aG2 @aAH)) (aj (aj @Xh @ZQ) (aj @aDf (aj @G8 @aDg)))) (aj (aj (aj @aAv @aGZ) (aj @aAw @CG)) (aj (aj @IW @QI) (aj @aDh (aj @aAx @aAy))))) (aj (aj (aj (aj @aDi @IX) (aj @aAz @IY)) (aj (aj @WJ @WK) (aj @aAA (aj @WL @aG0)))) (aj (aj (aj @aDj @UH) (aj @aDk @aAB)) (aj (aj @aAC @aAD) (aj @aG1 (aj @G9 @aAE))))))
def ZC:=aj (aj L8 R8) F8
def Z8:=aj EV ZC
def ZG:=aj (aj EGn @G4) Z8
end Go.Ab.Tryz
namespace Go.Ab.Tryz
open Go.Ab
theorem Gf:(((aE 0 2 (some 2)=[])∧((aE 1 13 (some 11)=[])∧(aE 2 17 (some 22)=[])))∧(((aE 3 4 (some 37)=[])∧(aE 4 8 (some 40)=[]))∧((aE 5 10 (some 48)=[])∧(aE 6 9 (some 56)=[(4,7)]))))∧(((aE 7 6 (some 63)=[])∧((aE 8 6 (some 68)=[])∧(aE 9 9 (some 73)=[])))∧(((aE 10 18 (some 82)=[])∧(aE 11 4 (some 99)=[]))∧((aE 12 3 (some 103)=[])∧(aE 13 2 (some 105)=[])))):=⟨⟨⟨rfl,⟨rfl,rfl⟩⟩,⟨⟨rfl,rfl⟩,⟨rfl,rfl⟩⟩⟩,⟨⟨rfl,⟨rfl,rfl⟩⟩,⟨⟨rfl,rfl⟩,⟨rfl,rfl⟩⟩⟩⟩
theorem aGp:((aE 0 5 (some 2)=[])∧((aE 1 5 (some 9)=[])∧(aE 2 2 (some 13)=[])))∧(((aE 3 5 (some 15)=[])∧(aE 4 4 (some 17)=[]))∧((aE 5 8 (some 19)=[])∧(aE 6 9 (some 26)=[(5,6)]))):=⟨⟨rfl,⟨rfl,rfl⟩⟩,⟨⟨rfl,rfl⟩,⟨rfl,rfl⟩⟩⟩
theorem GZ:(((aE 0 5 (some 2)=[])∧(aE 1 1 (some 7)=[]))∧((aE 2 5 (some 9)=[])∧(aE 4 11 (some 16)=[])))∧(((aE 5 7 (some 27)=[])∧(aE 6 13 (some 32)=[]))∧((aE 7 5 (some 44)=[(1,2)])∧((aE 3 3 (some 14)=[])∧(aE 8 5 (some 46)=[])))):=⟨⟨⟨rfl,rfl⟩,⟨rfl,rfl⟩⟩,⟨⟨rfl,rfl⟩,⟨rfl,⟨rfl,rfl⟩⟩⟩⟩
theorem UL:((((aE 0 3 (some 2)=[])∧(aE 1 8 (some 9)=[(3,6)]))∧((aE 2 41 (some 13)=[])∧(aE 3 1 (some 4)=[])))∧(((aE 4 38 (some 54)=[])∧(aE 5 1 (some 4)=[]))∧((aE 6 1 (some 7)=[])∧(aE 7 6 (some 131)=[]))))∧((((aE 9 14 (some 139)=[])∧(aE 10 1 (some 4)=[]))∧((aE 8 3 (some 137)=[])∧(aE 11 1 (some 8)=[])))∧(((aE 12 6 (some 153)=[])∧(aE 14 13 (some 161)=[]))∧((aE 15 1 (some 4)=[])∧((aE 13 3 (some 159)=[])∧(aE 16 1 (some 4)=[]))))):=⟨⟨⟨⟨rfl,rfl⟩,⟨rfl,rfl⟩⟩,⟨⟨rfl,rfl⟩,⟨rfl,rfl⟩⟩⟩,⟨⟨⟨rfl,rfl⟩,⟨rfl,rfl⟩⟩,⟨⟨rfl,rfl⟩,⟨rfl,⟨rfl,rfl⟩⟩⟩⟩⟩
theorem sG:(((((aE 0 2 (some 3)=[])∧(aE 1 7 (some 12)=[]))∧((aE 2 4 (some 18)=[])∧(aE 3 14 (some 22)=[])))∧(((aE 4 8 (some 35)=[])∧(aE 5 23 (some 41)=[]))∧((aE 6 9 (some 62)=[])∧((aE 7 5 (some 71)=[])∧(aE 8 4 (some 75)=[])))))∧((((aE 9 9 (some 79)=[])∧(aE 10 7 (some 87)=[]))∧((aE 11 6 (some 93)=[])∧((aE 12 13 (some 97)=[])∧(aE 13 4 (some 110)=[]))))∧(((aE 14 6 (some 114)=[])∧(aE 15 4 (some 119)=[]))∧((aE 16 15 (some 122)=[])∧((aE 17 12 (some 137)=[(7,9)])∧(aE 18 11 (some 147)=[]))))))∧(((((aE 19 5 (some 158)=[])∧(aE 20 8 (some 162)=[(3,5)]))∧((aE 21 3 (some 168)=[])∧((aE 22 2 (some 172)=[])∧(aE 23 6 (some 173)=[]))))∧(((aE 24 2 (some 179)=[])∧(aE 25 5 (some 180)=[]))∧((aE 26 2 (some 185)=[])∧((aE 27 5 (some 186)=[])∧(aE 28 2 (some 191)=[])))))∧((((aE 29 9 (some 192)=[])∧(aE 30 2 (some 201)=[]))∧((aE 31 5 (some 202)=[])∧((aE 32 2 (some 207)=[])∧(aE 33 16 (some 208)=[]))))∧(((aE 34 2 (some 224)=[])∧(aE 35 5 (some 225)=[]))∧((aE 36 2 (some 230)=[])∧((aE 37 3 (some 231)=[])∧(aE 38 2 (some 233)=[])))))):=⟨⟨⟨⟨⟨rfl,rfl⟩,⟨rfl,rfl⟩⟩,⟨⟨rfl,rfl⟩,⟨rfl,⟨rfl,rfl⟩⟩⟩⟩,⟨⟨⟨rfl,rfl⟩,⟨rfl,⟨rfl,rfl⟩⟩⟩,⟨⟨rfl,rfl⟩,⟨rfl,⟨rfl,rfl⟩⟩⟩⟩⟩,⟨⟨⟨⟨rfl,rfl⟩,⟨rfl,⟨rfl,rfl⟩⟩⟩,⟨⟨rfl,rfl⟩,⟨rfl,⟨rfl,rfl⟩⟩⟩⟩,⟨⟨⟨rfl,rfl⟩,⟨rfl,⟨rfl,rfl⟩⟩⟩,⟨⟨rfl,rfl⟩,⟨rfl,⟨rfl,rfl⟩⟩⟩⟩⟩⟩
theorem Qo:(((aE 0 6 (some 3)=[])∧(aE 1 10 (some 13)=[(5,8)]))∧((aE 2 5 (some 19)=[])∧((aE 3 2 (some 24)=[])∧(aE 4 5 (some 25)=[]))))∧(((aE 5 2 (some 30)=[])∧(aE 6 12 (some 31)=[]))∧((aE 7 36 (some 41)=[])∧((aE 8 5 (some 114)=[])∧(aE 9 5 (some 116)=[(1,2)])))):=⟨⟨⟨rfl,rfl⟩,⟨rfl,⟨rfl,rfl⟩⟩⟩,⟨⟨rfl,rfl⟩,⟨rfl,⟨rfl,rfl⟩⟩⟩⟩
theorem sR:((((aE 0 4 (some 3)=[])∧(aE 1 13 (some 16)=[]))∧((aE 2 2 (some 23)=[])∧((aE 3 2 (some 25)=[])∧(aE 4 7 (some 26)=[]))))∧(((aE 5 6 (some 32)=[])∧(aE 6 8 (some 37)=[(1,4)]))∧((aE 7 2 (some 43)=[])∧((aE 8 2 (some 45)=[])∧(aE 9 14 (some 47)=[])))))∧((((aE 10 6 (some 59)=[])∧(aE 11 3 (some 65)=[]))∧((aE 12 9 (some 68)=[])∧((aE 13 1 (some 13)=[])∧(aE 14 1 (some 14)=[]))))∧(((aE 15 6 (some 74)=[])∧((aE 17 9 (some 82)=[])∧(aE 18 10 (some 91)=[])))∧((aE 16 3 (some 80)=[])∧((aE 19 4 (some 100)=[])∧(aE 20 2 (some 103)=[]))))):=⟨⟨⟨⟨rfl,rfl⟩,⟨rfl,⟨rfl,rfl⟩⟩⟩,⟨⟨rfl,rfl⟩,⟨rfl,⟨rfl,rfl⟩⟩⟩⟩,⟨⟨⟨rfl,rfl⟩,⟨rfl,⟨rfl,rfl⟩⟩⟩,⟨⟨rfl,⟨rfl,rfl⟩⟩,⟨rfl,⟨rfl,rfl⟩⟩⟩⟩⟩
theorem Jp:(((aE 0 2 (some 1)=[])∧(aE 1 3 (some 5)=[]))∧((aE 2 2 (some 7)=[])∧((aE 3 1 (some 4)=[])∧(aE 4 4 (some 8)=[]))))∧(((aE 6 9 (some 14)=[])∧((aE 7 10 (some 23)=[])∧(aE 8 7 (some 32)=[])))∧((aE 9 13 (some 39)=[])∧((aE 5 3 (some 12)=[])∧(aE 10 2 (some 51)=[])))):=⟨⟨⟨rfl,rfl⟩,⟨rfl,⟨rfl,rfl⟩⟩⟩,⟨⟨rfl,⟨rfl,rfl⟩⟩,⟨rfl,⟨rfl,rfl⟩⟩⟩⟩
theorem Xl:((((aE 0 3 (some 2)=[])∧(aE 1 4 (some 14)=[]))∧((aE 2 10 (some 17)=[])∧(aE 3 1 (some 9)=[])))∧(((aE 4 4 (some 22)=[])∧(aE 5 4 (some 25)=[]))∧((aE 6 1 (some 10)=[])∧(aE 7 1 (some 11)=[]))))∧((((aE 8 3 (some 29)=[])∧(aE 10 5 (some 34)=[]))∧((aE 11 2 (some 38)=[])∧(aE 12 1 (some 12)=[])))∧(((aE 13 7 (some 40)=[])∧(aE 14 5 (some 45)=[]))∧((aE 15 8 (some 50)=[])∧((aE 9 3 (some 32)=[])∧(aE 16 6 (some 56)=[(2,3)]))))):=⟨⟨⟨⟨rfl,rfl⟩,⟨rfl,rfl⟩⟩,⟨⟨rfl,rfl⟩,⟨rfl,rfl⟩⟩⟩,⟨⟨⟨rfl,rfl⟩,⟨rfl,rfl⟩⟩,⟨⟨rfl,rfl⟩,⟨rfl,⟨rfl,rfl⟩⟩⟩⟩⟩
theorem P5:((aE 0 3 (some 1)=[])∧((aE 1 5 (some 5)=[])∧(aE 2 8 (some 8)=[])))∧((aE 3 3 (some 16)=[])∧((aE 4 5 (some 17)=[(0,2)])∧(aE 5 5 (some 20)=[(1,3)]))):=⟨⟨rfl,⟨rfl,rfl⟩⟩,⟨rfl,⟨rfl,rfl⟩⟩⟩
theorem Kc:((((aE 0 2 (some 1)=[])∧(aE 1 8 (some 6)=[]))∧((aE 2 1 (some 2)=[])∧((aE 3 7 (some 15)=[])∧(aE 4 2 (some 19)=[]))))∧(((aE 5 2 (some 21)=[])∧((aE 6 5 (some 22)=[])∧(aE 7 2 (some 25)=[])))∧((aE 8 2 (some 28)=[])∧((aE 9 4 (some 29)=[])∧(aE 10 2 (some 33)=[])))))∧((((aE 11 4 (some 34)=[])∧((aE 12 2 (some 38)=[])∧(aE 13 4 (some 39)=[])))∧((aE 14 2 (some 43)=[])∧((aE 15 4 (some 44)=[])∧(aE 16 2 (some 48)=[]))))∧(((aE 17 4 (some 49)=[])∧((aE 18 2 (some 53)=[])∧(aE 19 8 (some 54)=[(3,5)])))∧((aE 20 4 (some 60)=[])∧((aE 21 1 (some 2)=[])∧(aE 22 1 (some 2)=[]))))):=⟨⟨⟨⟨rfl,rfl⟩,⟨rfl,⟨rfl,rfl⟩⟩⟩,⟨⟨rfl,⟨rfl,rfl⟩⟩,⟨rfl,⟨rfl,rfl⟩⟩⟩⟩,⟨⟨⟨rfl,⟨rfl,rfl⟩⟩,⟨rfl,⟨rfl,rfl⟩⟩⟩,⟨⟨rfl,⟨rfl,rfl⟩⟩,⟨rfl,⟨rfl,rfl⟩⟩⟩⟩⟩
theorem LZ:((aE 0 2 (some 3)=[])∧(aE 1 1 (some 5)=[]))∧((aE 2 15 (some 6)=[])∧((aE 3 3 (some 21)=[])∧(aE 4 13 (some 23)=[(7,10)]))):=⟨⟨rfl,rfl⟩,⟨rfl,⟨rfl,rfl⟩⟩⟩
theorem Be:((((aE 0 3 (some 1)=[])∧(aE 1 3 (some 9)=[]))∧((aE 2 3 (some 12)=[])∧(aE 3 5 (some 13)=[])))∧(((aE 4 3 (some 17)=[])∧(aE 5 7 (some 19)=[]))∧((aE 6 4 (some 26)=[])∧((aE 7 7 (some 28)=[])∧(aE 8 4 (some 34)=[])))))∧((((aE 9 3 (some 37)=[])∧(aE 10 1 (some 6)=[]))∧((aE 11 4 (some 39)=[])∧((aE 13 8 (some 45)=[])∧(aE 14 12 (some 53)=[]))))∧(((aE 15 11 (some 65)=[])∧(aE 16 2 (some 73)=[]))∧((aE 17 7 (some 75)=[])∧((aE 12 3 (some 43)=[])∧(aE 18 3 (some 81)=[]))))):=⟨⟨⟨⟨rfl,rfl⟩,⟨rfl,rfl⟩⟩,⟨⟨rfl,rfl⟩,⟨rfl,⟨rfl,rfl⟩⟩⟩⟩,⟨⟨⟨rfl,rfl⟩,⟨rfl,⟨rfl,rfl⟩⟩⟩,⟨⟨rfl,rfl⟩,⟨rfl,⟨rfl,rfl⟩⟩⟩⟩⟩
theorem aLq:((aE 0 2 (some 3)=[])∧(aE 1 14 (some 5)=[(3,5),(3,8),(6,8),(3,11),(6,11),(9,11)]))∧((aE 2 8 (some 18)=[(3,5)])∧((aE 3 8 (some 25)=[(3,5)])∧(aE 4 13 (some 32)=[(4,7),(4,10),(8,10)]))):=⟨⟨rfl,rfl⟩,⟨rfl,⟨rfl,rfl⟩⟩⟩
theorem aEN:((aE 0 3 (some 1)=[])∧(aE 1 4 (some 5)=[]))∧((aE 2 2 (some 8)=[])∧((aE 3 3 (some 10)=[])∧(aE 4 14 (some 11)=[(5,7),(5,10),(8,10)]))):=⟨⟨rfl,rfl⟩,⟨rfl,⟨rfl,rfl⟩⟩⟩
theorem MN:(((aE 0 3 (some 1)=[])∧(aE 1 4 (some 6)=[]))∧((aE 2 2 (some 2)=[])∧(aE 3 14 (some 10)=[(7,9),(7,10)])))∧(((aE 4 1 (some 5)=[])∧(aE 5 5 (some 23)=[]))∧((aE 7 8 (some 30)=[])∧((aE 6 3 (some 28)=[])∧(aE 8 3 (some 37)=[])))):=⟨⟨⟨rfl,rfl⟩,⟨rfl,rfl⟩⟩,⟨⟨rfl,rfl⟩,⟨rfl,⟨rfl,rfl⟩⟩⟩⟩
theorem Q1:((aE 0 3 (some 1)=[])∧(aE 1 8 (some 4)=[]))∧((aE 2 2 (some 2)=[])∧(aE 3 13 (some 12)=[(7,9)])):=⟨⟨rfl,rfl⟩,⟨rfl,rfl⟩⟩
theorem aLa:(aE 0 2 (some 3)=[])∧(aE 1 8 (some 5)=[(3,5)]):=⟨rfl,rfl⟩
theorem aEM:(aE 0 2 (some 3)=[])∧(aE 1 14 (some 5)=[(3,5),(3,8),(6,8),(3,11),(6,11),(9,11)]):=⟨rfl,rfl⟩
theorem Wy:((aE 0 1 (some 4)=[])∧((aE 1 1 (some 5)=[])∧(aE 2 12 (some 6)=[])))∧(((aE 3 3 (some 18)=[])∧(aE 4 12 (some 20)=[]))∧((aE 5 2 (some 32)=[])∧(aE 6 12 (some 33)=[(6,9)]))):=⟨⟨rfl,⟨rfl,rfl⟩⟩,⟨⟨rfl,rfl⟩,⟨rfl,rfl⟩⟩⟩
end Go.Ab.Tryz
namespace Go.Ab.Tryz
open Classical Go.Proofs Go.Ab
theorem Gt (x:Int) (h1:-9223372036854775808≤x) (h2:x≤9223372036854775807):IntKind.i64.wrap x=x:=wrap_i64 x h1 h2
theorem c87 (ns:List Node) (i:Int):aC Tryz.prog 87 [.agg (cX ⟨ns⟩),.v (.int .i64 i)]=some (.v (.bool (decide (0≤i) && decide (i<ns.length)))):=by
 rw[cL Tryz.func87 rfl aUm rfl];by_cases h:0≤i
 all_goals
  simp only[ZZ,seval,h,decide_true,decide_false,Bool.false_eq_true,Bool.true_and,Bool.false_and];exact bW rfl (by simp only[EV,seval]) (.v _)
theorem RV (ns:List Node) (i:Int) (st:St) (d:Option Nat):aL (aC Tryz.prog) 87 [.agg (cX ⟨ns⟩),.v (.int .i64 i)] st d=some { dst:=d,val:=.v (.bool (decide (0≤i) && decide (i<ns.length)))}:=bK (bH (nC _) (.v _)) (c87 ns i) (.v _)
def SN (n:Int):Bool:=decide (0≤n) && decide (n≤2)
theorem aOd (i:Int):aC Tryz.prog 186 [.v (.int .i64 i)]=some (.v (.bool (SN i))):=by
 rw[cL Tryz.func186 rfl aNw rfl];by_cases h:0≤i
 all_goals
  simp only[ZZ,seval,h,decide_true,decide_false,Bool.false_eq_true,Bool.true_and,Bool.false_and];exact bW rfl (by simp only[EV,seval,SN,h,decide_true,decide_false,Bool.false_and,Bool.true_and]) (.v _)
noncomputable def aN (ns:List Node) (r:cK):Int:=match ns.findIdx? (fun n=>decide (n.block.root=r)) with
 | some k=>(k:Int)
 | none=>-1
theorem LF {ns:List Node} {r:cK} {i:Int} (h0:0≤i) (h1:i<ns.length) (hr:(nd ns i).block.root=r) (hb:∀j,0≤j→j<i→(nd ns j).block.root≠r):aN ns r=i:=by
 obtain⟨hi,e⟩:=Lb h0 h1
 have:ns.findIdx? (fun n=>decide (n.block.root=r))=some i.toNat:=by
  rw[List.findIdx?_eq_some_iff_getElem];refine⟨hi,by simp[← e,hr],fun j hj=>?_⟩
  have h:=hb j (by omega) (by omega)
  have M9:j<ns.length:=by omega
  simp[nd,M9] at h
  simpa using h
 unfold aN;rw[this];simp;omega
theorem Wb {ns:List Node} {r:cK} (hb:∀j,0≤j→j<(ns.length:Int)→(nd ns j).block.root≠r):aN ns r=-1:=by
 have:ns.findIdx? (fun n=>decide (n.block.root=r))=none:=by
  rw[List.findIdx?_eq_none_iff];intro n hn;obtain⟨j,hj,rfl⟩:=List.getElem_of_mem hn
  have h:=hb j (by omega) (by omega)
  simp[nd,hj] at h
  simpa using h
 unfold aN;rw[this]
theorem c46 (ns:List Node) (r:cK) (hn:(ns.length:Int)<1000000):aC Tryz.prog 46 [.agg (cX ⟨ns⟩),.agg (aX r)]=some (.v (.int .i64 (aN ns r))):=by
 rw[cL Tryz.func46 rfl aUk rfl];simp only[ZZ,seval];refine lV (fun n st=>∃i:Int,st.env 2=.ptr 2 0 0∧st.env 3=.ptr 3 0 0∧st.heap 2 0=some (.cells (cX ⟨ns⟩))∧st.heap 3 0=some (.cells (aX r))∧st.env 5=.v (.int .i64 i)∧0≤i∧i≤ns.length∧n=(ns.length-i).toNat ∧
  ∀j,0≤j→j<i→(nd ns j).block.root≠r)
  (fun e st=>(e=.ret∧st.env 4=.v (.int .i64 (aN ns r)))∨(e=.exit 0∧aN ns r=-1)) ns.length ?step ?start ?rest
 case step =>
  rintro n st ⟨i,h2,h3,uR,SO,h5,i0,i1,Iq,hb⟩
  by_cases bA:i<ns.length
  ·have hw:IntKind.i64.wrap (i+1)=i+1:=Gt _ (by omega) (by omega)
   by_cases hr:(nd ns i).block.root=r
   ·apply oT (.ret)
    ·simp only[ZZ,seval,h2,h3,uR,SO,h5,bA,i0,hr];rfl
    ·exact .inl ⟨rfl,by simp only[EV,seval,LF i0 bA hr hb]⟩
   ·apply oN ((ns.length-(i+1)).toNat)
    ·simp only[ZZ,seval,h2,h3,uR,SO,h5,bA,i0,hr,hw];rfl
    ·exact⟨i+1,by simp only[EV,seval,h2],by simp only[EV,seval,h3],by simp only[EV,seval,uR],by simp only[EV,seval,SO],(by simp only[EV,seval]),by omega,by omega,rfl,fun j j0 j1=>by
     rcases Int.lt_or_eq_of_le (show j≤i by omega) with h|rfl
     ·exact hb j j0 h
     ·exact hr⟩
  ·apply oT (.exit 0)
   ·simp only[ZZ,seval,h2,h3,uR,SO,h5,bA,i0];rfl
   ·exact .inr ⟨rfl,Wb fun j j0 j1=>hb j j0 (by omega)⟩
 case start=>exact⟨0,(by simp only[EV,seval]),(by simp only[EV,seval]),(by simp only[EV,seval]),(by simp only[EV,seval]),(by simp only[EV,seval]),by omega,by omega,by omega,fun j _ _=>by omega⟩
 case rest =>
  rintro e st (⟨rfl,h⟩|⟨rfl,h⟩)
  ·simp only[ZZ,seval];exact bW rfl h (.v _)
  ·simp only[ZZ,seval];exact bW rfl (by simp only[EV,seval,h]) (.v _)
theorem q49 (args:List AV) (st:St) (d:Option Nat):aL (aC Tryz.prog) 49 args st d=sA (aC Tryz.prog) 49 (cC (args.map (fK st))) (decide (∀x∈args,Flat x)) st d:=lF _ _ _ _ _
theorem c49 (l:List Int) (a:Int) (hn:(l.length:Int)<1000000):aC Tryz.prog 49 [.sl l.length (aJ l),.v (.int .i64 a)]=some (.v (.bool (decide (a∈l)))):=by
 rw[cL Tryz.func49 rfl aNu rfl];simp only[ZZ,seval];refine lV (fun n st=>∃i:Int,st.env 0=.sl l.length (aJ l)∧st.env 1=.v (.int .i64 a)∧st.env 5=.v (.int .i64 i)∧0≤i∧i≤l.length∧n=(l.length-i).toNat∧∀j,0≤j→j<i→it l j≠a)
  (fun e st=>(e=.ret∧st.env 4=.v (.bool (decide (a∈l))))∨(e=.exit 0∧decide (a∈l)=false)) l.length ?step ?start ?rest
 case step =>
  rintro n st ⟨i,h0,h1,h5,i0,i1,Iq,hb⟩
  by_cases bA:i<l.length
  ·have hw:IntKind.i64.wrap (i+1)=i+1:=Gt _ (by omega) (by omega)
   obtain⟨hi,he⟩:=xA i0 bA
   by_cases hr:it l i=a
   ·have hm:decide (a∈l)=true:=by rw[decide_eq_true_eq,← hr,he];exact List.getElem_mem hi
    have hbq:(it l i == a)=true:=by simp[hr]
    apply oT (.ret)
    ·simp only[ZZ,seval,h0,h1,h5,bA,i0,hbq];rfl
    ·exact .inl ⟨rfl,by simp only[EV,seval,hm]⟩
   ·have hbq:(it l i == a)=false:=by simp[hr]
    apply oN ((l.length-(i+1)).toNat)
    ·simp only[ZZ,seval,h0,h1,h5,bA,i0,hbq,hw];rfl
    ·exact⟨i+1,by simp only[EV,seval,h0],by simp only[EV,seval,h1],(by simp only[EV,seval]),by omega,by omega,rfl,fun j j0 j1=>by
     rcases Int.lt_or_eq_of_le (show j≤i by omega) with h|rfl
     ·exact hb j j0 h
     ·exact hr⟩
  ·apply oT (.exit 0)
   ·simp only[ZZ,seval,h0,h1,h5,bA,i0];rfl
   ·exact .inr ⟨rfl,by
    rw[decide_eq_false_iff_not];intro hm;obtain⟨j,hj,rfl⟩:=List.getElem_of_mem hm
    exact hb j (by omega) (by omega) (by simp[it,hj])⟩
 case start=>exact⟨0,(by simp only[EV,seval]),(by simp only[EV,seval]),(by simp only[EV,seval]),by omega,by omega,by omega,fun j _ _=>by omega⟩
 case rest =>
  rintro e st (⟨rfl,h⟩|⟨rfl,h⟩)
  ·simp only[ZZ,seval];exact bW rfl h (.v _)
  ·simp only[ZZ,seval];exact bW rfl (by simp only[EV,seval,h]) (.v _)
theorem aKz (a:Int):aC Tryz.prog 49 [.v (.slice none 0 0),.v (.int .i64 a)]=some (.v (.bool false)):=by
 rw[cL Tryz.func49 rfl aNu rfl];simp only[ZZ,seval,Gu,Int.natCast_zero,Int.lt_irrefl,decide_false];exact bW rfl (by simp only[EV,seval]) (.v _)
theorem k49 (l:List Int) (a:Int) (hn:(l.length:Int)<1000000) (fl:Bool) (st:St) (d:Option Nat):sA (aC Tryz.prog) 49 (some [.sl l.length (aJ l),.v (.int .i64 a)]) fl st d=some { dst:=d,val:=.v (.bool (decide (a∈l)))}:=GU (c49 l a hn)
theorem aUp (a:Int) (fl:Bool) (st:St) (d:Option Nat):sA (aC Tryz.prog) 49 (some [.v (.slice none 0 0),.v (.int .i64 a)]) fl st d=some { dst:=d,val:=.v (.bool false)}:=GU (aKz a)
def iD (ns:List Node):Prop:=∀i:Int,0<i→i<ns.length→0≤(nd ns i).up∧(nd ns i).up<i
def AO (ns:List Node):Nat→Int→List Int
 | 0,_=>[]
 | f+1,i=>if i=0 then [0] else AO ns f (nd ns i).up++[i]
def path (ns:List Node) (i:Int):List Int:=if 0≤i∧i<ns.length then AO ns (i.toNat+1) i else []
theorem AP {ns:List Node} (h:iD ns):∀(f g:Nat) (i:Int),0≤i→i<ns.length→i.toNat<f→i.toNat<g→AO ns f i=AO ns g i
 | 0,_,i,_,_,h1,_=>by omega
 | f+1,0,i,_,_,_,h2=>by omega
 | f+1,g+1,i,i0,i1,h1,h2=>by
   simp only[AO];by_cases hi:i=0
   ·rw[if_pos hi,if_pos hi]
   ·obtain⟨u0,u1⟩:=h i (by omega) i1
    rw[if_neg hi,if_neg hi,AP h f g (nd ns i).up u0 (by omega) (by omega) (by omega)]
theorem rE {ns:List Node} (h:0<ns.length):path ns 0=[0]:=by
 unfold path;rw[if_pos ⟨by omega,by omega⟩]
 rfl
theorem rG {ns:List Node} (h:iD ns) {i:Int} (i0:0<i) (i1:i<ns.length):path ns i=path ns (nd ns i).up++[i]:=by
 obtain⟨u0,u1⟩:=h i i0 i1
 unfold path;rw[if_pos ⟨by omega,i1⟩,if_pos ⟨u0,by omega⟩]
 show AO ns (i.toNat+1) i=_
 rw[AO,if_neg (by omega)]
 rw[AP h i.toNat ((nd ns i).up.toNat+1) (nd ns i).up u0 (by omega) (by omega) (by omega)]
theorem yH {ns:List Node} {i:Int} (h:¬(0≤i∧i<ns.length)):path ns i=[]:=if_neg h
theorem aBn {ns:List Node} (h:iD ns):∀(k:Nat) (i:Int),i.toNat=k→0≤i→i<ns.length→(path ns i).length≤i+1:=by
 intro k;induction k using Nat.strongRecOn with
 | _ k ih =>
   intro i hk i0 i1;by_cases hi:i=0
   ·subst hi;rw[rE (by omega)];simp
   ·obtain⟨u0,u1⟩:=h i (by omega) i1
    rw[rG h (by omega) i1]
    have:=ih (nd ns i).up.toNat (by omega) _ rfl u0 (by omega)
    simp only[List.length_append,List.length_singleton];omega
theorem As {ns:List Node} (h:iD ns) (i:Int):((path ns i).length:Int)≤ns.length:=by
 by_cases hi:0≤i∧i<ns.length
 ·have:=aBn h _ i rfl hi.1 hi.2;omega
 ·rw[yH hi];simp
theorem aUq (ns:List Node) (i:Int) (h:¬(0≤i∧i<ns.length)):aC Tryz.prog 76 [.agg (cX ⟨ns⟩),.v (.int .i64 i)]=some (.v (.slice none 0 0)):=by
 rw[cL Tryz.func76 rfl aNv rfl];have hd:(decide (0≤i) && decide (i<ns.length))=false:=by
  rw[← Bool.not_eq_true];simpa using h
 simp only[ZZ,seval,RV,hd];exact bW rfl (by simp only[EV,seval]) (.v _)
theorem c76 (ns:List Node) (hu:iD ns) (hn:(ns.length:Int)<1000000):∀(k:Nat) (i:Int),i.toNat=k→0≤i→i<ns.length→aC Tryz.prog 76 [.agg (cX ⟨ns⟩),.v (.int .i64 i)]=some (.uniq 3 1 (path ns i).length (aJ (path ns i))):=by
 intro k;induction k using Nat.strongRecOn with
 | _ k ih =>
   intro i hk i0 i1;have hd:(decide (0≤i) && decide (i<ns.length))=true:=by simp[i0,i1]
   rw[cL Tryz.func76 rfl aNv rfl];by_cases hi:i=0
   ·subst hi;simp only[ZZ,seval,RV,hd,i1,beq_self_eq_true];exact sP rfl (by simp only[EV,seval];rfl) (by simp only[EV,seval,rE (show 0<ns.length by omega)];rfl) (gF _)
   ·obtain⟨u0,u1⟩:=hu i (by omega) i1
    have hq:(i == 0)=false:=by simp[hi]
    have hr:=ih (nd ns i).up.toNat (by omega) _ rfl u0 (by omega)
    have hc:∀(st:St) (d:Nat),aL (aC Tryz.prog) 76 [.agg (cX ⟨ns⟩),.v (.int .i64 (nd ns i).up)] st (some d)=some { dst:=some d,val:=.own d (st.aP d),new:=some (d,[.row 3 1 (path ns (nd ns i).up).length (aJ (path ns (nd ns i).up))])}:=fun st d=>jF (bH (nC _) (.v _)) hr
    have hl:((path ns (nd ns i).up).length:Int)<1000000:=by have:=As hu (nd ns i).up;omega
    simp only[ZZ,seval,RV,hd,hq,i0,i1,hc,hl];exact sP rfl (by simp only[EV,seval];rfl) (by simp only[EV,seval,rG hu (show 0<i by omega) i1]) (gF _)
theorem k76 (ns:List Node) (hu:iD ns) (hn:(ns.length:Int)<1000000) (i:Int) (i0:0≤i) (i1:i<ns.length) (st:St) (d:Nat):aL (aC Tryz.prog) 76 [.agg (cX ⟨ns⟩),.v (.int .i64 i)] st (some d)=some { dst:=some d,val:=.own d (st.aP d),new:=some (d,[.row 3 1 (path ns i).length (aJ (path ns i))])}:=jF (bH (nC _) (.v _)) (c76 ns hu hn _ i rfl i0 i1)
theorem l8 (ns:List Node) (i:Int) (h:¬(0≤i∧i<ns.length)) (st:St) (d:Option Nat):aL (aC Tryz.prog) 76 [.agg (cX ⟨ns⟩),.v (.int .i64 i)] st d=some { dst:=d,val:=.v (.slice none 0 0)}:=bK (bH (nC _) (.v _)) (aUq ns i h) (.v _)
def At (ns:List Node) (a b:Int):Bool:=decide (a∈path ns b)
theorem c47 (ns:List Node) (hu:iD ns) (hn:(ns.length:Int)<1000000) (a b:Int):aC Tryz.prog 47 [.agg (cX ⟨ns⟩),.v (.int .i64 a),.v (.int .i64 b)]=some (.v (.bool (At ns a b))):=by
 rw[cL Tryz.func47 rfl aUl rfl];by_cases hb:0≤b∧b<ns.length
 ·have hl:((path ns b).length:Int)<1000000:=by have:=As hu b;omega
  simp only[ZZ,seval,k76 ns hu hn b hb.1 hb.2,q49,k49,hl];exact bW rfl (by simp only[EV,seval,At]) (.v _)
 ·simp only[ZZ,seval,l8 ns b hb,q49,aUp];exact bW rfl (by simp only[EV,seval,At,yH hb,List.not_mem_nil,decide_false]) (.v _)
theorem Nf (ns:List Node) (hu:iD ns) (hn:(ns.length:Int)<1000000) (a b:Int) (st:St) (d:Option Nat):aL (aC Tryz.prog) 47 [.agg (cX ⟨ns⟩),.v (.int .i64 a),.v (.int .i64 b)] st d=some { dst:=d,val:=.v (.bool (At ns a b))}:=bK (nD (nC _) (.v _) (.v _)) (c47 ns hu hn a b) (.v _)
end Go.Ab.Tryz
