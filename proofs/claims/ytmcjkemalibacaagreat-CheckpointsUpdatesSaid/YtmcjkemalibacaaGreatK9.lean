/-
  Part 9 of the proof: an evaluator of programs, its soundness, and what functions of this program compute.
-/
import Derived.Test.YtmcjkemalibacaaGreatK8
import Derived.Test.YtmcjkemalibacaaGreatK5
set_option linter.all false
set_option maxRecDepth 20000
set_option maxHeartbeats 40000000
section
namespace Go.Ab
open Classical
instance:Inhabited Node:=⟨o9⟩
def nd (ns:List Node) (i:Int):Node:=ns.getD i.toNat o9
def it (l:List Int) (i:Int):Int:=l.getD i.toNat 0
theorem Lc {ns:List Node} {i:Int} (h0:0≤i) (h1:i<ns.length):∃h:i.toNat<ns.length,nd ns i=ns[i.toNat]:=by
 have h:i.toNat<ns.length:=by omega
 exact⟨h,by simp[nd,h]⟩
theorem xJ {l:List Int} {i:Int} (h0:0≤i) (h1:i<l.length):∃h:i.toNat<l.length,it l i=l[i.toNat]:=by
 have h:i.toNat<l.length:=by omega
 exact⟨h,by simp[it,h]⟩
theorem RR (l:List Int):aK l=l.map fun x=>.v (.int .i64 x):=by
 induction l with
 | nil=>rfl
 | cons a l ih=>simp only[aK,List.flatMap_cons,List.map_cons,qS] at *;rw[ih];rfl
theorem LC (l:List Int):bJ l=l.map fun x=>.v (.int .u64 x):=by
 induction l with
 | nil=>rfl
 | cons a l ih=>simp only[bJ,List.flatMap_cons,List.map_cons,lI] at *;rw[ih];rfl
theorem I9 (a b:List Int):aK (a++b)=aK a++aK b:=by simp[aK]
theorem AQ (a b:List Node):bZ (a++b)=bZ a++bZ b:=by simp[bZ]
theorem C9 (l:List Int):∀c∈aK l,iC c:=by rw[RR];intro c hc;obtain⟨x,_,rfl⟩:=List.mem_map.1 hc;exact .v _
theorem J0 {l:List Int} {i:Int} (h0:0≤i) (h1:i<l.length):(aK l)[i.toNat]? = some (.v (.int .i64 (it l i))):=by
 obtain⟨h,e⟩:=xJ h0 h1
 rw[RR,List.getElem?_map,List.getElem?_eq_getElem h,e];rfl
theorem C8 {l:List Int} {i:Int} (h0:0≤i) (h1:i<l.length):(bJ l)[i.toNat]? = some (.v (.int .u64 (it l i))):=by
 obtain⟨h,e⟩:=xJ h0 h1
 rw[LC,List.getElem?_map,List.getElem?_eq_getElem h,e];rfl
theorem XZ {ns:List Node} {i:Int} (h0:0≤i) (h1:i<ns.length):((bZ ns).drop (i.toNat * 240)).take 240=fG (nd ns i):=by
 obtain⟨h,e⟩:=Lc h0 h1
 rw[e,← H7 ns i.toNat h];rfl
theorem KL:((1:Nat)=0)=False:=by simp
theorem KM:((0:Nat)=1)=False:=by simp
theorem cU {x:AV} (h:Flat x):∀y∈[x],Flat y:=by simpa using h
theorem bE {x y:AV} (h:Flat x) (h':Flat y):∀z∈[x,y],Flat z:=by simp[h,h']
theorem mD {x y u:AV} (h:Flat x) (h':Flat y) (h2:Flat u):∀z∈[x,y,u],Flat z:=by simp[h,h',h2]
theorem mC (t:Tree):Flat (.agg (cO t)):=.agg _ (XB t)
theorem tF (t:Block):Flat (.agg (aV t)):=.agg _ (Bp t)
theorem qR (t:cJ):Flat (.agg (bD t)):=.agg _ (dT t)
theorem Kx (l:List Int):Flat (.sl l.length (aK l)):=.sl _ _ (gF l)
theorem aEa (st:St) (n:Nat) (cs:List AV):aW st (.sl n cs)=some (n,cs):=rfl
theorem aA5 (st:St):aW st (.v (.slice none 0 0))=some (0,[]):=rfl
theorem aIY (x:Int):qS x=[.v (.int .i64 x)]:=rfl
theorem aIZ (x:Int):lI x=[.v (.int .u64 x)]:=rfl
theorem aEb (x:Bool):uY x=[.v (.bool x)]:=rfl
namespace Tryz
open Go.Proofs
theorem aOn (st:St) {ns:List Node} {k:IntKind} {i:Int} (h0:0≤i) (h1:i<ns.length):bH Tryz.prog st 48 (.sl ns.length (bZ ns)) (.v (.int k i))=some (.ip (fG (nd ns i)) 0):=by
 have hl:i.toNat<ns.length:=by omega
 have:i.toNat * 240+240≤ns.length * 240:=by rw[← Nat.succ_mul];exact Nat.mul_le_mul_right _ hl
 simp only[bH,aIV,RP,h0,h1,Ld,this,and_self,if_true,XZ h0 h1]
theorem aES (st:St) {l:List Int} {k:IntKind} {i:Int} (h0:0≤i) (h1:i<l.length):bH Tryz.prog st 22 (.sl l.length (aK l)) (.v (.int k i))=some (.ip (qS (it l i)) 0):=by
 obtain⟨h,e⟩:=xJ h0 h1
 have:i.toNat * 1+1≤l.length * 1:=by omega
 have hr:=aAD l i.toNat h
 simp only[bH,aD8,Ky,h0,h1,Jh,this,and_self,if_true,e,← hr];rfl
theorem aA6 {call:Nat→List AV→Option AV} {ops:Array Oper} {st:St} {d:Option Nat} {T:Nat} {pos:String} {eQ:Array Edge} (g:Nat) (args:Array Operand) (tL:Array Nat) (h:(g == 215 || g == 226 || g == 227 || g == 229 || g == 228 || g == 230 || g == 231 || g == 210 || g == 81 || g == 217 || g == 222 || g == 235 || g == 220 || g == 101 || g == 57 || g == 32 || (g == 43 && d == some 72) || (g == 31 && d == some 40))=false) :
 cH Tryz.prog call ops ⟨d,.call ⟨.value (.func g),args,tL⟩,T,pos,eQ,none⟩ st=cS (aN call g (args.toList.map st.ev) st d) fun e=>some (e.apply st):=by
 simp only[Bool.or_eq_false_iff] at h;exact aDg g args tL (aDM (by simp only[h,Bool.or_self])) (aAX (by simp only[h,Bool.or_self]))
theorem J1 {call:Nat→List AV→Option AV} {ops:Array Oper} {st:St} {d:Option Nat} {T:Nat} {pos:String} {eQ:Array Edge} (g:Nat) (args:Array Operand) (tL:Array Nat) (h:(g == 215 || g == 226 || g == 227 || g == 229 || g == 228 || g == 230 || g == 231 || g == 210 || g == 81)=true) :
 cH Tryz.prog call ops ⟨d,.call ⟨.value (.func g),args,tL⟩,T,pos,eQ,none⟩ st=cS (lL call g (args.toList.map st.ev) st d) fun e=>some (e.apply st):=aAp g args tL (p6 h)
theorem aA7 {call:Nat→List AV→Option AV} {ops:Array Oper} {st:St} {d:Option Nat} {T:Nat} {pos:String} {eQ:Array Edge} (g:Nat) (args:Array Operand) (tL:Array Nat) (h:(g == 217 || g == 222 || g == 235 || g == 220 || g == 101 || g == 57 || g == 32 || (g == 43 && d == some 72) || (g == 31 && d == some 40))=true) :
 cH Tryz.prog call ops ⟨d,.call ⟨.value (.func g),args,tL⟩,T,pos,eQ,none⟩ st=cS (fF call g (args.toList.map st.ev) st d) fun e=>some (e.apply st):=by
 refine WN g args tL ?_ (aAY h)
 simp only[Bool.or_eq_true,Bool.and_eq_true,beq_iff_eq] at h;rcases h with (((((((h|h)|h)|h)|h)|h)|h)|⟨h,_⟩)|⟨h,_⟩<;>(subst h;rfl)
theorem aOo {S d:Nat} (h:((S == 54 && (d == 36 || d == 42 || d == 26)) || (S == 45 && (d == 84 || d == 91)))=false):Ext.va S d=false:=p4 (by
 simp only[Bool.or_eq_false_iff,Bool.and_eq_false_iff] at h ⊢;exact h.1.imp id fun h=>h.2)
theorem aOp {S d:Nat} (h:((S == 54 && (d == 36 || d == 42 || d == 26)) || (S == 45 && (d == 84 || d == 91)))=false):Ext.pa S d=false:=aDL (by
 simp only[Bool.or_eq_false_iff,Bool.and_eq_false_iff] at h ⊢;exact⟨h.1.imp id fun h=>h.1,h.2⟩)
theorem aA8 {S d:Nat} (h:((S == 54 && (d == 36 || d == 42)) || (S == 45 && (d == 84 || d == 91)))=true):Ext.va S d=false:=p4 (by
 by_cases h2:d=26
 ·subst h2;simp at h
 ·simp[h2])
theorem aEc {call:Nat→List AV→Option AV} {ops:Array Oper} {st:St} {T:Nat} {pos:String} {eQ:Array Edge} (s x:Operand) (S d:Nat) (h:((S == 54 && (d == 36 || d == 42 || d == 26)) || (S == 45 && (d == 84 || d == 91)))=false):cH Tryz.prog call ops ⟨some d,.call ⟨.builtin .append,#[s,x],#[S,S]⟩,T,pos,eQ,none⟩ st=cS (dH Tryz.prog st S (st.ev s) (st.ev x)) fun ur =>
 some (((match ur.1 with|some p=>st.jB p.1 p.2 none|none=>st).new d ur.2).put (some d) (.own d (st.aQ d))):=WQ s x S d (aOo h) (aOp h)
theorem iM {call:Nat→List AV→Option AV} {ops:Array Oper} {st:St} {T:Nat} {pos:String} {eQ:Array Edge} (s x:Operand) (S d:Nat) (h:((S == 54 && (d == 36 || d == 42)) || (S == 45 && (d == 84 || d == 91)))=true) (hn:¬(st.ev s=.v (.slice none 0 0)∧(aW st (st.ev x)).map Prod.fst=some 0)):cH Tryz.prog call ops ⟨some d,.call ⟨.builtin .append,#[s,x],#[S,S]⟩,T,pos,eQ,none⟩ st=cS (dH Tryz.prog st S (st.ev s) (st.ev x)) fun ur =>
 some (((match ur.1 with|some p=>st.jB p.1 p.2 none|none=>st).new d ur.2).put (some d) (.own d (st.aQ d))):=aAr s x S d (aA8 h) (p5 h) hn
theorem iL {call:Nat→List AV→Option AV} {ops:Array Oper} {st:St} {T:Nat} {pos:String} {eQ:Array Edge} (s x:Operand) (S d:Nat) (h:((S == 54 && (d == 36 || d == 42)) || (S == 45 && (d == 84 || d == 91)))=true) (hi:(dS Tryz.prog S).isSome=true) (h1:st.ev s=.v (.slice none 0 0)) (h2:(aW st (st.ev x)).map Prod.fst=some 0):cH Tryz.prog call ops ⟨some d,.call ⟨.builtin .append,#[s,x],#[S,S]⟩,T,pos,eQ,none⟩ st=some (st.put (some d) (.v (.slice none 0 0))):=aAs s x S d (aA8 h) (p5 h) hi h1 h2
end Tryz
end Go.Ab
end
section
namespace Go.Ab
open Classical
noncomputable def tX (call:Nat→List AV→Option AV) (g:Nat) (xs:Option (List AV)) (fl:Bool) (st:St) (d:Option Nat):Option rT :=
 cS xs fun xs=>cS (call g xs) fun r=>if fl=true∨Vp r then jC r st d else none
theorem Db {st:St}:∀(args:List AV),(∀x∈args,Flat x)→cM (args.map (fO st))=some args
 | [],_=>rfl
 | x :: xs,h=>by
   simp only[List.map_cons,eB (h x (by simp)),cM,Db xs fun y hy=>h y (by simp[hy]),Option.map_some]
theorem jS (call:Nat→List AV→Option AV) (g:Nat) (args:List AV) (st:St) (d:Option Nat):aN call g args st d=tX call g (cM (args.map (fO st))) (decide (∀x∈args,Flat x)) st d:=by
 unfold aN tX;by_cases h:∀x∈args,Flat x
 ·rw[if_pos h,Db args h];have hd:decide (∀x∈args,Flat x)=true:=decide_eq_true h
  rw[hd];simp only[cK,true_or,if_true]
 ·rw[if_neg h];cases cM (args.map (fO st)) with
  | none=>rfl
  | some xs =>
    have hd:decide (∀x∈args,Flat x)=false:=decide_eq_false h
    rw[hd];simp only[cK,Bool.false_eq_true,false_or]
theorem A4 {call:Nat→List AV→Option AV} {g:Nat} {xs:List AV} {r:AV} {fl:Bool} {st:St} {d:Option Nat} (h:call g xs=some r) (hr:Vp r) (hf:Flat r):tX call g (some xs) fl st d=some { dst:=d,val:=r }:=by
 unfold tX;simp only[cK,h,hr,or_true,if_true,jC,if_pos hf]
theorem Qi {call:Nat→List AV→Option AV} {g:Nat} {xs:List AV} {b:Bool} {fl:Bool} {st:St} {d:Option Nat} (h:call g xs=some (.v (.bool b))):tX call g (some xs) fl st d=some { dst:=d,val:=.v (.bool b)}:=A4 h (.v _) (.v _)
theorem Su {call:Nat→List AV→Option AV} {g:Nat} {xs:List AV} {k:IntKind} {b:Int} {fl:Bool} {st:St} {d:Option Nat} (h:call g xs=some (.v (.int k b))):tX call g (some xs) fl st d=some { dst:=d,val:=.v (.int k b)}:=A4 h (.v _) (.v _)
theorem Q0 {call:Nat→List AV→Option AV} {g:Nat} {xs:List AV} {e sz n:Nat} {cs:List AV} {fl:Bool} {st:St} {d:Nat} (h:call g xs=some (.uniq e sz n cs)) (hr:∀c∈cs,iC c):tX call g (some xs) fl st (some d)=some { dst:=some d,val:=.own d (st.aQ d),new:=some (d,[.row e sz n cs])}:=by
 have YV:Vp (.uniq e sz n cs):=hr
 have hnf:¬Flat (.uniq e sz n cs):=by intro h;cases h
 unfold tX;simp only[cK,h,YV,or_true,if_true,jC,if_neg hnf];rfl
noncomputable def jG (o:Option nU):Option AV :=
 match o with
 | some (.row _ _ n cs)=>if ∀c∈cs,Flat c then some (.sl n cs) else none
 | _=>none
theorem vP (st:St) (s g:Nat):fO st (.own s g)=jG (st.heap s g):=by
 unfold fO cN jG;rw[if_neg (mW s g)];simp only[if_neg (mW s g)];cases st.heap s g with
 | none=>rfl
 | some e=>cases e<;>rfl
theorem J2 (e sz n:Nat) (l:List Int):jG (some (.row e sz n (aK l)))=some (.sl n (aK l)):=by
 unfold jG;simp only;rw[if_pos (gF l)]
theorem J3 (e sz n:Nat) (l:List Int):jG (some (.row e sz n (bJ l)))=some (.sl n (bJ l)):=by
 unfold jG;simp only;rw[if_pos (iF l)]
theorem YA (e sz n:Nat) (l:List Node):jG (some (.row e sz n (bZ l)))=some (.sl n (bZ l)):=by
 unfold jG;simp only;rw[if_pos (iD l)]
theorem RS (e sz:Nat) (x:Node):jG (some (.row e sz 1 (fG x)))=some (.sl [x].length (bZ [x])):=by
 unfold jG;simp only;rw[if_pos (Lb x)];simp[bZ]
theorem Lf (st:St) (x:Value):fO st (.v x)=some (.v x):=eB (.v x)
theorem Jc (st:St) (t:Tree):fO st (.agg (cO t))=some (.agg (cO t)):=eB (mC t)
theorem Qu (st:St) (t:cJ):fO st (.agg (bD t))=some (.agg (bD t)):=eB (qR t)
theorem Lk (st:St) (t:Block):fO st (.agg (aV t))=some (.agg (aV t)):=eB (tF t)
theorem aA9 (st:St) (n:Nat) (l:List Int):fO st (.sl n (aK l))=some (.sl n (aK l)):=eB (.sl _ _ (gF l))
theorem aBa (st:St) (n:Nat) (l:List Int):fO st (.sl n (bJ l))=some (.sl n (bJ l)):=eB (.sl _ _ (iF l))
theorem aEd (st:St):fO st (.agg [.v (.slice none 0 0)])=some (.agg [.v (.slice none 0 0)]):=eB (.agg _ (by simp;exact .v _))
theorem fR {α:Type}:cM ([]:List (Option α))=some []:=rfl
theorem bN {α:Type} (x:α) (r:List (Option α)):cM (some x :: r)=(cM r).map (x :: ·):=rfl
theorem aEe (x:Int):yF 3 1 8 (some (1,[.v (.int .i64 x)]))=some (none,.row 3 1 [x].length (aK [x])):=by
 simp[yF,maxLen];rfl
theorem aEf (l:List Int) (x:Int) (s g:Nat) (h:(l.length:Int)<1000000):xV 3 1 8 (some (.row 3 1 l.length (aK l))) s g (some (1,[.v (.int .i64 x)]))=some (some (s,g),.row 3 1 (l++[x]).length (aK (l++[x]))):=by
 simp only[xV];rw[if_pos ⟨by simp,by simp,by simp,by omega,by simp only[maxLen];omega⟩,I9]
 simp[aK,qS]
theorem aBb (x:Node):yF 76 240 352 (some (1,fG x))=some (none,.row 76 240 [x].length (bZ [x])):=by
 simp[yF,maxLen,bZ]
theorem aBc (l:List Node) (x:Node) (s g:Nat) (h:(l.length:Int)<1000000):xV 76 240 352 (some (.row 76 240 l.length (bZ l))) s g (some (1,fG x))=some (some (s,g),.row 76 240 (l++[x]).length (bZ (l++[x]))):=by
 simp only[xV];rw[if_pos ⟨by simp,by simp,by simp,by omega,by simp only[maxLen];omega⟩,AQ]
 simp[bZ]
theorem aBd (l:List Node) (h:(l.length:Int)<1000000):yF 76 240 352 (some (l.length,bZ l))=some (none,.row 76 240 l.length (bZ l)):=by
 simp only[yF];rw[if_pos (by refine⟨by simp, ?_, ?_⟩<;>(try simp only[maxLen])<;>omega)]
theorem aBe (l:List Node) (h:(l.length:Int)<1000000):acE 76 240 352 0 [] (some (l.length,bZ l))=some (none,.row 76 240 l.length (bZ l)):=by
 simp only[acE];rw[if_pos ⟨by simp,by simp,by simp,by omega,by simp only[maxLen];omega⟩]
 simp
theorem aBf (l:List Node) (x:Node) (h:(l.length:Int)<1000000):acE 76 240 352 l.length (bZ l) (some (1,fG x))=some (none,.row 76 240 (l++[x]).length (bZ (l++[x]))):=by
 simp only[acE];rw[if_pos (by refine⟨by simp,by simp,.inr (by omega), ?_, ?_⟩<;>(try simp only[maxLen])<;>omega),AQ]
 simp[bZ]
def onI {α:Type} (x:AV) (k:Int→Option α):Option α :=
 match x with
 | .v (.int .i64 v)=>k v
 | _=>none
def aFP {α:Type} (z:Nat) (x:AV) (k:List AV→Option α):Option α :=
 match x with
 | .agg cs=>if cs.length=z then k cs else none
 | _=>none
@[congr] theorem aJJ {α:Type} {x y:AV} {k:Int→Option α} (h:x=y):onI x k=onI y k:=by rw[h]
@[congr] theorem aFQ {α:Type} {z:Nat} {x y:AV} {k:List AV→Option α} (h:x=y):aFP z x k=aFP z y k:=by rw[h]
def Kz {α:Type} (x:AV) (k:Int→Option α) (fb:Option α):Option α :=
 match x with
 | .v (.int .i64 v)=>k v
 | _=>fb
def RT {α:Type} (z:Nat) (x:AV) (k:List AV→Option α) (fb:Option α):Option α :=
 match x with
 | .agg cs=>if cs.length=z then k cs else fb
 | _=>fb
def RU {α:Type} (x:AV) (k:Nat→List AV→Option α) (fb:Option α):Option α :=
 match x with
 | .rS g cs=>k g cs
 | _=>fb
theorem aEg {α:Type} (v:Int) (k:Int→Option α) (fb:Option α):Kz (.v (.int .i64 v)) k fb=k v:=rfl
theorem J4 {α:Type} (z:Nat) (cs:List AV) (k:List AV→Option α) (fb:Option α) (h:cs.length=z):RT z (.agg cs) k fb=k cs:=if_pos h
theorem J5 {α:Type} (g:Nat) (cs:List AV) (k:Nat→List AV→Option α) (fb:Option α):RU (.rS g cs) k fb=k g cs:=rfl
@[congr] theorem aJK {α:Type} {x y:AV} {k:Int→Option α} {fb:Option α} (h:x=y):Kz x k fb=Kz y k fb:=by rw[h]
@[congr] theorem aFR {α:Type} {z:Nat} {x y:AV} {k:List AV→Option α} {fb:Option α} (h:x=y):RT z x k fb=RT z y k fb:=by rw[h]
@[congr] theorem aFS {α:Type} {x y:AV} {k:Nat→List AV→Option α} {fb:Option α} (h:x=y):RU x k fb=RU y k fb:=by rw[h]
namespace Tryz
open Go.Proofs
theorem J6 (st:St) (x:AV):dH Tryz.prog st 22 (.v (.slice none 0 0)) x=yF 3 1 8 (aW st x):=uO Ky x
theorem J7 (st:St) (s g:Nat) (x:AV):dH Tryz.prog st 22 (.own s g) x=xV 3 1 8 (st.heap s g) s g (aW st x):=sQ Ky s g x
theorem J8 (st:St) (x:AV):dH Tryz.prog st 48 (.v (.slice none 0 0)) x=yF 76 240 352 (aW st x):=uO RP x
theorem J9 (st:St) (s g:Nat) (x:AV):dH Tryz.prog st 48 (.own s g) x=xV 76 240 352 (st.heap s g) s g (aW st x):=sQ RP s g x
theorem aBg (st:St) (n:Nat) (cs:List AV) (x:AV):dH Tryz.prog st 48 (.cl n cs) x=acE 76 240 352 n cs (aW st x):=aHv RP n cs x
theorem K0 (st:St) (s g:Nat) (k:IntKind) (i:Int):bH Tryz.prog st 22 (.own s g) (.v (.int k i))=KU 3 1 (st.heap s g) s g i:=by
 simp only[bH,aD8,Ky,KU];cases st.heap s g with
 | none=>rfl
 | some e=>cases e<;>rfl
theorem K1 (st:St) (s g:Nat) (k:IntKind) (i:Int):bH Tryz.prog st 48 (.own s g) (.v (.int k i))=KU 76 240 (st.heap s g) s g i:=by
 simp only[bH,aIV,RP,KU];cases st.heap s g with
 | none=>rfl
 | some e=>cases e<;>rfl
theorem aEh (l:List Int) (s g:Nat) (i:Int) (h0:0≤i) (h1:i<l.length):KU 3 1 (some (.row 3 1 l.length (aK l))) s g i=some (.ptr s g i.toNat):=by
 simp[KU,h0,h1]
theorem aBh (l:List Node) (s g:Nat) (i:Int) (h0:0≤i) (h1:i<l.length):KU 76 240 (some (.row 76 240 l.length (bZ l))) s g i=some (.ptr s g (i.toNat * 240)):=by
 simp[KU,h0,h1]
theorem RV (st:St) (s g:Nat):fO st (.agg [.own s g])=(jG (st.heap s g)).map fun y=>.agg [y]:=by
 have hn:¬Flat (.agg [.own s g]):=by intro h;cases h with|agg _ h=>exact mW s g (h _ (by simp))
 unfold fO jG;rw[if_neg hn];simp only[List.map_cons,List.map_nil];unfold cN;rw[if_neg (mW s g)];simp only
 cases st.heap s g with
 | none=>rfl
 | some e=>cases e with
   | row a b n cs =>
     by_cases h:∀c∈cs,Flat c
     ·simp only[if_pos h,cM,Option.map_some]
     ·simp only[if_neg h,cM,Option.map_none]
   | _=>rfl
theorem aI0 (x:AV):rd [x] 0 1=[x]:=rfl
theorem aI1 (x y:AV):dQ [x] 0 [y] 1=[y]:=rfl
theorem aBi (x:AV) (t:Tree):dQ [x] 0 (cO t) 1=cO t:=rfl
theorem aBj (x:AV) (t:Tree):dQ (cO t) 0 [x] 1=[x]:=rfl
theorem nM {l:List Int} {i:Int} (h0:0≤i) (h1:i<l.length):(aK l)[i.toNat]? = some (.v (.int .i64 (it l i))):=J0 h0 h1
def vow (o:Option nU):Option (Nat × List AV) :=
 match o with
 | some (.row _ _ n cs)=>some (n,cs)
 | _=>none
theorem aEi (e sz n:Nat) (cs:List AV):vow (some (.row e sz n cs))=some (n,cs):=rfl
theorem K2 (st:St) (s g:Nat):aW st (.own s g)=vow (st.heap s g):=by
 simp only[aW,vow];cases st.heap s g with
 | none=>rfl
 | some o=>cases o<;>rfl
section
variable {call:Nat→List AV→Option AV} {ops:Array Oper} {st:St} {T:Nat} {pos:String} {eQ:Array Edge}
theorem aEj (d:Nat) (x:Operand) {v:Int} (h:st.ev x=.v (.int .i64 v)):cH Tryz.prog call ops ⟨some d,.buildSlice 22 1 #[(0,x)],T,pos,eQ,none⟩ st=some ((st.new d (.row 3 1 1 [.v (.int .i64 v)])).put (some d) (.own d (st.aQ d))):=by
 rw[kY];simp[Ky,ze3,cS,h,AV.jD,Value.oneCell',gS,AV.cells]
theorem aEk (d:Nat) (x:Operand) {cs:List AV} (h:st.ev x=.agg cs) (hl:cs.length=240):cH Tryz.prog call ops ⟨some d,.buildSlice 48 1 #[(0,x)],T,pos,eQ,none⟩ st=some ((st.new d (.row 76 240 1 cs)).put (some d) (.own d (st.aQ d))):=by
 rw[kY];have hz:(Zl.map AV.v).length=240:=by rw[JC];simp
 simp only[RP,aH1,cS,List.toList_toArray,List.all_cons,List.all_nil,h,AV.jD,Bool.and_self,List.map_cons,List.map_nil,gS,AV.cells,hl,Nat.zero_mul,Nat.zero_add,true_and,List.take_zero,List.nil_append];have h2:((List.range 1).flatMap fun _=>Zl.map AV.v)=Zl.map AV.v:=by simp[List.range,List.range.loop]
 rw[h2,if_pos (by simp),if_pos (by rw[hz];exact Nat.le_refl _)]
 rw[List.drop_of_length_le (by rw[hz];exact Nat.le_refl _),List.append_nil]
theorem aBk (d:Nat) (x:Operand):cH Tryz.prog call ops ⟨some d,.buildSlice 22 1 #[(0,x)],T,pos,eQ,none⟩ st =
 Kz (st.ev x) (fun v=>some ((st.new d (.row 3 1 1 [.v (.int .i64 v)])).put (some d) (.own d (st.aQ d)))) (cH Tryz.prog call ops ⟨some d,.buildSlice 22 1 #[(0,x)],T,pos,eQ,none⟩ st):=by
 unfold Kz;split
 ·rename_i v h;exact aEj d x h
 ·rfl
theorem K3 (d:Nat) (x y z:Operand) {a b c:Int} (h1:st.ev x=.v (.int .i64 a)) (h2:st.ev y=.v (.int .i64 b)) (h3:st.ev z=.v (.int .i64 c)):cH Tryz.prog call ops ⟨some d,.buildSlice 22 3 #[(0,x),(1,y),(2,z)],T,pos,eQ,none⟩ st =
 some ((st.new d (.row 3 1 [a,b,c].length (aK [a,b,c]))).put (some d) (.own d (st.aQ d))):=by
 rw[kY];simp[Ky,ze3,cS,h1,h2,h3,AV.jD,Value.oneCell',gS,AV.cells,List.range,List.range.loop,aK,qS]
theorem YB (d:Nat) (x y z:Operand):cH Tryz.prog call ops ⟨some d,.buildSlice 22 3 #[(0,x),(1,y),(2,z)],T,pos,eQ,none⟩ st =
 Kz (st.ev x) (fun a=>Kz (st.ev y) (fun b=>Kz (st.ev z) (fun c=>some ((st.new d (.row 3 1 [a,b,c].length (aK [a,b,c]))).put (some d) (.own d (st.aQ d)))) (cH Tryz.prog call ops ⟨some d,.buildSlice 22 3 #[(0,x),(1,y),(2,z)],T,pos,eQ,none⟩ st))
  (cH Tryz.prog call ops ⟨some d,.buildSlice 22 3 #[(0,x),(1,y),(2,z)],T,pos,eQ,none⟩ st)) (cH Tryz.prog call ops ⟨some d,.buildSlice 22 3 #[(0,x),(1,y),(2,z)],T,pos,eQ,none⟩ st):=by
 unfold Kz;split
 ·rename_i a h1;try dsimp only
  split
  ·rename_i b h2;try dsimp only
   split
   ·rename_i c h3;exact K3 d x y z h1 h2 h3
   ·rfl
  ·rfl
 ·rfl
theorem aBl (d:Nat) (x:Operand):cH Tryz.prog call ops ⟨some d,.buildSlice 48 1 #[(0,x)],T,pos,eQ,none⟩ st =
 RT 240 (st.ev x) (fun cs=>some ((st.new d (.row 76 240 1 cs)).put (some d) (.own d (st.aQ d)))) (cH Tryz.prog call ops ⟨some d,.buildSlice 48 1 #[(0,x)],T,pos,eQ,none⟩ st):=by
 unfold RT;split
 ·rename_i cs h;split
  ·rename_i hl;exact aEk d x h hl
  ·rfl
 ·rfl
theorem DJ (S d:Nat) (l c:Operand):cH Tryz.prog call ops ⟨some d,.makeSlice S l c,T,pos,eQ,none⟩ st =
 Kz (st.ev l) (fun n=>Kz (st.ev c) (fun m=>if 0≤n∧n=m then (cS (dS Tryz.prog S) fun t=>cS (eH Tryz.prog t.1) fun z =>
  if n * t.2.2≤140737488355328∧n≤maxLen then some ((st.new d (.row t.1 t.2.1 n.toNat ((List.range n.toNat).flatMap fun _=>z.map .v))).put (some d) (.own d (st.aQ d))) else none)
  else cH Tryz.prog call ops ⟨some d,.makeSlice S l c,T,pos,eQ,none⟩ st) (cH Tryz.prog call ops ⟨some d,.makeSlice S l c,T,pos,eQ,none⟩ st)) (cH Tryz.prog call ops ⟨some d,.makeSlice S l c,T,pos,eQ,none⟩ st):=by
 unfold Kz;split
 ·rename_i n hl;split
  ·rename_i m hc;dsimp only
   split
   ·rename_i hnm;obtain⟨h0,rfl⟩:=hnm
    have hn:n=(n.toNat:Int):=by omega
    rw[IU S d l c (n:=n.toNat) (by rw[hl,← hn]) (by rw[hc,← hn]),← hn]
   ·rfl
  ·rfl
 ·rfl
theorem K4 (t:Nat) (args:Array Operand) (tL:Array Nat) (d:Option Nat):cH Tryz.prog call ops ⟨d,.call ⟨.value (.tmp t),args,tL⟩,T,pos,eQ,none⟩ st =
 RU (st.env t) (fun g mF=>cS (aN call g (args.toList.map st.ev++mF) st d) fun e=>some (e.apply st)) (cH Tryz.prog call ops ⟨d,.call ⟨.value (.tmp t),args,tL⟩,T,pos,eQ,none⟩ st):=by
 unfold RU;split
 ·rename_i g mF h;exact aAq t args tL h
 ·rfl
end
end Tryz
end Go.Ab
end
namespace Go.Ab
open Classical
theorem aEl (b:Bool):unA .not (.v (.bool b))=some (.v (.bool (!b))):=rfl
theorem aEm (k:IntKind) (n:Int):unA .neg (.v (.int k n))=some (.v (.int k (k.wrap (0-n)))):=rfl
theorem aEn (k:IntKind) (n:Int):unA .xor (.v (.int k n))=some (.v (.int k (k.wrap (BitVec.ofInt k.bits (if k.signed then -1 else k.max) ^^^ BitVec.ofInt k.bits n).toNat))):=rfl
def aBm (a b:Option IntKind) (n:Int):Option AV :=
 match a,b with
 | some k,some _=>some (.v (.int k (k.wrap n)))
 | _,_=>none
theorem YC (k k':IntKind) (n:Int):aBm (some k) (some k') n=some (.v (.int k (k.wrap n))):=rfl
theorem K5 (P:Program) (s d:Nat) (k:IntKind) (n:Int):PK P s d (.v (.int k n))=aBm (intKind P d) (intKind P s) n:=by
 simp only[PK,aBm];cases intKind P d with
 | none=>rfl
 | some a=>cases intKind P s<;>rfl
theorem aEo (s g o k:Nat):vF (.ptr s g o) k=some (.ptr s g (o+k)):=rfl
theorem aI2 (cs:List AV) (o k:Nat):vF (.ip cs o) k=if o+k≤cs.length then some (.ip cs (o+k)) else none:=rfl
def rW (P:Program) (T:Nat) (e:Option nU) (o:Nat):Option AV :=
 match e with
 | some (.cells cs)=>fB P T cs o
 | some (.row _ _ _ cs)=>fB P T cs o
 | _=>none
theorem RW (P:Program) (T o:Nat) (cs:List AV):rW P T (some (.cells cs)) o=fB P T cs o:=rfl
theorem K6 (P:Program) (T o e sz n:Nat) (cs:List AV):rW P T (some (.row e sz n cs)) o=fB P T cs o:=rfl
theorem aEp (P:Program) (st:St) (T o:Nat) (cs:List AV):Fm P st T (.ip cs o)=fB P T cs o:=rfl
theorem aBn (P:Program) (st:St) (T s g o:Nat):Fm P st T (.ptr s g o)=rW P T (st.heap s g) o:=by
 simp only[Fm,rW];cases st.heap s g with
 | none=>rfl
 | some e=>cases e<;>rfl
theorem aI3 (x:Value):(AV.v x).jD=x.oneCell':=rfl
theorem aBo (cs:List AV):(AV.agg cs).jD=true:=rfl
theorem aEq (n:Nat) (cs:List AV):(AV.sl n cs).jD=true:=rfl
theorem aEr (n:Nat) (cs:List AV):(AV.cl n cs).jD=true:=rfl
theorem aEs (n:Nat) (cs:List AV):(AV.ip cs n).jD=true:=rfl
theorem aBp (s g o:Nat):(AV.ptr s g o).jD=true:=rfl
theorem aBq (s g:Nat):(AV.own s g).jD=true:=rfl
theorem aEt (s g:Nat):(AV.mp s g).jD=true:=rfl
theorem aBr (f:Nat) (cs:List AV):(AV.rS f cs).jD=true:=rfl
theorem aOq (x:Value):(AV.v x).cells=[.v x]:=rfl
theorem aEu (cs:List AV):(AV.agg cs).cells=cs:=rfl
theorem aI4 (n:Nat) (cs:List AV):(AV.sl n cs).cells=[.sl n cs]:=rfl
theorem aI5 (n:Nat) (cs:List AV):(AV.cl n cs).cells=[.cl n cs]:=rfl
theorem aI6 (n:Nat) (cs:List AV):(AV.ip cs n).cells=[.ip cs n]:=rfl
theorem aEv (s g o:Nat):(AV.ptr s g o).cells=[.ptr s g o]:=rfl
theorem aEw (s g:Nat):(AV.own s g).cells=[.own s g]:=rfl
theorem aI7 (s g:Nat):(AV.mp s g).cells=[.mp s g]:=rfl
theorem aEx (f:Nat) (cs:List AV):(AV.rS f cs).cells=[.rS f cs]:=rfl
theorem aEy (k:IntKind) (n:Int):(Value.int k n).oneCell'=true:=rfl
theorem aBs (b:Bool):(Value.bool b).oneCell'=true:=rfl
theorem K7 (a:Option Addr) (n m:Nat):(Value.slice a n m).oneCell'=true:=rfl
theorem YD (id:Nat):Ex.normal.inBlock id=.normal:=rfl
theorem aEz (id:Nat):Ex.ret.inBlock id=.ret:=rfl
theorem aBt (id i:Nat):(Ex.exit i).inBlock id=if i=id then .normal else .exit i:=rfl
theorem aEA (l:List Oper) (j:Nat):o7 l.toArray j=(l[j]?).bind (·.dst):=by simp[o7]
theorem gei (a b:Int):(a≥b)=(b≤a):=rfl
theorem gti (a b:Int):(a > b)=(b<a):=rfl
theorem aVu (a b:Nat):(a≥b)=(b≤a):=rfl
theorem gtn (a b:Nat):(a > b)=(b<a):=rfl
end Go.Ab
section
namespace Go.Ab
open Classical
def cU8 (x:Int):List AV:=[.v (.int .u8 x)]
theorem aEB (x:Int):(cU8 x).length=1:=rfl
theorem aBu (s:Int):∀x∈cU8 s,Flat x:=by intro x hx;simp[cU8] at hx;subst hx;exact .v _
def kF (l:List Int):List AV:=l.flatMap cU8
theorem vR (l:List Int):∀x∈kF l,Flat x:=by
 intro x hx;obtain⟨y,_,hy⟩:=List.mem_flatMap.1 hx
 exact aBu y x hy
section
variable {α:Type} {c:α→List AV} {sz:Nat}
theorem iJ (hc:∀x,(c x).length=sz) (l:List α):(l.flatMap c).length=l.length * sz:=by
 induction l with
 | nil=>simp
 | cons x l ih=>simp only[List.flatMap_cons,List.length_append,hc,List.length_cons,ih];rw[Nat.succ_mul];omega
theorem wD (hc:∀x,(c x).length=sz):∀(l:List α) (k:Nat),(l.flatMap c).take (k * sz)=(l.take k).flatMap c
 | [],k=>by simp
 | x :: l,0=>by simp
 | x :: l,k+1=>by
   simp only[List.flatMap_cons,List.take_succ_cons];rw[List.take_append,List.take_of_length_le (by rw[hc,Nat.succ_mul];omega),hc,show (k+1) * sz-sz=k * sz by rw[Nat.succ_mul];omega,wD hc l k]
theorem Bi (hc:∀x,(c x).length=sz):∀(l:List α) (k:Nat),(l.flatMap c).drop (k * sz)=(l.drop k).flatMap c
 | [],k=>by simp
 | x :: l,0=>by simp
 | x :: l,k+1=>by
   simp only[List.flatMap_cons,List.drop_succ_cons];rw[List.drop_append,List.drop_of_length_le (by rw[hc,Nat.succ_mul];omega),List.nil_append,hc,show (k+1) * sz-sz=k * sz by rw[Nat.succ_mul];omega,Bi hc l k]
theorem Iu (hc:∀x,(c x).length=sz) {z:α} {l:List α} {i:Int} (h0:0≤i) (h1:i<l.length):((l.flatMap c).drop (i.toNat * sz)).take sz=c (gx z l i):=by
 obtain⟨h,e⟩:=XK (z:=z) h0 h1
 rw[Bi hc,e];have h2:=wD hc (l.drop i.toNat) 1
 rw[Nat.one_mul] at h2;rw[h2];have h3:(l.drop i.toNat).take 1=[l[i.toNat]]:=by rw[List.take_one];simp[List.head?_drop,h]
 rw[h3];simp
theorem Sm (hc:∀x,(c x).length=sz) (l:List α) (k:Nat) (x:α) (h:k<l.length):dQ (l.flatMap c) (k * sz) (c x) (k * sz+sz)=(l.set k x).flatMap c:=by
 unfold dQ;rw[wD hc,show k * sz+sz=(k+1) * sz by rw[Nat.succ_mul],Bi hc,List.set_eq_take_append_cons_drop,if_pos h]
 simp
theorem FY [Ext] {P:Program} {T e n k off:Nat} (hc:∀x,(c x).length=sz) {z:α} {l:List α} {i:Int} (h0:0≤i) (h1:i<l.length) (hk:sO P T=some k) (qA:0<k) (ho:off+k≤sz) :
 rW P T (some (.row e sz n (l.flatMap c))) (i.toNat * sz+off)=fB P T (c (gx z l i)) off:=by
 obtain⟨hn,_⟩:=XK (z:=z) h0 h1
 have hat:=Iu hc (z:=z) h0 h1
 have hle:i.toNat * sz+sz≤(l.flatMap c).length:=by
  rw[iJ hc,← Nat.succ_mul];exact Nat.mul_le_mul_right _ hn
 have zD:=hc (gx z l i)
 simp only[rW,fB];unfold sO at hk;cases hi:fQ P T with
 | none=>rfl
 | some r =>
   obtain⟨b,k'⟩:=r
   rw[hi] at hk;simp only[Option.map_some,Option.some.injEq] at hk;subst hk;have hg:∀j,j<sz→(l.flatMap c)[i.toNat * sz+j]? = (c (gx z l i))[j]?:=fun j hj=>by
    rw[← hat,List.getElem?_take,if_pos hj,List.getElem?_drop]
   cases b with
   | true =>
     simp only
     have e1:rd (l.flatMap c) (i.toNat * sz+off) k'=rd (c (gx z l i)) off k':=by
      unfold rd;rw[← hat,List.drop_take,List.drop_drop,List.take_take,Nat.min_eq_left (by omega)]
     rw[e1];have l1:k'≤(l.flatMap c).length-(i.toNat * sz+off):=by omega
     have l2:k'≤(c (gx z l i)).length-off:=by omega
     rw[if_pos ⟨qA,l1⟩,if_pos ⟨qA,l2⟩]
   | false =>
     simp only
     exact hg off (by omega)
end
theorem aBv (ns:List Node):mS ⟨.sl ns.length (bZ ns)⟩=cO ⟨ns⟩:=rfl
theorem AR (s:aL) (l:List Node):dQ (aA s) 115 (cO ⟨l⟩) 116=aA { s with tree:=⟨.sl l.length (bZ l)⟩}:=Cl s ⟨.sl l.length (bZ l)⟩
theorem AS (s:State) (l:List Node):dQ (aP s) 115 (cO ⟨l⟩) 116=aP { s with store:={ s.store with tree:=⟨.sl l.length (bZ l)⟩} }:=xZ s ⟨.sl l.length (bZ l)⟩
namespace Tryz
open Go.Proofs
theorem K8 (st:St) (t:dP):fO st (.agg (aY t))=some (.agg (aY t)):=eB (.agg _ (bM t))
theorem KN (st:St) (t:Request):fO st (.agg (dD t))=some (.agg (dD t)):=eB (.agg _ (jO t))
theorem RX (st:St) (s:aL) (h:Flat (.agg (aA s))):fO st (.agg (aA s))=some (.agg (aA s)):=eB h
theorem RY (st:St) (s:State) (h:Flat (.agg (aP s))):fO st (.agg (aP s))=some (.agg (aP s)):=eB h
theorem aEC (st:St) {l:List dP} {kk:IntKind} {i:Int} (h0:0≤i) (h1:i<l.length):bH Tryz.prog st 109 (.sl l.length (pG l)) (.v (.int kk i))=some (.ip (aY (gx gN l i)) 0):=by
 have hl:i.toNat<l.length:=by omega
 have h2:i.toNat * 33+33≤(l.flatMap aY).length:=by rw[iJ bU,← Nat.succ_mul];exact Nat.mul_le_mul_right _ hl
 have h3:((pG l).drop (i.toNat * 33)).take 33=aY (gx gN l i):=Iu bU h0 h1
 have h4:(pG l).length=(l.flatMap aY).length:=rfl
 (simp only[bH,aA4,MB,h0,h1,h4,h2,and_self,if_true,h3])<;>rfl
theorem GN {T n k off:Nat} {l:List dP} {i:Int} (h0:0≤i) (h1:i<l.length) (hk:sO Tryz.prog T=some k) (qA:0<k) (ho:off+k≤33):rW Tryz.prog T (some (.row 41 33 n (pG l))) (i.toNat * 33+off)=fB Tryz.prog T (aY (gx gN l i)) off:=FY bU h0 h1 hk qA ho
theorem ZF {T n k:Nat} {l:List dP} {i:Int} (h0:0≤i) (h1:i<l.length) (hk:sO Tryz.prog T=some k) (qA:0<k) (ho:k≤33):rW Tryz.prog T (some (.row 41 33 n (pG l))) (i.toNat * 33)=fB Tryz.prog T (aY (gx gN l i)) 0:=by
 have h:=GN (n:=n) (off:=0) h0 h1 hk qA (by omega)
 rw[Nat.add_zero] at h;exact h
theorem Np (l:List dP) (i:Int) (x:dP) (h:i.toNat<l.length):dQ (pG l) (i.toNat * 33) (aY x) (i.toNat * 33+33)=pG (l.set i.toNat x):=by
 generalize i.toNat=k at h ⊢
 have:=Sm (c:=aY) (sz:=33) bU l k x h
 exact this
theorem RZ (st:St) (o:Option (List kN)):aW st (ov dC o)=some ((ol o).length,dC (ol o)):=by cases o<;>rfl
theorem qY (o:Option (List kN)):Flat (ov dC o):=by
 cases o with
 | none=>exact .v _
 | some l=>exact .sl _ _ (mY l)
theorem aBw (st:St) {l:List kN} {kk:IntKind} {i:Int} (h0:0≤i) (h1:i<l.length):bH Tryz.prog st 37 (.sl l.length (dC l)) (.v (.int kk i))=some (.ip (jN (gx tI l i)) 0):=by
 have hl:i.toNat<l.length:=by omega
 have h2:i.toNat * 34+34≤(l.flatMap jN).length:=by rw[iJ rR,← Nat.succ_mul];exact Nat.mul_le_mul_right _ hl
 have h3:((dC l).drop (i.toNat * 34)).take 34=jN (gx tI l i):=Iu rR h0 h1
 have h4:(dC l).length=(l.flatMap jN).length:=rfl
 (simp only[bH,aIT,I8,h0,h1,h4,h2,and_self,if_true,h3])<;>rfl
theorem aI8 (st:St) {o:Option (List kN)} {kk:IntKind} {i:Int} (h0:0≤i) (h1:i<(ol o).length):bH Tryz.prog st 37 (ov dC o) (.v (.int kk i))=some (.ip (jN (gx tI (ol o) i)) 0):=by
 cases o with
 | none=>simp[ol] at h1;omega
 | some l=>exact aBw st h0 h1
theorem MG (l:List kN) (h:(l.length:Int)<1000000):yF 100 34 48 (some (l.length,dC l))=some (none,.row 100 34 l.length (dC l)):=by
 unfold yF;simp only
 rw[if_pos ⟨iJ rR l,by omega,by simp only[maxLen];omega⟩]
theorem Ve (n:Nat) (l:List kN):jG (some (.row 100 34 n (dC l)))=some (.sl n (dC l)):=by
 unfold jG;simp only;rw[if_pos (mY l)]
theorem u9 {T n k off:Nat} {l:List kN} {i:Int} (h0:0≤i) (h1:i<l.length) (hk:sO Tryz.prog T=some k) (qA:0<k) (ho:off+k≤34):rW Tryz.prog T (some (.row 100 34 n (dC l))) (i.toNat * 34+off)=fB Tryz.prog T (jN (gx tI l i)) off:=FY rR h0 h1 hk qA ho
theorem ZH {T n k:Nat} {l:List kN} {i:Int} (h0:0≤i) (h1:i<l.length) (hk:sO Tryz.prog T=some k) (qA:0<k) (ho:k≤34):rW Tryz.prog T (some (.row 100 34 n (dC l))) (i.toNat * 34)=fB Tryz.prog T (jN (gx tI l i)) 0:=by
 have h:=u9 (n:=n) (off:=0) h0 h1 hk qA (by omega)
 rw[Nat.add_zero] at h;exact h
theorem GQ (l:List kN) (i:Int) (x:kN) (h:i.toNat<l.length):dQ (dC l) (i.toNat * 34) (jN x) (i.toNat * 34+34)=dC (l.set i.toNat x):=by
 generalize i.toNat=k at h ⊢
 have:=Sm (c:=jN) (sz:=34) rR l k x h
 exact this
theorem YE (st:St) (o:Option (List sC)):aW st (ov dN o)=some ((ol o).length,dN (ol o)):=by cases o<;>rfl
theorem Wt (o:Option (List sC)) (h:∀y∈ol o,Flat y.eU):Flat (ov dN o):=by
 cases o with
 | none=>exact .v _
 | some l=>exact .sl _ _ (sW l h)
theorem aBx (st:St) {l:List sC} {kk:IntKind} {i:Int} (h0:0≤i) (h1:i<l.length):bH Tryz.prog st 44 (.sl l.length (dN l)) (.v (.int kk i))=some (.ip (iB (gx Hk l i)) 0):=by
 have hl:i.toNat<l.length:=by omega
 have h2:i.toNat * 67+67≤(l.flatMap iB).length:=by rw[iJ iH,← Nat.succ_mul];exact Nat.mul_le_mul_right _ hl
 have h3:((dN l).drop (i.toNat * 67)).take 67=iB (gx Hk l i):=Iu iH h0 h1
 have h4:(dN l).length=(l.flatMap iB).length:=rfl
 (simp only[bH,aNV,aA3,h0,h1,h4,h2,and_self,if_true,h3])<;>rfl
theorem aI9 (st:St) {o:Option (List sC)} {kk:IntKind} {i:Int} (h0:0≤i) (h1:i<(ol o).length):bH Tryz.prog st 44 (ov dN o) (.v (.int kk i))=some (.ip (iB (gx Hk (ol o) i)) 0):=by
 cases o with
 | none=>simp[ol] at h1;omega
 | some l=>exact aBx st h0 h1
theorem HC (x:sC):yF 87 67 104 (some (1,iB x))=some (none,.row 87 67 [x].length (dN [x])):=by
 simp[yF,maxLen,dN]
theorem ZK (l:List sC) (h:(l.length:Int)<1000000):yF 87 67 104 (some (l.length,dN l))=some (none,.row 87 67 l.length (dN l)):=by
 unfold yF;simp only
 rw[if_pos ⟨iJ iH l,by omega,by simp only[maxLen];omega⟩]
theorem Vg (l:List sC) (x:sC) (s g:Nat) (h:(l.length:Int)<1000000):xV 87 67 104 (some (.row 87 67 l.length (dN l))) s g (some (1,iB x))=some (some (s,g),.row 87 67 (l++[x]).length (dN (l++[x]))):=by
 simp only[xV];rw[if_pos ⟨by simp,trivial,trivial,by omega,by simp only[maxLen];omega⟩]
 simp[dN,List.flatMap_append]
theorem T3 (n:Nat) (l:List sC) (h:∀y∈l,Flat y.eU):jG (some (.row 87 67 n (dN l)))=some (.sl n (dN l)):=by
 unfold jG;simp only;rw[if_pos (sW l h)]
theorem KO (st:St) (o:Option (List Table)):aW st (ov aI o)=some ((ol o).length,aI (ol o)):=by cases o<;>rfl
theorem fY (o:Option (List Table)) (h:∀y∈ol o,Flat y.iP):Flat (ov aI o):=by
 cases o with
 | none=>exact .v _
 | some l=>exact .sl _ _ (jV l h)
theorem nC (st:St) (o:Option (List Table)) (h:∀y∈ol o,Flat y.iP):fO st (ov aI o)=some (ov aI o):=eB (fY o h)
theorem KP (o:Option (List Table)):(ov aI o).jD=true:=by cases o<;>rfl
theorem SA (o:Option (List Table)):(ov aI o).cells=[ov aI o]:=by cases o<;>rfl
theorem aBy (st:St) {l:List Table} {kk:IntKind} {i:Int} (h0:0≤i) (h1:i<l.length):bH Tryz.prog st 51 (.sl l.length (aI l)) (.v (.int kk i))=some (.ip (cA (gx dX l i)) 0):=by
 have hl:i.toNat<l.length:=by omega
 have h2:i.toNat * 34+34≤(l.flatMap cA).length:=by rw[iJ eM,← Nat.succ_mul];exact Nat.mul_le_mul_right _ hl
 have h3:((aI l).drop (i.toNat * 34)).take 34=cA (gx dX l i):=Iu eM h0 h1
 have h4:(aI l).length=(l.flatMap cA).length:=rfl
 (simp only[bH,aIW,Rc,h0,h1,h4,h2,and_self,if_true,h3])<;>rfl
theorem aJa (st:St) {o:Option (List Table)} {kk:IntKind} {i:Int} (h0:0≤i) (h1:i<(ol o).length):bH Tryz.prog st 51 (ov aI o) (.v (.int kk i))=some (.ip (cA (gx dX (ol o) i)) 0):=by
 cases o with
 | none=>simp[ol] at h1;omega
 | some l=>exact aBy st h0 h1
theorem EX (x:Table):yF 118 34 64 (some (1,cA x))=some (none,.row 118 34 [x].length (aI [x])):=by
 simp[yF,maxLen,aI]
theorem EJ (l:List Table) (h:(l.length:Int)<1000000):yF 118 34 64 (some (l.length,aI l))=some (none,.row 118 34 l.length (aI l)):=by
 unfold yF;simp only
 rw[if_pos ⟨iJ eM l,by omega,by simp only[maxLen];omega⟩]
theorem Qn (l:List Table) (x:Table) (s g:Nat) (h:(l.length:Int)<1000000):xV 118 34 64 (some (.row 118 34 l.length (aI l))) s g (some (1,cA x))=some (some (s,g),.row 118 34 (l++[x]).length (aI (l++[x]))):=by
 simp only[xV];rw[if_pos ⟨by simp,trivial,trivial,by omega,by simp only[maxLen];omega⟩]
 simp[aI,List.flatMap_append]
theorem EK (l m:List Table) (s g:Nat) (h:(l.length:Int)<1000000) (h2:(m.length:Int)<1000000):xV 118 34 64 (some (.row 118 34 l.length (aI l))) s g (some (m.length,aI m))=some (some (s,g),.row 118 34 (l++m).length (aI (l++m))):=by
 simp only[xV];rw[if_pos ⟨iJ eM m,trivial,trivial,by omega,by simp only[maxLen];omega⟩]
 simp[aI,List.flatMap_append]
theorem Nr (n:Nat) (l:List Table) (h:∀y∈l,Flat y.iP):jG (some (.row 118 34 n (aI l)))=some (.sl n (aI l)):=by
 unfold jG;simp only;rw[if_pos (jV l h)]
theorem SC {T n k off:Nat} {l:List Table} {i:Int} (h0:0≤i) (h1:i<l.length) (hk:sO Tryz.prog T=some k) (qA:0<k) (ho:off+k≤34):rW Tryz.prog T (some (.row 118 34 n (aI l))) (i.toNat * 34+off)=fB Tryz.prog T (cA (gx dX l i)) off:=FY eM h0 h1 hk qA ho
theorem NY {T n k:Nat} {l:List Table} {i:Int} (h0:0≤i) (h1:i<l.length) (hk:sO Tryz.prog T=some k) (qA:0<k) (ho:k≤34):rW Tryz.prog T (some (.row 118 34 n (aI l))) (i.toNat * 34)=fB Tryz.prog T (cA (gx dX l i)) 0:=by
 have h:=SC (n:=n) (off:=0) h0 h1 hk qA (by omega)
 rw[Nat.add_zero] at h;exact h
theorem aBz (l:List Table) (i:Int) (x:Table) (h:i.toNat<l.length):dQ (aI l) (i.toNat * 34) (cA x) (i.toNat * 34+34)=aI (l.set i.toNat x):=by
 generalize i.toNat=k at h ⊢
 have:=Sm (c:=cA) (sz:=34) eM l k x h
 exact this
theorem aOr (st:St) (o:Option (List Table)) (hi:Operand):dA Tryz.prog st 51 (ov aI o) none (some hi)=Kz (st.ev hi) (fun j=>if 0≤j∧j≤(ol o).length then some (ov aI (o.map (·.take j.toNat))) else dA Tryz.prog st 51 (ov aI o) none (some hi)) (dA Tryz.prog st 51 (ov aI o) none (some hi)):=by
 unfold Kz;split
 ·rename_i j hj;dsimp only
  split
  ·rename_i hc;obtain⟨j0,j1⟩:=hc
   cases o with
   | none =>
     have:j=0:=by simp[ol] at j1;omega
     subst this;simp[dA,Rc,ov,hj]
   | some l =>
     have j1:j≤l.length:=j1
     have hn:j.toNat≤l.length:=by omega
     simp only[dA,Rc,ov,hj];rw[if_pos ⟨Int.le_refl _,j0,j1,iJ eM l⟩];simp only[Int.toNat_zero,Nat.zero_mul,List.drop_zero,Int.sub_zero,Option.map_some];rw[show (aI l).take (j.toNat * 34)=aI (l.take j.toNat) from wD eM l j.toNat,List.length_take,Nat.min_eq_left hn]
  ·rfl
 ·rfl
theorem aED (st:St) (o:Option (List Table)) (lo:Operand):dA Tryz.prog st 51 (ov aI o) (some lo) none=Kz (st.ev lo) (fun j=>if 0≤j∧j≤(ol o).length then some (ov aI (o.map (·.drop j.toNat))) else dA Tryz.prog st 51 (ov aI o) (some lo) none) (dA Tryz.prog st 51 (ov aI o) (some lo) none):=by
 unfold Kz;split
 ·rename_i j hj;dsimp only
  split
  ·rename_i hc;obtain⟨j0,j1⟩:=hc
   cases o with
   | none =>
     have:j=0:=by simp[ol] at j1;omega
     subst this;simp[dA,Rc,ov,hj]
   | some l =>
     have j1:j≤l.length:=j1
     have hn:j.toNat≤l.length:=by omega
     have e1:((l.length:Int)-j).toNat=l.length-j.toNat:=by omega
     simp only[dA,Rc,ov,hj];rw[if_pos ⟨j0,j1,Int.le_refl _,iJ eM l⟩];simp only[Option.map_some,e1];rw[show (aI l).drop (j.toNat * 34)=aI (l.drop j.toNat) from Bi eM l j.toNat,List.length_drop,List.take_of_length_le];rw[show aI (l.drop j.toNat)=(l.drop j.toNat).flatMap cA from rfl,iJ eM,List.length_drop];exact Nat.le_refl _
  ·rfl
 ·rfl
theorem KQ (st:St) (o:Option (List Block)):aW st (ov aF o)=some ((ol o).length,aF (ol o)):=by cases o<;>rfl
theorem uC (o:Option (List Block)):Flat (ov aF o):=by
 cases o with
 | none=>exact .v _
 | some l=>exact .sl _ _ (lA l)
theorem aBA (st:St) {l:List Block} {kk:IntKind} {i:Int} (h0:0≤i) (h1:i<l.length):bH Tryz.prog st 45 (.sl l.length (aF l)) (.v (.int kk i))=some (.ip (aV (gx dY l i)) 0):=by
 have hl:i.toNat<l.length:=by omega
 have h2:i.toNat * 238+238≤(l.flatMap aV).length:=by rw[iJ bR,← Nat.succ_mul];exact Nat.mul_le_mul_right _ hl
 have h3:((aF l).drop (i.toNat * 238)).take 238=aV (gx dY l i):=Iu bR h0 h1
 have h4:(aF l).length=(l.flatMap aV).length:=rfl
 (simp only[bH,aIU,nK,h0,h1,h4,h2,and_self,if_true,h3])<;>rfl
theorem aJb (st:St) {o:Option (List Block)} {kk:IntKind} {i:Int} (h0:0≤i) (h1:i<(ol o).length):bH Tryz.prog st 45 (ov aF o) (.v (.int kk i))=some (.ip (aV (gx dY (ol o) i)) 0):=by
 cases o with
 | none=>simp[ol] at h1;omega
 | some l=>exact aBA st h0 h1
theorem K9 (x:Block):yF 74 238 336 (some (1,aV x))=some (none,.row 74 238 [x].length (aF [x])):=by
 simp[yF,maxLen,aF]
theorem iV (l:List Block) (h:(l.length:Int)<1000000):yF 74 238 336 (some (l.length,aF l))=some (none,.row 74 238 l.length (aF l)):=by
 unfold yF;simp only
 rw[if_pos ⟨iJ bR l,by omega,by simp only[maxLen];omega⟩]
theorem EU (l:List Block) (x:Block) (s g:Nat) (h:(l.length:Int)<1000000):xV 74 238 336 (some (.row 74 238 l.length (aF l))) s g (some (1,aV x))=some (some (s,g),.row 74 238 (l++[x]).length (aF (l++[x]))):=by
 simp only[xV];rw[if_pos ⟨by simp,trivial,trivial,by omega,by simp only[maxLen];omega⟩]
 simp[aF,List.flatMap_append]
theorem rP (l m:List Block) (s g:Nat) (h:(l.length:Int)<1000000) (h2:(m.length:Int)<1000000):xV 74 238 336 (some (.row 74 238 l.length (aF l))) s g (some (m.length,aF m))=some (some (s,g),.row 74 238 (l++m).length (aF (l++m))):=by
 simp only[xV];rw[if_pos ⟨iJ bR m,trivial,trivial,by omega,by simp only[maxLen];omega⟩]
 simp[aF,List.flatMap_append]
theorem uG (n:Nat) (l:List Block):jG (some (.row 74 238 n (aF l)))=some (.sl n (aF l)):=by
 unfold jG;simp only;rw[if_pos (lA l)]
theorem SE {T n k off:Nat} {l:List Block} {i:Int} (h0:0≤i) (h1:i<l.length) (hk:sO Tryz.prog T=some k) (qA:0<k) (ho:off+k≤238):rW Tryz.prog T (some (.row 74 238 n (aF l))) (i.toNat * 238+off)=fB Tryz.prog T (aV (gx dY l i)) off:=FY bR h0 h1 hk qA ho
theorem wW {T n k:Nat} {l:List Block} {i:Int} (h0:0≤i) (h1:i<l.length) (hk:sO Tryz.prog T=some k) (qA:0<k) (ho:k≤238):rW Tryz.prog T (some (.row 74 238 n (aF l))) (i.toNat * 238)=fB Tryz.prog T (aV (gx dY l i)) 0:=by
 have h:=SE (n:=n) (off:=0) h0 h1 hk qA (by omega)
 rw[Nat.add_zero] at h;exact h
theorem aBB (l:List Block) (i:Int) (x:Block) (h:i.toNat<l.length):dQ (aF l) (i.toNat * 238) (aV x) (i.toNat * 238+238)=aF (l.set i.toNat x):=by
 generalize i.toNat=k at h ⊢
 have:=Sm (c:=aV) (sz:=238) bR l k x h
 exact this
theorem aOs (st:St) (o:Option (List Block)) (hi:Operand):dA Tryz.prog st 45 (ov aF o) none (some hi)=Kz (st.ev hi) (fun j=>if 0≤j∧j≤(ol o).length then some (ov aF (o.map (·.take j.toNat))) else dA Tryz.prog st 45 (ov aF o) none (some hi)) (dA Tryz.prog st 45 (ov aF o) none (some hi)):=by
 unfold Kz;split
 ·rename_i j hj;dsimp only
  split
  ·rename_i hc;obtain⟨j0,j1⟩:=hc
   cases o with
   | none =>
     have:j=0:=by simp[ol] at j1;omega
     subst this;simp[dA,nK,ov,hj]
   | some l =>
     have j1:j≤l.length:=j1
     have hn:j.toNat≤l.length:=by omega
     simp only[dA,nK,ov,hj];rw[if_pos ⟨Int.le_refl _,j0,j1,iJ bR l⟩];simp only[Int.toNat_zero,Nat.zero_mul,List.drop_zero,Int.sub_zero,Option.map_some];rw[show (aF l).take (j.toNat * 238)=aF (l.take j.toNat) from wD bR l j.toNat,List.length_take,Nat.min_eq_left hn]
  ·rfl
 ·rfl
theorem aEE (st:St) (o:Option (List Block)) (lo:Operand):dA Tryz.prog st 45 (ov aF o) (some lo) none=Kz (st.ev lo) (fun j=>if 0≤j∧j≤(ol o).length then some (ov aF (o.map (·.drop j.toNat))) else dA Tryz.prog st 45 (ov aF o) (some lo) none) (dA Tryz.prog st 45 (ov aF o) (some lo) none):=by
 unfold Kz;split
 ·rename_i j hj;dsimp only
  split
  ·rename_i hc;obtain⟨j0,j1⟩:=hc
   cases o with
   | none =>
     have:j=0:=by simp[ol] at j1;omega
     subst this;simp[dA,nK,ov,hj]
   | some l =>
     have j1:j≤l.length:=j1
     have hn:j.toNat≤l.length:=by omega
     have e1:((l.length:Int)-j).toNat=l.length-j.toNat:=by omega
     simp only[dA,nK,ov,hj];rw[if_pos ⟨j0,j1,Int.le_refl _,iJ bR l⟩];simp only[Option.map_some,e1];rw[show (aF l).drop (j.toNat * 238)=aF (l.drop j.toNat) from Bi bR l j.toNat,List.length_drop,List.take_of_length_le];rw[show aF (l.drop j.toNat)=(l.drop j.toNat).flatMap aV from rfl,iJ bR,List.length_drop];exact Nat.le_refl _
  ·rfl
 ·rfl
theorem AT (st:St) (o:Option (List Request)):aW st (ov aE o)=some ((ol o).length,aE (ol o)):=by cases o<;>rfl
theorem iZ (o:Option (List Request)):Flat (ov aE o):=by
 cases o with
 | none=>exact .v _
 | some l=>exact .sl _ _ (uD l)
theorem aBC (st:St) {l:List Request} {kk:IntKind} {i:Int} (h0:0≤i) (h1:i<l.length):bH Tryz.prog st 54 (.sl l.length (aE l)) (.v (.int kk i))=some (.ip (dD (gx cX l i)) 0):=by
 have hl:i.toNat<l.length:=by omega
 have h2:i.toNat * 35+35≤(l.flatMap dD).length:=by rw[iJ gQ,← Nat.succ_mul];exact Nat.mul_le_mul_right _ hl
 have h3:((aE l).drop (i.toNat * 35)).take 35=dD (gx cX l i):=Iu gQ h0 h1
 have h4:(aE l).length=(l.flatMap dD).length:=rfl
 (simp only[bH,aIX,Qz,h0,h1,h4,h2,and_self,if_true,h3])<;>rfl
theorem aJc (st:St) {o:Option (List Request)} {kk:IntKind} {i:Int} (h0:0≤i) (h1:i<(ol o).length):bH Tryz.prog st 54 (ov aE o) (.v (.int kk i))=some (.ip (dD (gx cX (ol o) i)) 0):=by
 cases o with
 | none=>simp[ol] at h1;omega
 | some l=>exact aBC st h0 h1
theorem SF (x:Request):yF 63 35 56 (some (1,dD x))=some (none,.row 63 35 [x].length (aE [x])):=by
 simp[yF,maxLen,aE]
theorem rA (l:List Request) (h:(l.length:Int)<1000000):yF 63 35 56 (some (l.length,aE l))=some (none,.row 63 35 l.length (aE l)):=by
 unfold yF;simp only
 rw[if_pos ⟨iJ gQ l,by omega,by simp only[maxLen];omega⟩]
theorem tK (l:List Request) (x:Request) (s g:Nat) (h:(l.length:Int)<1000000):xV 63 35 56 (some (.row 63 35 l.length (aE l))) s g (some (1,dD x))=some (some (s,g),.row 63 35 (l++[x]).length (aE (l++[x]))):=by
 simp only[xV];rw[if_pos ⟨by simp,trivial,trivial,by omega,by simp only[maxLen];omega⟩]
 simp[aE,List.flatMap_append]
theorem Tb (l m:List Request) (s g:Nat) (h:(l.length:Int)<1000000) (h2:(m.length:Int)<1000000):xV 63 35 56 (some (.row 63 35 l.length (aE l))) s g (some (m.length,aE m))=some (some (s,g),.row 63 35 (l++m).length (aE (l++m))):=by
 simp only[xV];rw[if_pos ⟨iJ gQ m,trivial,trivial,by omega,by simp only[maxLen];omega⟩]
 simp[aE,List.flatMap_append]
theorem pK (n:Nat) (l:List Request):jG (some (.row 63 35 n (aE l)))=some (.sl n (aE l)):=by
 unfold jG;simp only;rw[if_pos (uD l)]
theorem Ep {T n k off:Nat} {l:List Request} {i:Int} (h0:0≤i) (h1:i<l.length) (hk:sO Tryz.prog T=some k) (qA:0<k) (ho:off+k≤35):rW Tryz.prog T (some (.row 63 35 n (aE l))) (i.toNat * 35+off)=fB Tryz.prog T (dD (gx cX l i)) off:=FY gQ h0 h1 hk qA ho
theorem zT {T n k:Nat} {l:List Request} {i:Int} (h0:0≤i) (h1:i<l.length) (hk:sO Tryz.prog T=some k) (qA:0<k) (ho:k≤35):rW Tryz.prog T (some (.row 63 35 n (aE l))) (i.toNat * 35)=fB Tryz.prog T (dD (gx cX l i)) 0:=by
 have h:=Ep (n:=n) (off:=0) h0 h1 hk qA (by omega)
 rw[Nat.add_zero] at h;exact h
theorem Lp (l:List Request) (i:Int) (x:Request) (h:i.toNat<l.length):dQ (aE l) (i.toNat * 35) (dD x) (i.toNat * 35+35)=aE (l.set i.toNat x):=by
 generalize i.toNat=k at h ⊢
 have:=Sm (c:=dD) (sz:=35) gQ l k x h
 exact this
theorem aOt (st:St) (o:Option (List Request)) (hi:Operand):dA Tryz.prog st 54 (ov aE o) none (some hi)=Kz (st.ev hi) (fun j=>if 0≤j∧j≤(ol o).length then some (ov aE (o.map (·.take j.toNat))) else dA Tryz.prog st 54 (ov aE o) none (some hi)) (dA Tryz.prog st 54 (ov aE o) none (some hi)):=by
 unfold Kz;split
 ·rename_i j hj;dsimp only
  split
  ·rename_i hc;obtain⟨j0,j1⟩:=hc
   cases o with
   | none =>
     have:j=0:=by simp[ol] at j1;omega
     subst this;simp[dA,Qz,ov,hj]
   | some l =>
     have j1:j≤l.length:=j1
     have hn:j.toNat≤l.length:=by omega
     simp only[dA,Qz,ov,hj];rw[if_pos ⟨Int.le_refl _,j0,j1,iJ gQ l⟩];simp only[Int.toNat_zero,Nat.zero_mul,List.drop_zero,Int.sub_zero,Option.map_some];rw[show (aE l).take (j.toNat * 35)=aE (l.take j.toNat) from wD gQ l j.toNat,List.length_take,Nat.min_eq_left hn]
  ·rfl
 ·rfl
theorem aEF (st:St) (o:Option (List Request)) (lo:Operand):dA Tryz.prog st 54 (ov aE o) (some lo) none=Kz (st.ev lo) (fun j=>if 0≤j∧j≤(ol o).length then some (ov aE (o.map (·.drop j.toNat))) else dA Tryz.prog st 54 (ov aE o) (some lo) none) (dA Tryz.prog st 54 (ov aE o) (some lo) none):=by
 unfold Kz;split
 ·rename_i j hj;dsimp only
  split
  ·rename_i hc;obtain⟨j0,j1⟩:=hc
   cases o with
   | none =>
     have:j=0:=by simp[ol] at j1;omega
     subst this;simp[dA,Qz,ov,hj]
   | some l =>
     have j1:j≤l.length:=j1
     have hn:j.toNat≤l.length:=by omega
     have e1:((l.length:Int)-j).toNat=l.length-j.toNat:=by omega
     simp only[dA,Qz,ov,hj];rw[if_pos ⟨j0,j1,Int.le_refl _,iJ gQ l⟩];simp only[Option.map_some,e1];rw[show (aE l).drop (j.toNat * 35)=aE (l.drop j.toNat) from Bi gQ l j.toNat,List.length_drop,List.take_of_length_le];rw[show aE (l.drop j.toNat)=(l.drop j.toNat).flatMap dD from rfl,iJ gQ,List.length_drop];exact Nat.le_refl _
  ·rfl
 ·rfl
theorem SG (st:St) (o:Option (List cJ)):aW st (ov gY o)=some ((ol o).length,gY (ol o)):=by cases o<;>rfl
theorem Hf (o:Option (List cJ)):Flat (ov gY o):=by
 cases o with
 | none=>exact .v _
 | some l=>exact .sl _ _ (Tq l)
theorem aBD (st:St) {l:List cJ} {kk:IntKind} {i:Int} (h0:0≤i) (h1:i<l.length):bH Tryz.prog st 70 (.sl l.length (gY l)) (.v (.int kk i))=some (.ip (bD (gx dR l i)) 0):=by
 have hl:i.toNat<l.length:=by omega
 have h2:i.toNat * 32+32≤(l.flatMap bD).length:=by rw[iJ aO,← Nat.succ_mul];exact Nat.mul_le_mul_right _ hl
 have h3:((gY l).drop (i.toNat * 32)).take 32=bD (gx dR l i):=Iu aO h0 h1
 have h4:(gY l).length=(l.flatMap bD).length:=rfl
 (simp only[bH,aNW,aD9,h0,h1,h4,h2,and_self,if_true,h3])<;>rfl
theorem aJd (st:St) {o:Option (List cJ)} {kk:IntKind} {i:Int} (h0:0≤i) (h1:i<(ol o).length):bH Tryz.prog st 70 (ov gY o) (.v (.int kk i))=some (.ip (bD (gx dR (ol o) i)) 0):=by
 cases o with
 | none=>simp[ol] at h1;omega
 | some l=>exact aBD st h0 h1
theorem oM (l:List cJ) (x:cJ) (s g:Nat) (h:(l.length:Int)<1000000):xV 27 32 32 (some (.row 27 32 l.length (gY l))) s g (some (1,bD x))=some (some (s,g),.row 27 32 (l++[x]).length (gY (l++[x]))):=by
 simp only[xV];rw[if_pos ⟨by simp,trivial,trivial,by omega,by simp only[maxLen];omega⟩]
 simp[gY,List.flatMap_append]
theorem wE (n:Nat) (l:List cJ):jG (some (.row 27 32 n (gY l)))=some (.sl n (gY l)):=by
 unfold jG;simp only;rw[if_pos (Tq l)]
theorem aEG (st:St) {l:List Bool} {kk:IntKind} {i:Int} (h0:0≤i) (h1:i<l.length):bH Tryz.prog st 262 (.sl l.length (mT l)) (.v (.int kk i))=some (.ip ([.v (.bool (gx false l i))]) 0):=by
 have hl:i.toNat<l.length:=by omega
 have h2:i.toNat * 1+1≤(l.flatMap uY).length:=by rw[iJ iA,← Nat.succ_mul];exact Nat.mul_le_mul_right _ hl
 have h3:((mT l).drop (i.toNat * 1)).take 1=uY (gx false l i):=Iu iA h0 h1
 have h4:(mT l).length=(l.flatMap uY).length:=rfl
 (simp only[bH,aFO,RQ,h0,h1,h4,h2,and_self,if_true,h3])<;>rfl
theorem aBE (x:Bool):yF 4 1 1 (some (1,[.v (.bool x)]))=some (none,.row 4 1 [x].length (mT [x])):=by
 simp[yF,maxLen,mT,uY]
theorem ML (l:List Bool) (x:Bool) (s g:Nat) (h:(l.length:Int)<1000000):xV 4 1 1 (some (.row 4 1 l.length (mT l))) s g (some (1,[.v (.bool x)]))=some (some (s,g),.row 4 1 (l++[x]).length (mT (l++[x]))):=by
 simp only[xV];rw[if_pos ⟨by simp,trivial,trivial,by omega,by simp only[maxLen];omega⟩]
 simp[mT,List.flatMap_append,uY]
theorem ZL (n:Nat) (l:List Bool):jG (some (.row 4 1 n (mT l)))=some (.sl n (mT l)):=by
 unfold jG;simp only;rw[if_pos (Sy l)]
theorem yQ (o:Option (List Int)):Flat (ov kF o):=by
 cases o with
 | none=>exact .v _
 | some l=>exact .sl _ _ (vR l)
theorem rM (st:St) (o:Option (List Int)):fO st (ov kF o)=some (ov kF o):=eB (yQ o)
theorem UO (x:Int):yF 5 1 1 (some (1,[.v (.int .u8 x)]))=some (none,.row 5 1 [x].length (kF [x])):=by
 simp[yF,maxLen,kF,cU8]
theorem Lj (l:List Int) (x:Int) (s g:Nat) (h:(l.length:Int)<1000000):xV 5 1 1 (some (.row 5 1 l.length (kF l))) s g (some (1,[.v (.int .u8 x)]))=some (some (s,g),.row 5 1 (l++[x]).length (kF (l++[x]))):=by
 simp only[xV];rw[if_pos ⟨by simp,trivial,trivial,by omega,by simp only[maxLen];omega⟩]
 simp[kF,List.flatMap_append,cU8]
theorem UP (l m:List Int) (s g:Nat) (h:(l.length:Int)<1000000) (h2:(m.length:Int)<1000000):xV 5 1 1 (some (.row 5 1 l.length (kF l))) s g (some (m.length,kF m))=some (some (s,g),.row 5 1 (l++m).length (kF (l++m))):=by
 simp only[xV];rw[if_pos ⟨iJ aEB m,trivial,trivial,by omega,by simp only[maxLen];omega⟩]
 simp[kF,List.flatMap_append]
theorem Dc (n:Nat) (l:List Int):jG (some (.row 5 1 n (kF l)))=some (.sl n (kF l)):=by
 unfold jG;simp only;rw[if_pos (vR l)]
theorem YF (st:St) (o:Option (List Int)):aW st (ov aK o)=some ((ol o).length,aK (ol o)):=by cases o<;>rfl
theorem bW (o:Option (List Int)):Flat (ov aK o):=by
 cases o with
 | none=>exact .v _
 | some l=>exact .sl _ _ (gF l)
theorem En (st:St) (o:Option (List Int)):fO st (ov aK o)=some (ov aK o):=eB (bW o)
theorem YG (o:Option (List Int)):(ov aK o).jD=true:=by cases o<;>rfl
theorem L1 (o:Option (List Int)):(ov aK o).cells=[ov aK o]:=by cases o<;>rfl
theorem aBF (st:St) {l:List Int} {kk:IntKind} {i:Int} (h0:0≤i) (h1:i<l.length):bH Tryz.prog st 22 (.sl l.length (aK l)) (.v (.int kk i))=some (.ip ([.v (.int .i64 (gx (0:Int) l i))]) 0):=by
 have hl:i.toNat<l.length:=by omega
 have h2:i.toNat * 1+1≤(l.flatMap qS).length:=by rw[iJ bI,← Nat.succ_mul];exact Nat.mul_le_mul_right _ hl
 have h3:((aK l).drop (i.toNat * 1)).take 1=qS (gx (0:Int) l i):=Iu bI h0 h1
 have h4:(aK l).length=(l.flatMap qS).length:=rfl
 (simp only[bH,aD8,Ky,h0,h1,h4,h2,and_self,if_true,h3])<;>rfl
theorem aJe (st:St) {o:Option (List Int)} {kk:IntKind} {i:Int} (h0:0≤i) (h1:i<(ol o).length):bH Tryz.prog st 22 (ov aK o) (.v (.int kk i))=some (.ip ([.v (.int .i64 (gx (0:Int) (ol o) i))]) 0):=by
 cases o with
 | none=>simp[ol] at h1;omega
 | some l=>exact aBF st h0 h1
theorem Nv (l:List Int) (h:(l.length:Int)<1000000):yF 3 1 8 (some (l.length,aK l))=some (none,.row 3 1 l.length (aK l)):=by
 unfold yF;simp only
 rw[if_pos ⟨iJ bI l,by omega,by simp only[maxLen];omega⟩]
theorem Em (l:List Int) (x:Int) (s g:Nat) (h:(l.length:Int)<1000000):xV 3 1 8 (some (.row 3 1 l.length (aK l))) s g (some (1,[.v (.int .i64 x)]))=some (some (s,g),.row 3 1 (l++[x]).length (aK (l++[x]))):=by
 simp only[xV];rw[if_pos ⟨by simp,trivial,trivial,by omega,by simp only[maxLen];omega⟩]
 simp[aK,List.flatMap_append,qS]
theorem GS (l m:List Int) (s g:Nat) (h:(l.length:Int)<1000000) (h2:(m.length:Int)<1000000):xV 3 1 8 (some (.row 3 1 l.length (aK l))) s g (some (m.length,aK m))=some (some (s,g),.row 3 1 (l++m).length (aK (l++m))):=by
 simp only[xV];rw[if_pos ⟨iJ bI m,trivial,trivial,by omega,by simp only[maxLen];omega⟩]
 simp[aK,List.flatMap_append]
theorem jX (n:Nat) (l:List Int):jG (some (.row 3 1 n (aK l)))=some (.sl n (aK l)):=by
 unfold jG;simp only;rw[if_pos (gF l)]
theorem aOu (st:St) (o:Option (List Int)) (hi:Operand):dA Tryz.prog st 22 (ov aK o) none (some hi)=Kz (st.ev hi) (fun j=>if 0≤j∧j≤(ol o).length then some (ov aK (o.map (·.take j.toNat))) else dA Tryz.prog st 22 (ov aK o) none (some hi)) (dA Tryz.prog st 22 (ov aK o) none (some hi)):=by
 unfold Kz;split
 ·rename_i j hj;dsimp only
  split
  ·rename_i hc;obtain⟨j0,j1⟩:=hc
   cases o with
   | none =>
     have:j=0:=by simp[ol] at j1;omega
     subst this;simp[dA,Ky,ov,hj]
   | some l =>
     have j1:j≤l.length:=j1
     have hn:j.toNat≤l.length:=by omega
     simp only[dA,Ky,ov,hj];rw[if_pos ⟨Int.le_refl _,j0,j1,iJ bI l⟩];simp only[Int.toNat_zero,Nat.zero_mul,List.drop_zero,Int.sub_zero,Option.map_some];rw[show (aK l).take (j.toNat * 1)=aK (l.take j.toNat) from wD bI l j.toNat,List.length_take,Nat.min_eq_left hn]
  ·rfl
 ·rfl
theorem aEH (st:St) (o:Option (List Int)) (lo:Operand):dA Tryz.prog st 22 (ov aK o) (some lo) none=Kz (st.ev lo) (fun j=>if 0≤j∧j≤(ol o).length then some (ov aK (o.map (·.drop j.toNat))) else dA Tryz.prog st 22 (ov aK o) (some lo) none) (dA Tryz.prog st 22 (ov aK o) (some lo) none):=by
 unfold Kz;split
 ·rename_i j hj;dsimp only
  split
  ·rename_i hc;obtain⟨j0,j1⟩:=hc
   cases o with
   | none =>
     have:j=0:=by simp[ol] at j1;omega
     subst this;simp[dA,Ky,ov,hj]
   | some l =>
     have j1:j≤l.length:=j1
     have hn:j.toNat≤l.length:=by omega
     have e1:((l.length:Int)-j).toNat=l.length-j.toNat:=by omega
     simp only[dA,Ky,ov,hj];rw[if_pos ⟨j0,j1,Int.le_refl _,iJ bI l⟩];simp only[Option.map_some,e1];rw[show (aK l).drop (j.toNat * 1)=aK (l.drop j.toNat) from Bi bI l j.toNat,List.length_drop,List.take_of_length_le];rw[show aK (l.drop j.toNat)=(l.drop j.toNat).flatMap qS from rfl,iJ bI,List.length_drop];exact Nat.le_refl _
  ·rfl
 ·rfl
theorem YH (st:St) (o:Option (List Int)):aW st (ov bJ o)=some ((ol o).length,bJ (ol o)):=by cases o<;>rfl
theorem dU (o:Option (List Int)):Flat (ov bJ o):=by
 cases o with
 | none=>exact .v _
 | some l=>exact .sl _ _ (iF l)
theorem YI (o:Option (List Int)):(ov bJ o).jD=true:=by cases o<;>rfl
theorem L2 (o:Option (List Int)):(ov bJ o).cells=[ov bJ o]:=by cases o<;>rfl
theorem aBG (st:St) {l:List Int} {kk:IntKind} {i:Int} (h0:0≤i) (h1:i<l.length):bH Tryz.prog st 34 (.sl l.length (bJ l)) (.v (.int kk i))=some (.ip ([.v (.int .u64 (gx (0:Int) l i))]) 0):=by
 have hl:i.toNat<l.length:=by omega
 have h2:i.toNat * 1+1≤(l.flatMap lI).length:=by rw[iJ bB,← Nat.succ_mul];exact Nat.mul_le_mul_right _ hl
 have h3:((bJ l).drop (i.toNat * 1)).take 1=lI (gx (0:Int) l i):=Iu bB h0 h1
 have h4:(bJ l).length=(l.flatMap lI).length:=rfl
 (simp only[bH,aIS,XY,h0,h1,h4,h2,and_self,if_true,h3])<;>rfl
theorem aJf (st:St) {o:Option (List Int)} {kk:IntKind} {i:Int} (h0:0≤i) (h1:i<(ol o).length):bH Tryz.prog st 34 (ov bJ o) (.v (.int kk i))=some (.ip ([.v (.int .u64 (gx (0:Int) (ol o) i))]) 0):=by
 cases o with
 | none=>simp[ol] at h1;omega
 | some l=>exact aBG st h0 h1
theorem aEI (x:Int):yF 23 1 8 (some (1,[.v (.int .u64 x)]))=some (none,.row 23 1 [x].length (bJ [x])):=by
 simp[yF,maxLen,bJ,lI]
theorem Ek (l:List Int) (h:(l.length:Int)<1000000):yF 23 1 8 (some (l.length,bJ l))=some (none,.row 23 1 l.length (bJ l)):=by
 unfold yF;simp only
 rw[if_pos ⟨iJ bB l,by omega,by simp only[maxLen];omega⟩]
theorem wF (l:List Int) (x:Int) (s g:Nat) (h:(l.length:Int)<1000000):xV 23 1 8 (some (.row 23 1 l.length (bJ l))) s g (some (1,[.v (.int .u64 x)]))=some (some (s,g),.row 23 1 (l++[x]).length (bJ (l++[x]))):=by
 simp only[xV];rw[if_pos ⟨by simp,trivial,trivial,by omega,by simp only[maxLen];omega⟩]
 simp[bJ,List.flatMap_append,lI]
theorem uH (n:Nat) (l:List Int):jG (some (.row 23 1 n (bJ l)))=some (.sl n (bJ l)):=by
 unfold jG;simp only;rw[if_pos (iF l)]
theorem aBH {T n k off:Nat} {l:List Int} {i:Int} (h0:0≤i) (h1:i<l.length) (hk:sO Tryz.prog T=some k) (qA:0<k) (ho:off+k≤1):rW Tryz.prog T (some (.row 23 1 n (bJ l))) (i.toNat * 1+off)=fB Tryz.prog T ([.v (.int .u64 (gx (0:Int) l i))]) off:=FY bB h0 h1 hk qA ho
theorem P8 {T n k:Nat} {l:List Int} {i:Int} (h0:0≤i) (h1:i<l.length) (hk:sO Tryz.prog T=some k) (qA:0<k) (ho:k≤1):rW Tryz.prog T (some (.row 23 1 n (bJ l))) (i.toNat * 1)=fB Tryz.prog T ([.v (.int .u64 (gx (0:Int) l i))]) 0:=by
 have h:=aBH (n:=n) (off:=0) h0 h1 hk qA (by omega)
 rw[Nat.add_zero] at h;exact h
theorem P7 (l:List Int) (i:Int) (x:Int) (h:i.toNat<l.length):dQ (bJ l) (i.toNat * 1) ([.v (.int .u64 x)]) (i.toNat * 1+1)=bJ (l.set i.toNat x):=by
 generalize i.toNat=k at h ⊢
 have:=Sm (c:=lI) (sz:=1) bB l k x h
 exact this
end Tryz
end Go.Ab
end
section
namespace Go.Ab.Tryz
open Classical Go.Proofs Go.Ab
theorem aj {a b:Prop} (x:a) (y:b):a∧b:=⟨x,y⟩
def EN:=aj (aj (aj (aj (aj (aj (aj @cK (aj @MO @oR)) (aj @aAi (aj @F9 @WI))) (aj (aj @H4 (aj @decide_true @decide_false)) (aj (aj @Int.cast_ofNat_Int @Bool.not_true) (aj @Bool.not_false @Bool.false_eq_true)))) (aj (aj (aj @Bool.true_eq_false (aj @aDm @aDn)) (aj @aDo (aj @aDp @aDq))) (aj (aj @aDr (aj @aDs @aDt)) (aj (aj @aDu @aDv) (aj @aDy @aDz))))) (aj (aj (aj (aj @aDw (aj @aDx @not_false_eq_true)) (aj @ne_eq.{1} (aj @aAC @H3))) (aj (aj @WW (aj @WX @Option.bind_some.{0,0})) (aj (aj @aDc @G0) (aj @aDd @aAj)))) (aj (aj (aj @aDe (aj @WJ @IQ)) (aj @IS (aj @aDf @WM))) (aj (aj @aAl (aj @aAm @aAn)) (aj (aj @aHo @aAo) (aj @aA6 @Bool.or_false)))))) (aj (aj (aj (aj (aj @Bool.false_or (aj @Bool.false_and @Bool.or_true)) (aj @aDh (aj @aEc @G1))) (aj (aj @G3 (aj @WO @IT)) (aj (aj @PL @vP) (aj @RV @K0)))) (aj (aj (aj @K1 (aj @aEh @aBh)) (aj @nM (aj @J2 @J3))) (aj (aj @YA (aj @RS @Option.map_some.{0,0})) (aj (aj @Lf @Jc) (aj @Qu @Lk))))) (aj (aj (aj (aj @aA9 (aj @aBa @aEd)) (aj @fR (aj @bN @aBk))) (aj (aj @aBl (aj @DJ @K4)) (aj (aj @aEg @J4) (aj @J5 @aDC)))) (aj (aj (aj @aAE (aj @aDD @aDA)) (aj (aj @J6 @J7) (aj @J8 @J9))) (aj (aj @aBg (aj @K2 @aEi)) (aj (aj @aEe @aEf) (aj @aBb @aBc))))))) (aj (aj (aj (aj (aj (aj @aBd (aj @aBe @aBf)) (aj @G6 (aj @IW @aEa))) (aj (aj @aA5 (aj @aOn @aES)) (aj (aj @aAt @aHq) (aj @aDi @IV)))) (aj (aj (aj @aDj (aj @aAu @aDk)) (aj @aDl (aj @aAv
 @Xx))) (aj (aj @Xy (aj @Dj @aAw)) (aj (aj @aAx @G4) (aj @aAy @PM))))) (aj (aj (aj (aj @G5 (aj @List.toList_toArray.{0} @List.map_cons.{0,0})) (aj @List.map_nil.{0,0} (aj @aDb @WH))) (aj (aj @F7 (aj @aAe @aAf)) (aj (aj @aDa @IX) (aj @H5 @WY)))) (aj (aj (aj @List.getElem?_cons_zero.{0} (aj @List.getElem?_cons_succ.{0} @List.getElem?_nil.{0})) (aj @Option.getD_some.{0} (aj @Option.getD_none.{0} @and_true))) (aj (aj @true_and (aj @and_self @false_and)) (aj (aj @and_false @if_true.{1}) (aj @if_false.{1} @Nat.succ_ne_zero)))))) (aj (aj (aj (aj (aj @KL (aj @KM @Nat.add_zero)) (aj @Nat.zero_add (aj @YB @aAk))) (aj (aj @aHz (aj @aHA @aAL)) (aj (aj @aAM @J1) (aj @XF @aA7)))) (aj (aj (aj @aEl (aj @aEm @aEn)) (aj @YC (aj @K5 @aEo))) (aj (aj @aI2 (aj @RW @K6)) (aj (aj @aEp @aBn) (aj @aI3 @aBo))))) (aj (aj (aj (aj @aEq (aj @aEr @aEs)) (aj @aBp (aj @aBq @aEt))) (aj (aj @aBr (aj @aOq @aEu)) (aj (aj @aI4 @aI5) (aj @aI6 @aEv)))) (aj (aj (aj @aEw (aj @aI7 @aEx)) (aj (aj @aEy @aBs) (aj @K7 @YD))) (aj (aj @aEz (aj @aBt @aEA)) (aj (aj @gei @gti) (aj @aVu @gtn)))))))
def EV:=aj EN @H2
def LE:=aj (aj (aj (aj (aj (aj @aI0 @aI1) (aj @aBi (aj @aBj @Ld))) (aj (aj @Jh @Rb) (aj @aIY (aj @aIZ @aEb)))) (aj (aj (aj @bB @bI) (aj @iA (aj @aO @dZ))) (aj (aj @bU (aj @cT @bR)) (aj @vJ (aj @Ru @Nat.sub_zero))))) (aj (aj (aj (aj @Nat.le_refl @MC) (aj @EI (aj @Option.map_some.{0,0} @List.all_cons.{0}))) (aj (aj @List.all_nil.{0} @Bool.and_true) (aj @Bool.true_and (aj @Bool.and_self @G7)))) (aj (aj (aj @List.length_cons.{0} @List.length_nil.{0}) (aj @jL (aj @jM @Pj))) (aj (aj @Be (aj @Rr @JC)) (aj @Nat.zero_le (aj @Nat.mul_one @Wx)))))) (aj (aj (aj (aj (aj @oW @gX) (aj @mA (aj @gA @bT))) (aj (aj @rR @iH) (aj @iR (aj @fN @eM)))) (aj (aj (aj @gQ @nD) (aj @dG (aj @dB @iI))) (aj (aj @mM (aj @dE @Ml)) (aj @AN (aj @XX @wZ))))) (aj (aj (aj (aj @DI @Jn) (aj @Me (aj @Rz @Sb))) (aj (aj @r7 @XN) (aj @Zs (aj @Ii @Zt)))) (aj (aj (aj @Zv @Mk) (aj @AE (aj @Il @FX))) (aj (aj @RL (aj @AJ @RM)) (aj @aA2 (aj @Vi @aDN))))))
def RD:=aj (aj (aj (aj (aj (aj (aj (aj @PQ @PR) (aj @PS @PT)) (aj (aj @jZ @Cj) (aj @uN (aj @Fb @PU)))) (aj (aj (aj @PV @Pb) (aj @Pc @xX)) (aj (aj @zX @Pd) (aj @Pe (aj @xY @CG))))) (aj (aj (aj (aj @CH @Fo) (aj @Ug @zY)) (aj (aj @Ma @rY) (aj @Ck (aj @zZ @Mb)))) (aj (aj (aj @rZ @Ib) (aj @CI (aj @Km @CJ))) (aj (aj @Uh @Ui) (aj @Dp (aj @Rs @CK)))))) (aj (aj (aj (aj (aj @CL @Zi) (aj @Zj @Kn)) (aj (aj @CM @Ic) (aj @Pg (aj @IZ @Jv)))) (aj (aj (aj @Ph @Rt) (aj @Uj (aj @JA @JB))) (aj (aj @CN @CO) (aj @Ie (aj @Dq @vX))))) (aj (aj (aj (aj @Dr @vY) (aj @Jw @Mc)) (aj (aj @Gd @Md) (aj @Pk (aj @PX @XA)))) (aj (aj (aj @Fk @Gw) (aj @PY (aj @PZ @Zm))) (aj (aj @QA @QB) (aj @Aa (aj @Ko @Pm))))))) (aj (aj (aj (aj (aj (aj @Fc @Ge) (aj @Rv @Uk)) (aj (aj @Pn @Po) (aj @Zp (aj @Zq @Ds)))) (aj (aj (aj @Ul @Dt) (aj @Um (aj @Br
 @Rw))) (aj (aj @Bs @Rx) (aj @Bt (aj @Ry @Ac))))) (aj (aj (aj (aj @Pp @CR) (aj @CS @xD)) (aj (aj @xE @vA) (aj @vB (aj @vC @uP)))) (aj (aj (aj @Ig @CT) (aj @Ps (aj @Sa @Kp))) (aj (aj @CU @Pt) (aj @Pu (aj @zG @Kq)))))) (aj (aj (aj (aj (aj @CV @CW) (aj @JL @QY)) (aj (aj @Zr @CX) (aj @JM (aj @JN @QZ)))) (aj (aj (aj @RA @JO) (aj @RC (aj @RE @RF))) (aj (aj @CY @CZ) (aj @Ih (aj @Jx @Mf))))) (aj (aj (aj (aj @Mg @Eh) (aj @RH @XP)) (aj (aj @XQ @vZ) (aj @Fp (aj @wA @Fq)))) (aj (aj (aj @DA @Kr) (aj @uB (aj @DB @Pw))) (aj (aj @Px @Ap) (aj @Aq (aj @oH @Mh)))))))) (aj (aj (aj (aj (aj (aj (aj @Mi @Ad) (aj @Ar @Ae)) (aj (aj @As @Du) (aj @nJ (aj @Un @Uo)))) (aj (aj (aj @RI @RJ) (aj @Mj @Se)) (aj (aj @Cb @JQ) (aj @JR (aj @JS @Py))))) (aj (aj (aj (aj @Fe @Sf) (aj @Sg @Pz)) (aj (aj @Sh @Up) (aj
 @Zu (aj @Zw @Zx)))) (aj (aj (aj @Uq @Ur) (aj @Zy (aj @AA @AB))) (aj (aj @vL @Fs) (aj @xK (aj @Ik @JU)))))) (aj (aj (aj (aj (aj @JV @Dw) (aj @Dx @tM)) (aj (aj @vD @Ft) (aj @Fu (aj @uQ @xF)))) (aj (aj (aj @vM @Fv) (aj @sT (aj @Bu @xL))) (aj (aj @Im @Us) (aj @Ut (aj @Af @Ag))))) (aj (aj (aj (aj @yL @yM) (aj @qK @pU)) (aj (aj @Io @Jy) (aj @qU (aj @Jz @AG)))) (aj (aj (aj @AH @pC) (aj @Gf (aj @qB @Ip))) (aj (aj @Qb @Qc) (aj @Ff (aj @Fg @xG))))))) (aj (aj (aj (aj (aj (aj @qL @Gg) (aj @Gh @xT)) (aj (aj @rD @pD) (aj @Gi (aj @nI @Dz)))) (aj (aj (aj @Ks @Cl) (aj @qV (aj @Ka @Kt))) (aj (aj @JW @Iq) (aj @Ir (aj @vN @Uu))))) (aj (aj (aj (aj @JX @JY) (aj @AK @AL)) (aj (aj @tR @tC) (aj @qW (aj @pO
 @qI)))) (aj (aj (aj @tS @uR) (aj @pP (aj @oG @Kb))) (aj (aj @xZ @qX) (aj @Kc (aj @Is @It)))))) (aj (aj (aj (aj (aj @uA @zI) (aj @Qd @Ba)) (aj (aj @Sj @Qe) (aj @Sk (aj @AM @DE)))) (aj (aj (aj @DF @DG) (aj @Qf (aj @Sl @Uv))) (aj (aj @KA @KB) (aj @KC (aj @RN @KD))))) (aj (aj (aj (aj @KE @XT) (aj @XU @Cv)) (aj (aj @KF @KG) (aj @sE (aj @rU @KH)))) (aj (aj (aj @KI @Bb) (aj @AO (aj @AP @DH))) (aj (aj @KJ @KK) (aj @RO (aj @XV @XW))))))))
def FA:=aj (aj (aj (aj (aj (aj (aj (aj @ld3 @ik3) (aj @lk3 (aj @ze3 @aS4))) (aj (aj @aS5 @UC) (aj @aHG (aj @aS6 @aS7)))) (aj (aj (aj @aS8 @ld5) (aj @ik5 (aj @lk5 @ze5))) (aj (aj @ik2 (aj @lk2 @ze2)) (aj @aS9 (aj @aTa @aTb))))) (aj (aj (aj (aj @ld4 @lk4) (aj @ze4 (aj @be4 @aTc))) (aj (aj @aKT (aj @aNv @aHH)) (aj @aTd (aj @aTe @aF9)))) (aj (aj (aj @aTf @aTg) (aj @aTh (aj @aTi @aNw))) (aj (aj @aTj (aj @aKD @aTk)) (aj @aTl (aj @aTm @aHI)))))) (aj (aj (aj (aj (aj @aHJ @aGe) (aj @aHK (aj @aTn @aTo))) (aj (aj @aTp @aTq) (aj @aTr (aj @aHL @aHM)))) (aj (aj (aj @aTs @aTt) (aj @aTu (aj @NB @aHN))) (aj (aj @aHO (aj @aHP @aHQ)) (aj @aHR (aj @aHS @aHT))))) (aj (aj (aj (aj @aHU @aHV) (aj @aHW (aj @aCS @aHX))) (aj (aj @aTv (aj @aTw @aTx)) (aj @aTy (aj @aTz @aHY)))) (aj (aj (aj @aHZ @aH0) (aj @aH1 (aj @aNx @aTA))) (aj (aj @aTB (aj @aTC @aTD)) (aj @aH2 (aj @aTE @aTF))))))) (aj (aj (aj (aj (aj (aj @aTG @aH3) (aj @aTH (aj @aTI @aTJ))) (aj (aj @aTK @aH4) (aj @aH5 (aj @aH6 @aTL)))) (aj (aj (aj @aNy @aTM) (aj @aTN (aj @aTO @aTP))) (aj (aj @aH7 (aj @aH8 @aH9)) (aj @aIa (aj @aIb @aIc))))) (aj (aj (aj (aj @aTQ @aNz) (aj @aTR (aj @aTS @aTT))) (aj (aj @aTU (aj @aId @aIe)) (aj @aIf (aj @aIg @aIh)))) (aj (aj (aj @aIi @aTV) (aj @aTW (aj @aNA @aE0))) (aj (aj @aDP (aj @aDQ @aDR)) (aj @aFK (aj @aFL @aNB)))))) (aj (aj (aj (aj (aj @aNC @aTX) (aj @aTY (aj @aIj @aIk))) (aj (aj @aIl @aIm) (aj @aND (aj @aTZ @aNE)))) (aj (aj (aj @aNF @aDS) (aj @aDT (aj @aDU @aDV))) (aj (aj @aNG (aj @aNH @aNI)) (aj @aNJ (aj @aDW @aDX))))) (aj (aj (aj (aj @aNK @aNL) (aj @aNM (aj @aFA @aDY))) (aj (aj @aDZ (aj @W4 @aNN)) (aj @aT0 (aj @aGJ @aIn)))) (aj (aj (aj @aIo @aIp) (aj @aIq (aj @aNO @aT1))) (aj (aj @aT2 (aj @aT3 @aIr)) (aj @aIs
 (aj @aIt @aNP)))))))) (aj (aj (aj (aj (aj (aj (aj @aNQ @aT4) (aj @aT5 (aj @aT6 @aT7))) (aj (aj @aIu @aIv) (aj @aT8 (aj @aT9 @aUa)))) (aj (aj (aj @aUb @aIw) (aj @aIx (aj @aUc @aNR))) (aj (aj @aUd (aj @aUe @aUf)) (aj @aIy (aj @aIz @aUg))))) (aj (aj (aj (aj @aUh @aUi) (aj @aIA (aj @aIB @aIC))) (aj (aj @aID (aj @aIE @aIF)) (aj @aIG (aj @aIH @aUj)))) (aj (aj (aj @aUk @aUl) (aj @aUm (aj @aII @aIJ))) (aj (aj @aIK (aj @aIL @aIM)) (aj @aIN (aj @aIO @aIP)))))) (aj (aj (aj (aj (aj @aUn @aUo) (aj @aNS (aj @aNT @aD0))) (aj (aj @aD1 @aD2) (aj @aD3 (aj @aD4 @aD5)))) (aj (aj (aj @aD6 @aD7) (aj @aFM (aj @aNU @aIQ))) (aj (aj @aIR (aj @Ky @aD8)) (aj @aUp (aj @aUq @aUr))))) (aj (aj (aj (aj @aUs @aUt) (aj @XY (aj @aIS @aUu))) (aj (aj @aUv (aj @aUw @aUx)) (aj @aUy (aj @I8 @aIT)))) (aj (aj (aj @aUz @aUA) (aj @aUB (aj @aUC @aUD))) (aj (aj @aA3 (aj @aNV @aUE)) (aj @aUF (aj @aUG @nK))))))) (aj (aj (aj (aj (aj (aj @aIU @aUH) (aj @aUI (aj @aUJ @aUK))) (aj (aj @aUL @RP) (aj @aIV (aj @aUM @aUN)))) (aj (aj (aj @aUO @aUP) (aj @Rc (aj @aIW @aUQ))) (aj (aj @aUR (aj @aUS @Qz)) (aj @aIX (aj @aUT @aUU))))) (aj (aj (aj (aj @aUV @aD9) (aj @aNW (aj @aUW @aUX))) (aj (aj @MB (aj @aA4 @aNX)) (aj @aNY (aj @r9 @aNZ)))) (aj (aj (aj @aN0 @aN1) (aj @aFN (aj @aN2 @aN3))) (aj (aj @aN4 (aj @u7 @aN5)) (aj @aN6 (aj @aN7 @RQ)))))) (aj (aj (aj (aj (aj @aFO @aN8) (aj @aN9 (aj @aUY @aUZ))) (aj (aj @aU0 (aj @aU1 @aU2)) (aj @aU3 (aj @aU4 @aU5)))) (aj (aj (aj @aU6 @aU7) (aj @aU8 (aj @aU9 @aVa))) (aj (aj @aVb (aj @aVc @aVd)) (aj @aVe (aj @aVf @aVg))))) (aj (aj (aj (aj @aVh @aVi) (aj @aVj (aj @aVk @aVl))) (aj (aj @aVm (aj @aVn @aVo)) (aj @aVp (aj @aVq @aOa)))) (aj (aj (aj @aOb @aOc) (aj @aOd (aj @aOe @aOf))) (aj (aj @aOg (aj @aOh @aOi)) (aj
 @aOj (aj @aOk @aOl))))))))
def ZZ:=aj (aj EV LE) (aj RD FA)
section
variable {f:Nat} {fn:Func} {st:St} {x y z:AV}
theorem bX {t:Nat} (hr:fn.results.toList=[.tmp t]) (hx:st.env t=x) (hf:Flat x:=by exact .v _) (hk:Ext.qO f=false:=by exact aH (by decide)):Al Tryz.prog f fn (.ret,st)=some x:=aAA hk (.inl rfl) hr hx hf
theorem fK {t T:Nat} (hr:fn.results.toList=[.cell t T]) (hy:st.env t=y) (hx:Fm Tryz.prog st T y=some x) (hf:Flat x) (hk:Ext.qO f=false:=by exact aH (by decide)):Al Tryz.prog f fn (.ret,st)=some x:=G9 hk (.inl rfl) hr hy hx hf
theorem tO {t s g e' sz n:Nat} {cs:List AV} (hr:fn.results.toList=[.tmp t]) (hx:st.env t=.own s g) (hh:st.heap s g=some (.row e' sz n cs)) (hf:∀c∈cs,Flat c) (hk:Ext.qO f=false:=by exact aH (by decide)):Al Tryz.prog f fn (.ret,st)=some (.uniq e' sz n cs):=Xk hk (.inl rfl) hr hx hh hf
theorem eG {t T:Nat} {cs:List AV} (hr:fn.results.toList=[.cell t T]) (hz:st.env t=z) (hx:Fm Tryz.prog st T z=some (.agg cs)) (hy:fO st (.agg cs)=some y) (hk:Ext.qO f=false:=by exact aH (by decide)):Al Tryz.prog f fn (.ret,st)=some y:=WS hk (.inl rfl) hr hz hx hy
theorem dK {r1 r2:ResultVar} {x1 x2 y1 y2:AV} (hr:fn.results.toList=[r1,r2]) (h1:bY Tryz.prog st r1=some x1) (h2:bY Tryz.prog st r2=some x2) (e1:fO st x1=some y1) (e2:fO st x2=some y2) (hk:Ext.qO f=false:=by exact aH (by decide)):Al Tryz.prog f fn (.ret,st)=some (.eE [y1,y2]):=aAB hk (.inl rfl) hr h1 h2 e1 e2
theorem aLC {r1 r2:ResultVar} {x1 x2 y1 y2:AV} (hr:fn.results.toList=[r1,r2]) (h1:bY Tryz.prog st r1=some x1) (h2:bY Tryz.prog st r2=some x2) (e0:fO st x1=none) (e1:Mt st x1=some y1) (e2:fO st x2=some y2) (hk:Ext.qO f=false:=by exact aH (by decide)):Al Tryz.prog f fn (.ret,st)=some (.eE [y1,y2]):=H0 hk (.inl rfl) hr h1 h2 e0 e1 e2
theorem fM {r1 r2 r3:ResultVar} {x1 x2 x3 y1 y2 y3:AV} (hr:fn.results.toList=[r1,r2,r3]) (h1:bY Tryz.prog st r1=some x1) (h2:bY Tryz.prog st r2=some x2) (h3:bY Tryz.prog st r3=some x3) (e1:fO st x1=some y1) (e2:fO st x2=some y2) (e3:fO st x3=some y3) (hk:Ext.qO f=false:=by exact aH (by decide)):Al Tryz.prog f fn (.ret,st)=some (.eE [y1,y2,y3]):=WU hk (.inl rfl) hr h1 h2 h3 e1 e2 e3
theorem cL {c:Code} (hf:Tryz.prog.funcs[f]? = some fn) (hb:fn.body=some c) (oS:bL fn=true) {xs:List AV} (hu:xs.any tU=false):aB Tryz.prog f xs=cS (zC Tryz.prog c (St.init xs)) (Al Tryz.prog f fn):=aAh _ hf hb oS xs (uJ _ _) hu
theorem cG {c:Code} (hf:Tryz.prog.funcs[f]? = some fn) (hb:fn.body=some c) (oS:sR fn=true) (hc:oA c=true) {xs:List AV} (hu:xs.any tU=false):aB Tryz.prog f xs=cS (wT Tryz.prog true c (St.init xs)) (Al Tryz.prog f fn):=by
 rw[PJ Tryz.prog hf hb oS xs (uJ _ _) hu,hc]
end
section
variable {b:Code} {st st':St} {n:Nat} {I:Nat→St→Prop} {Q:Ex→St→Prop}
theorem oN (m:Nat) (h:zC Tryz.prog b st=some (.normal,st')) (hi:I m st') (hm:m<n:=by omega):∃e st',zC Tryz.prog b st=some (e,st')∧((e=.normal∧∃m,m<n∧I m st')∨(e≠.normal∧Q e st')):=oX h m hm hi
theorem oT (e:Ex) (h:zC Tryz.prog b st=some (e,st')) (hq:Q e st') (he:e≠.normal:=by simp):∃e st',zC Tryz.prog b st=some (e,st')∧((e=.normal∧∃m,m<n∧I m st')∨(e≠.normal∧Q e st')):=aHs h he hq
theorem Am {bi:Bool} (m:Nat) (h:wT Tryz.prog bi b st=some (.normal,st')) (hi:I m st') (hm:m<n:=by omega):∃e st',wT Tryz.prog bi b st=some (e,st')∧((e=.normal∧∃m,m<n∧I m st')∨(e≠.normal∧Q e st')):=aHw h m hm hi
theorem AX {bi:Bool} (e:Ex) (h:wT Tryz.prog bi b st=some (e,st')) (hq:Q e st') (he:e≠.normal:=by simp):∃e st',wT Tryz.prog bi b st=some (e,st')∧((e=.normal∧∃m,m<n∧I m st')∨(e≠.normal∧Q e st')):=aDE h he hq
end
end Go.Ab.Tryz
end
namespace Go.Ab.Tryz
open Classical Go.Proofs Go.Ab
def FT:=aj (aj (aj (aj (aj (aj @K8 (aj @KN @aBv)) (aj @AR (aj @AS @RX))) (aj (aj @RY (aj @aEC @GN)) (aj (aj @ZF @Np) (aj @RZ @aBw)))) (aj (aj (aj @aI8 (aj @MG @Ve)) (aj @u9 (aj @ZH @GQ))) (aj (aj @YE (aj @aBx @aI9)) (aj (aj @HC @ZK) (aj @Vg @T3))))) (aj (aj (aj (aj @KO (aj @nC @KP)) (aj @SA (aj @aBy @aJa))) (aj (aj @EX (aj @EJ @Qn)) (aj (aj @EK @Nr) (aj @SC @NY)))) (aj (aj (aj @aBz (aj @aOr @aED)) (aj (aj @KQ @aBA) (aj @aJb @K9))) (aj (aj @iV (aj @EU @rP)) (aj (aj @uG @SE) (aj @wW @aBB)))))) (aj (aj (aj (aj (aj @aOs (aj @aEE @AT)) (aj @aBC (aj @aJc @SF))) (aj (aj @rA (aj @tK @Tb)) (aj (aj @pK @Ep) (aj @zT @Lp)))) (aj (aj (aj @aOt (aj @aEF @SG)) (aj @aBD (aj @aJd @oM))) (aj (aj @wE (aj @aEG @aBE)) (aj (aj @ML @ZL) (aj @rM @UO))))) (aj (aj (aj (aj @Lj (aj @UP @Dc)) (aj @YF (aj @En @YG))) (aj (aj @L1 (aj @aBF @aJe)) (aj (aj @Nv @Em) (aj @GS @jX)))) (aj (aj (aj @aOu (aj @aEH @YH)) (aj (aj @YI @L2) (aj @aBG @aJf))) (aj (aj @aEI (aj @Ek @wF)) (aj (aj @uH @aBH) (aj @P8 @P7))))))
def E8:=EV
def L8:=LE
def R8:=RD
def F8:=aj FA FT
def EGn:=aj (aj (aj (aj (aj (aj @List.size_toArray.{0} @mH) (aj @oJ @mI)) (aj (aj @mJ @oK) (aj @PF @PG))) (aj (aj (aj @n8 @GY) (aj @FQ @QT)) (aj (aj @XG @XC) (aj @QC (aj @bS @aT))))) (aj (aj (aj (aj @aX @I1) (aj @XE @I2)) (aj (aj @aAG @aAH) (aj @QF (aj @QG @QH)))) (aj (aj (aj @QI @QJ) (aj @QK @QL)) (aj (aj @QM @QN) (aj @QO (aj @QP @QQ)))))) (aj (aj (aj (aj (aj @QR @QS) (aj @aHE @aAZ)) (aj (aj @Xp @p6) (aj @aDF (aj @I3 @aDG)))) (aj (aj (aj @aAN @aHB) (aj @aAO @CP)) (aj (aj @JE @QU) (aj @aDH (aj @aAP @aAQ))))) (aj (aj (aj (aj @aDI @JF) (aj @aAR @JG)) (aj (aj @XH @XI) (aj @aAS (aj @XJ @aHC)))) (aj (aj (aj @aDJ @UW) (aj @aDK @aAT)) (aj (aj @aAU @aAV) (aj @aHD (aj @I4 @aAW))))))
def ZC:=aj (aj L8 R8) F8
def Z8:=aj EV ZC
def ZG:=aj (aj EGn @H9) Z8
end Go.Ab.Tryz
namespace Go.Ab.Tryz
open Go.Ab
theorem Gb:(((aC 0 2 (some 2)=[])∧((aC 1 13 (some 11)=[])∧(aC 2 17 (some 22)=[])))∧(((aC 3 4 (some 37)=[])∧(aC 4 8 (some 40)=[]))∧((aC 5 10 (some 48)=[])∧(aC 6 9 (some 56)=[(4,7)]))))∧(((aC 7 6 (some 63)=[])∧((aC 8 6 (some 68)=[])∧(aC 9 9 (some 73)=[])))∧(((aC 10 18 (some 82)=[])∧(aC 11 4 (some 99)=[]))∧((aC 12 3 (some 103)=[])∧(aC 13 2 (some 105)=[])))):=⟨⟨⟨rfl,⟨rfl,rfl⟩⟩,⟨⟨rfl,rfl⟩,⟨rfl,rfl⟩⟩⟩,⟨⟨rfl,⟨rfl,rfl⟩⟩,⟨⟨rfl,rfl⟩,⟨rfl,rfl⟩⟩⟩⟩
theorem HH:(((aC 0 5 (some 2)=[])∧(aC 1 1 (some 7)=[]))∧((aC 2 5 (some 9)=[])∧(aC 4 11 (some 16)=[])))∧(((aC 5 7 (some 27)=[])∧(aC 6 13 (some 32)=[]))∧((aC 7 5 (some 44)=[(1,2)])∧((aC 3 3 (some 14)=[])∧(aC 8 5 (some 46)=[])))):=⟨⟨⟨rfl,rfl⟩,⟨rfl,rfl⟩⟩,⟨⟨rfl,rfl⟩,⟨rfl,⟨rfl,rfl⟩⟩⟩⟩
theorem Od:((((aC 0 3 (some 2)=[])∧(aC 1 8 (some 9)=[(3,6)]))∧((aC 2 41 (some 13)=[])∧(aC 3 1 (some 4)=[])))∧(((aC 4 38 (some 54)=[])∧(aC 5 1 (some 4)=[]))∧((aC 6 1 (some 7)=[])∧(aC 7 6 (some 131)=[]))))∧((((aC 9 14 (some 139)=[])∧(aC 10 1 (some 4)=[]))∧((aC 8 3 (some 137)=[])∧(aC 11 1 (some 8)=[])))∧(((aC 12 6 (some 153)=[])∧(aC 14 13 (some 161)=[]))∧((aC 15 1 (some 4)=[])∧((aC 13 3 (some 159)=[])∧(aC 16 1 (some 4)=[]))))):=⟨⟨⟨⟨rfl,rfl⟩,⟨rfl,rfl⟩⟩,⟨⟨rfl,rfl⟩,⟨rfl,rfl⟩⟩⟩,⟨⟨⟨rfl,rfl⟩,⟨rfl,rfl⟩⟩,⟨⟨rfl,rfl⟩,⟨rfl,⟨rfl,rfl⟩⟩⟩⟩⟩
theorem sH:(((((aC 0 2 (some 3)=[])∧(aC 1 7 (some 12)=[]))∧((aC 2 4 (some 18)=[])∧(aC 3 14 (some 22)=[])))∧(((aC 4 8 (some 35)=[])∧(aC 5 23 (some 41)=[]))∧((aC 6 9 (some 62)=[])∧((aC 7 5 (some 71)=[])∧(aC 8 4 (some 75)=[])))))∧((((aC 9 9 (some 79)=[])∧(aC 10 7 (some 87)=[]))∧((aC 11 6 (some 93)=[])∧((aC 12 13 (some 97)=[])∧(aC 13 4 (some 110)=[]))))∧(((aC 14 6 (some 114)=[])∧(aC 15 4 (some 119)=[]))∧((aC 16 15 (some 122)=[])∧((aC 17 12 (some 137)=[(7,9)])∧(aC 18 11 (some 147)=[]))))))∧(((((aC 19 5 (some 158)=[])∧(aC 20 8 (some 162)=[(3,5)]))∧((aC 21 3 (some 168)=[])∧((aC 22 2 (some 172)=[])∧(aC 23 6 (some 173)=[]))))∧(((aC 24 2 (some 179)=[])∧(aC 25 5 (some 180)=[]))∧((aC 26 2 (some 185)=[])∧((aC 27 5 (some 186)=[])∧(aC 28 2 (some 191)=[])))))∧((((aC 29 9 (some 192)=[])∧(aC 30 2 (some 201)=[]))∧((aC 31 5 (some 202)=[])∧((aC 32 2 (some 207)=[])∧(aC 33 16 (some 208)=[]))))∧(((aC 34 2 (some 224)=[])∧(aC 35 5 (some 225)=[]))∧((aC 36 2 (some 230)=[])∧((aC 37 3 (some 231)=[])∧(aC 38 2 (some 233)=[])))))):=⟨⟨⟨⟨⟨rfl,rfl⟩,⟨rfl,rfl⟩⟩,⟨⟨rfl,rfl⟩,⟨rfl,⟨rfl,rfl⟩⟩⟩⟩,⟨⟨⟨rfl,rfl⟩,⟨rfl,⟨rfl,rfl⟩⟩⟩,⟨⟨rfl,rfl⟩,⟨rfl,⟨rfl,rfl⟩⟩⟩⟩⟩,⟨⟨⟨⟨rfl,rfl⟩,⟨rfl,⟨rfl,rfl⟩⟩⟩,⟨⟨rfl,rfl⟩,⟨rfl,⟨rfl,rfl⟩⟩⟩⟩,⟨⟨⟨rfl,rfl⟩,⟨rfl,⟨rfl,rfl⟩⟩⟩,⟨⟨rfl,rfl⟩,⟨rfl,⟨rfl,rfl⟩⟩⟩⟩⟩⟩
theorem aSG:(((aC 0 3 (some 2)=[])∧((aC 1 29 (some 11)=[(14,27),(20,27),(21,27),(23,27),(24,27)])∧(aC 2 12 (some 36)=[(7,10)])))∧((aC 3 7 (some 44)=[])∧((aC 4 3 (some 50)=[])∧(aC 5 2 (some 54)=[]))))∧(((aC 6 9 (some 55)=[])∧((aC 7 2 (some 64)=[])∧(aC 8 6 (some 65)=[])))∧(((aC 9 9 (some 70)=[])∧(aC 10 2 (some 79)=[]))∧((aC 11 10 (some 80)=[])∧(aC 12 4 (some 89)=[(1,2)])))):=⟨⟨⟨rfl,⟨rfl,rfl⟩⟩,⟨rfl,⟨rfl,rfl⟩⟩⟩,⟨⟨rfl,⟨rfl,rfl⟩⟩,⟨⟨rfl,rfl⟩,⟨rfl,rfl⟩⟩⟩⟩
theorem HK:(((aC 0 6 (some 3)=[])∧((aC 1 8 (some 16)=[(5,6)])∧(aC 2 5 (some 22)=[])))∧((aC 3 2 (some 27)=[])∧((aC 4 5 (some 28)=[])∧(aC 5 2 (some 33)=[]))))∧(((aC 6 8 (some 35)=[])∧((aC 7 8 (some 41)=[])∧(aC 8 5 (some 46)=[])))∧(((aC 9 11 (some 51)=[])∧(aC 10 31 (some 59)=[]))∧((aC 11 5 (some 90)=[])∧(aC 12 5 (some 92)=[(1,2)])))):=⟨⟨⟨rfl,⟨rfl,rfl⟩⟩,⟨rfl,⟨rfl,rfl⟩⟩⟩,⟨⟨rfl,⟨rfl,rfl⟩⟩,⟨⟨rfl,rfl⟩,⟨rfl,rfl⟩⟩⟩⟩
theorem Qm:(((aC 0 6 (some 3)=[])∧(aC 1 10 (some 13)=[(5,8)]))∧((aC 2 5 (some 19)=[])∧((aC 3 2 (some 24)=[])∧(aC 4 5 (some 25)=[]))))∧(((aC 5 2 (some 30)=[])∧(aC 6 12 (some 31)=[]))∧((aC 7 36 (some 41)=[])∧((aC 8 5 (some 114)=[])∧(aC 9 5 (some 116)=[(1,2)])))):=⟨⟨⟨rfl,rfl⟩,⟨rfl,⟨rfl,rfl⟩⟩⟩,⟨⟨rfl,rfl⟩,⟨rfl,⟨rfl,rfl⟩⟩⟩⟩
theorem sU:((((aC 0 4 (some 3)=[])∧(aC 1 13 (some 16)=[]))∧((aC 2 2 (some 23)=[])∧((aC 3 2 (some 25)=[])∧(aC 4 7 (some 26)=[]))))∧(((aC 5 6 (some 32)=[])∧(aC 6 8 (some 37)=[(1,4)]))∧((aC 7 2 (some 43)=[])∧((aC 8 2 (some 45)=[])∧(aC 9 14 (some 47)=[])))))∧((((aC 10 6 (some 59)=[])∧(aC 11 3 (some 65)=[]))∧((aC 12 9 (some 68)=[])∧((aC 13 1 (some 13)=[])∧(aC 14 1 (some 14)=[]))))∧(((aC 15 6 (some 74)=[])∧((aC 17 9 (some 82)=[])∧(aC 18 10 (some 91)=[])))∧((aC 16 3 (some 80)=[])∧((aC 19 4 (some 100)=[])∧(aC 20 2 (some 103)=[]))))):=⟨⟨⟨⟨rfl,rfl⟩,⟨rfl,⟨rfl,rfl⟩⟩⟩,⟨⟨rfl,rfl⟩,⟨rfl,⟨rfl,rfl⟩⟩⟩⟩,⟨⟨⟨rfl,rfl⟩,⟨rfl,⟨rfl,rfl⟩⟩⟩,⟨⟨rfl,⟨rfl,rfl⟩⟩,⟨rfl,⟨rfl,rfl⟩⟩⟩⟩⟩
theorem Jt:(((aC 0 2 (some 1)=[])∧(aC 1 3 (some 5)=[]))∧((aC 2 2 (some 7)=[])∧((aC 3 1 (some 4)=[])∧(aC 4 4 (some 8)=[]))))∧(((aC 6 9 (some 14)=[])∧((aC 7 10 (some 23)=[])∧(aC 8 7 (some 32)=[])))∧((aC 9 13 (some 39)=[])∧((aC 5 3 (some 12)=[])∧(aC 10 2 (some 51)=[])))):=⟨⟨⟨rfl,rfl⟩,⟨rfl,⟨rfl,rfl⟩⟩⟩,⟨⟨rfl,⟨rfl,rfl⟩⟩,⟨rfl,⟨rfl,rfl⟩⟩⟩⟩
theorem Xs:((((aC 0 3 (some 2)=[])∧(aC 1 4 (some 14)=[]))∧((aC 2 10 (some 17)=[])∧(aC 3 1 (some 9)=[])))∧(((aC 4 4 (some 22)=[])∧(aC 5 4 (some 25)=[]))∧((aC 6 1 (some 10)=[])∧(aC 7 1 (some 11)=[]))))∧((((aC 8 3 (some 29)=[])∧(aC 10 5 (some 34)=[]))∧((aC 11 2 (some 38)=[])∧(aC 12 1 (some 12)=[])))∧(((aC 13 7 (some 40)=[])∧(aC 14 5 (some 45)=[]))∧((aC 15 8 (some 50)=[])∧((aC 9 3 (some 32)=[])∧(aC 16 6 (some 56)=[(2,3)]))))):=⟨⟨⟨⟨rfl,rfl⟩,⟨rfl,rfl⟩⟩,⟨⟨rfl,rfl⟩,⟨rfl,rfl⟩⟩⟩,⟨⟨⟨rfl,rfl⟩,⟨rfl,rfl⟩⟩,⟨⟨rfl,rfl⟩,⟨rfl,⟨rfl,rfl⟩⟩⟩⟩⟩
theorem Q9:((aC 0 3 (some 1)=[])∧((aC 1 5 (some 5)=[])∧(aC 2 8 (some 8)=[])))∧((aC 3 3 (some 16)=[])∧((aC 4 5 (some 17)=[(0,2)])∧(aC 5 5 (some 20)=[(1,3)]))):=⟨⟨rfl,⟨rfl,rfl⟩⟩,⟨rfl,⟨rfl,rfl⟩⟩⟩
theorem Kh:((((aC 0 2 (some 1)=[])∧(aC 1 8 (some 6)=[]))∧((aC 2 1 (some 2)=[])∧((aC 3 7 (some 15)=[])∧(aC 4 2 (some 19)=[]))))∧(((aC 5 2 (some 21)=[])∧((aC 6 5 (some 22)=[])∧(aC 7 2 (some 25)=[])))∧((aC 8 2 (some 28)=[])∧((aC 9 4 (some 29)=[])∧(aC 10 2 (some 33)=[])))))∧((((aC 11 4 (some 34)=[])∧((aC 12 2 (some 38)=[])∧(aC 13 4 (some 39)=[])))∧((aC 14 2 (some 43)=[])∧((aC 15 4 (some 44)=[])∧(aC 16 2 (some 48)=[]))))∧(((aC 17 4 (some 49)=[])∧((aC 18 2 (some 53)=[])∧(aC 19 8 (some 54)=[(3,5)])))∧((aC 20 4 (some 60)=[])∧((aC 21 1 (some 2)=[])∧(aC 22 1 (some 2)=[]))))):=⟨⟨⟨⟨rfl,rfl⟩,⟨rfl,⟨rfl,rfl⟩⟩⟩,⟨⟨rfl,⟨rfl,rfl⟩⟩,⟨rfl,⟨rfl,rfl⟩⟩⟩⟩,⟨⟨⟨rfl,⟨rfl,rfl⟩⟩,⟨rfl,⟨rfl,rfl⟩⟩⟩,⟨⟨rfl,⟨rfl,rfl⟩⟩,⟨rfl,⟨rfl,rfl⟩⟩⟩⟩⟩
theorem ME:((aC 0 2 (some 3)=[])∧(aC 1 1 (some 5)=[]))∧((aC 2 15 (some 6)=[])∧((aC 3 3 (some 21)=[])∧(aC 4 13 (some 23)=[(7,10)]))):=⟨⟨rfl,rfl⟩,⟨rfl,⟨rfl,rfl⟩⟩⟩
theorem Bl:((((aC 0 3 (some 1)=[])∧(aC 1 3 (some 9)=[]))∧((aC 2 3 (some 12)=[])∧(aC 3 5 (some 13)=[])))∧(((aC 4 3 (some 17)=[])∧(aC 5 7 (some 19)=[]))∧((aC 6 4 (some 26)=[])∧((aC 7 7 (some 28)=[])∧(aC 8 4 (some 34)=[])))))∧((((aC 9 3 (some 37)=[])∧(aC 10 1 (some 6)=[]))∧((aC 11 4 (some 39)=[])∧((aC 13 8 (some 45)=[])∧(aC 14 12 (some 53)=[]))))∧(((aC 15 11 (some 65)=[])∧(aC 16 2 (some 73)=[]))∧((aC 17 7 (some 75)=[])∧((aC 12 3 (some 43)=[])∧(aC 18 3 (some 81)=[]))))):=⟨⟨⟨⟨rfl,rfl⟩,⟨rfl,rfl⟩⟩,⟨⟨rfl,rfl⟩,⟨rfl,⟨rfl,rfl⟩⟩⟩⟩,⟨⟨⟨rfl,rfl⟩,⟨rfl,⟨rfl,rfl⟩⟩⟩,⟨⟨rfl,rfl⟩,⟨rfl,⟨rfl,rfl⟩⟩⟩⟩⟩
theorem aL8:((aC 0 2 (some 3)=[])∧(aC 1 14 (some 5)=[(3,5),(3,8),(6,8),(3,11),(6,11),(9,11)]))∧((aC 2 8 (some 18)=[(3,5)])∧((aC 3 8 (some 25)=[(3,5)])∧(aC 4 13 (some 32)=[(4,7),(4,10),(8,10)]))):=⟨⟨rfl,rfl⟩,⟨rfl,⟨rfl,rfl⟩⟩⟩
theorem aFg:((aC 0 3 (some 1)=[])∧(aC 1 4 (some 5)=[]))∧((aC 2 2 (some 8)=[])∧((aC 3 3 (some 10)=[])∧(aC 4 14 (some 11)=[(5,7),(5,10),(8,10)]))):=⟨⟨rfl,rfl⟩,⟨rfl,⟨rfl,rfl⟩⟩⟩
theorem MT:(((aC 0 3 (some 1)=[])∧(aC 1 4 (some 6)=[]))∧((aC 2 2 (some 2)=[])∧(aC 3 14 (some 10)=[(7,9),(7,10)])))∧(((aC 4 1 (some 5)=[])∧(aC 5 5 (some 23)=[]))∧((aC 7 8 (some 30)=[])∧((aC 6 3 (some 28)=[])∧(aC 8 3 (some 37)=[])))):=⟨⟨⟨rfl,rfl⟩,⟨rfl,rfl⟩⟩,⟨⟨rfl,rfl⟩,⟨rfl,⟨rfl,rfl⟩⟩⟩⟩
theorem S6:((aC 0 3 (some 1)=[])∧(aC 1 8 (some 4)=[]))∧((aC 2 2 (some 2)=[])∧(aC 3 13 (some 12)=[(7,9)])):=⟨⟨rfl,rfl⟩,⟨rfl,rfl⟩⟩
theorem aLS:(aC 0 2 (some 3)=[])∧(aC 1 8 (some 5)=[(3,5)]):=⟨rfl,rfl⟩
theorem aFf:(aC 0 2 (some 3)=[])∧(aC 1 14 (some 5)=[(3,5),(3,8),(6,8),(3,11),(6,11),(9,11)]):=⟨rfl,rfl⟩
theorem Xe:((aC 0 1 (some 4)=[])∧((aC 1 1 (some 5)=[])∧(aC 2 12 (some 6)=[])))∧(((aC 3 3 (some 18)=[])∧(aC 4 12 (some 20)=[]))∧((aC 5 2 (some 32)=[])∧(aC 6 12 (some 33)=[(6,9)]))):=⟨⟨rfl,⟨rfl,rfl⟩⟩,⟨⟨rfl,rfl⟩,⟨rfl,rfl⟩⟩⟩
end Go.Ab.Tryz
namespace Go.Ab.Tryz
open Classical Go.Proofs Go.Ab
theorem Fx (x:Int) (h1:-9223372036854775808≤x) (h2:x≤9223372036854775807):IntKind.i64.wrap x=x:=wrap_i64 x h1 h2
theorem c87 (ns:List Node) (i:Int):aB Tryz.prog 87 [.agg (cO ⟨ns⟩),.v (.int .i64 i)]=some (.v (.bool (decide (0≤i) && decide (i<ns.length)))):=by
 rw[cL Tryz.func87 rfl aVs rfl];by_cases h:0≤i
 all_goals
  simp only[ZZ,seval,h,decide_true,decide_false,Bool.false_eq_true,Bool.true_and,Bool.false_and];exact bX rfl (by simp only[EV,seval]) (.v _)
theorem SK (ns:List Node) (i:Int) (st:St) (d:Option Nat):aN (aB Tryz.prog) 87 [.agg (cO ⟨ns⟩),.v (.int .i64 i)] st d=some { dst:=d,val:=.v (.bool (decide (0≤i) && decide (i<ns.length)))}:=bG (bE (mC _) (.v _)) (c87 ns i) (.v _)
def TG (n:Int):Bool:=decide (0≤n) && decide (n≤2)
theorem aPa (i:Int):aB Tryz.prog 186 [.v (.int .i64 i)]=some (.v (.bool (TG i))):=by
 rw[cL Tryz.func186 rfl aOm rfl];by_cases h:0≤i
 all_goals
  simp only[ZZ,seval,h,decide_true,decide_false,Bool.false_eq_true,Bool.true_and,Bool.false_and];exact bX rfl (by simp only[EV,seval,TG,h,decide_true,decide_false,Bool.false_and,Bool.true_and]) (.v _)
noncomputable def aM (ns:List Node) (r:cJ):Int:=match ns.findIdx? (fun n=>decide (n.block.root=r)) with
 | some k=>(k:Int)
 | none=>-1
theorem LI {ns:List Node} {r:cJ} {i:Int} (h0:0≤i) (h1:i<ns.length) (hr:(nd ns i).block.root=r) (hb:∀j,0≤j→j<i→(nd ns j).block.root≠r):aM ns r=i:=by
 obtain⟨hi,e⟩:=Lc h0 h1
 have:ns.findIdx? (fun n=>decide (n.block.root=r))=some i.toNat:=by
  rw[List.findIdx?_eq_some_iff_getElem];refine⟨hi,by simp[← e,hr],fun j hj=>?_⟩
  have h:=hb j (by omega) (by omega)
  have hj':j<ns.length:=by omega
  simp[nd,hj'] at h
  simpa using h
 unfold aM;rw[this];simp;omega
theorem Wh {ns:List Node} {r:cJ} (hb:∀j,0≤j→j<(ns.length:Int)→(nd ns j).block.root≠r):aM ns r=-1:=by
 have:ns.findIdx? (fun n=>decide (n.block.root=r))=none:=by
  rw[List.findIdx?_eq_none_iff];intro n hn;obtain⟨j,hj,rfl⟩:=List.getElem_of_mem hn
  have h:=hb j (by omega) (by omega)
  simp[nd,hj] at h
  simpa using h
 unfold aM;rw[this]
theorem c46 (ns:List Node) (r:cJ) (hn:(ns.length:Int)<1000000):aB Tryz.prog 46 [.agg (cO ⟨ns⟩),.agg (bD r)]=some (.v (.int .i64 (aM ns r))):=by
 rw[cL Tryz.func46 rfl aVr rfl];simp only[ZZ,seval];refine kI (fun n st=>∃i:Int,st.env 2=.ptr 2 0 0∧st.env 3=.ptr 3 0 0∧st.heap 2 0=some (.cells (cO ⟨ns⟩))∧st.heap 3 0=some (.cells (bD r))∧st.env 5=.v (.int .i64 i)∧0≤i∧i≤ns.length∧n=(ns.length-i).toNat ∧
  ∀j,0≤j→j<i→(nd ns j).block.root≠r)
  (fun e st=>(e=.ret∧st.env 4=.v (.int .i64 (aM ns r)))∨(e=.exit 0∧aM ns r=-1)) ns.length ?step ?start ?rest
 case step =>
  rintro n st ⟨i,h2,h3,uT,GD,h5,i0,i1,Gj,hb⟩
  by_cases bA:i<ns.length
  ·have hw:IntKind.i64.wrap (i+1)=i+1:=Fx _ (by omega) (by omega)
   by_cases hr:(nd ns i).block.root=r
   ·apply oT (.ret)
    ·simp only[ZZ,seval,h2,h3,uT,GD,h5,bA,i0,hr];rfl
    ·exact .inl ⟨rfl,by simp only[EV,seval,LI i0 bA hr hb]⟩
   ·apply oN ((ns.length-(i+1)).toNat)
    ·simp only[ZZ,seval,h2,h3,uT,GD,h5,bA,i0,hr,hw];rfl
    ·exact⟨i+1,by simp only[EV,seval,h2],by simp only[EV,seval,h3],by simp only[EV,seval,uT],by simp only[EV,seval,GD],(by simp only[EV,seval]),by omega,by omega,rfl,fun j j0 j1=>by
     rcases Int.lt_or_eq_of_le (show j≤i by omega) with h|rfl
     ·exact hb j j0 h
     ·exact hr⟩
  ·apply oT (.exit 0)
   ·simp only[ZZ,seval,h2,h3,uT,GD,h5,bA,i0];rfl
   ·exact .inr ⟨rfl,Wh fun j j0 j1=>hb j j0 (by omega)⟩
 case start=>exact⟨0,(by simp only[EV,seval]),(by simp only[EV,seval]),(by simp only[EV,seval]),(by simp only[EV,seval]),(by simp only[EV,seval]),by omega,by omega,by omega,fun j _ _=>by omega⟩
 case rest =>
  rintro e st (⟨rfl,h⟩|⟨rfl,h⟩)
  ·simp only[ZZ,seval];exact bX rfl h (.v _)
  ·simp only[ZZ,seval];exact bX rfl (by simp only[EV,seval,h]) (.v _)
end Go.Ab.Tryz
