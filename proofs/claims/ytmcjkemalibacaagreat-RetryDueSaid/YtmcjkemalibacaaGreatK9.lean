/-
  Part 9 of the proof: an evaluator of programs, its soundness, and what functions of this program compute.
-/
import Derived.Test.YtmcjkemalibacaaGreatK8
import Derived.Test.YtmcjkemalibacaaGreatK5
set_option linter.all false
set_option maxRecDepth 20000
set_option maxHeartbeats 40000000
section
namespace Go.Ab
open Classical
instance:Inhabited Node:=⟨r7⟩
def nd (ns:List Node) (i:Int):Node:=ns.getD i.toNat r7
def it (l:List Int) (i:Int):Int:=l.getD i.toNat 0
theorem Ld {ns:List Node} {i:Int} (h0:0≤i) (h1:i<ns.length):∃h:i.toNat<ns.length,nd ns i=ns[i.toNat]:=by
 have h:i.toNat<ns.length:=by omega
 exact⟨h,by simp[nd,h]⟩
theorem xI {l:List Int} {i:Int} (h0:0≤i) (h1:i<l.length):∃h:i.toNat<l.length,it l i=l[i.toNat]:=by
 have h:i.toNat<l.length:=by omega
 exact⟨h,by simp[it,h]⟩
theorem RY (l:List Int):aJ l=l.map fun x=>.v (.int .i64 x):=by
 induction l with
 | nil=>rfl
 | cons a l ih=>simp only[aJ,List.flatMap_cons,List.map_cons,qA] at *;rw[ih];rfl
theorem LP (l:List Int):bF l=l.map fun x=>.v (.int .u64 x):=by
 induction l with
 | nil=>rfl
 | cons a l ih=>simp only[bF,List.flatMap_cons,List.map_cons,sQ] at *;rw[ih];rfl
theorem K4 (a b:List Int):aJ (a++b)=aJ a++aJ b:=by simp[aJ]
theorem AY (a b:List Node):cF (a++b)=cF a++cF b:=by simp[cF]
theorem D6 (l:List Int):∀c∈aJ l,fJ c:=by rw[RY];intro c hc;obtain⟨x,_,rfl⟩:=List.mem_map.1 hc;exact .v _
theorem K5 {l:List Int} {i:Int} (h0:0≤i) (h1:i<l.length):(aJ l)[i.toNat]? = some (.v (.int .i64 (it l i))):=by
 obtain⟨h,e⟩:=xI h0 h1
 rw[RY,List.getElem?_map,List.getElem?_eq_getElem h,e];rfl
theorem D5 {l:List Int} {i:Int} (h0:0≤i) (h1:i<l.length):(bF l)[i.toNat]? = some (.v (.int .u64 (it l i))):=by
 obtain⟨h,e⟩:=xI h0 h1
 rw[LP,List.getElem?_map,List.getElem?_eq_getElem h,e];rfl
theorem YA {ns:List Node} {i:Int} (h0:0≤i) (h1:i<ns.length):((cF ns).drop (i.toNat * 240)).take 240=fD (nd ns i):=by
 obtain⟨h,e⟩:=Ld h0 h1
 rw[e,← J2 ns i.toNat h];rfl
theorem KT:((1:Nat)=0)=False:=by simp
theorem KU:((0:Nat)=1)=False:=by simp
theorem cP {x:AV} (h:Flat x):∀y∈[x],Flat y:=by simpa using h
theorem bI {x y:AV} (h:Flat x) (h':Flat y):∀z∈[x,y],Flat z:=by simp[h,h']
theorem oE {x y u:AV} (h:Flat x) (h':Flat y) (h2:Flat u):∀z∈[x,y,u],Flat z:=by simp[h,h',h2]
theorem nC (t:Tree):Flat (.agg (cU t)):=.agg _ (XC t)
theorem uY (t:Block):Flat (.agg (aT t)):=.agg _ (Bm t)
theorem qT (t:cK):Flat (.agg (aX t)):=.agg _ (dL t)
theorem Ky (l:List Int):Flat (.sl l.length (aJ l)):=.sl _ _ (gD l)
theorem aEX (st:St) (n:Nat) (cs:List AV):aQ st (.sl n cs)=some (n,cs):=rfl
theorem aBL (st:St):aQ st (.v (.slice none 0 0))=some (0,[]):=rfl
theorem aJG (x:Int):qA x=[.v (.int .i64 x)]:=rfl
theorem aJH (x:Int):sQ x=[.v (.int .u64 x)]:=rfl
theorem aEY (x:Bool):vC x=[.v (.bool x)]:=rfl
namespace Tryz
open Go.Proofs
theorem aO7 (st:St) {ns:List Node} {k:IntKind} {i:Int} (h0:0≤i) (h1:i<ns.length):bD Tryz.prog st 48 (.sl ns.length (cF ns)) (.v (.int k i))=some (.ip (fD (nd ns i)) 0):=by
 have hl:i.toNat<ns.length:=by omega
 have:i.toNat * 240+240≤ns.length * 240:=by rw[← Nat.succ_mul];exact Nat.mul_le_mul_right _ hl
 simp only[bD,aJF,RW,h0,h1,Lf,this,and_self,if_true,YA h0 h1]
theorem aFB (st:St) {l:List Int} {k:IntKind} {i:Int} (h0:0≤i) (h1:i<l.length):bD Tryz.prog st 22 (.sl l.length (aJ l)) (.v (.int k i))=some (.ip (qA (it l i)) 0):=by
 obtain⟨h,e⟩:=xI h0 h1
 have:i.toNat * 1+1≤l.length * 1:=by omega
 have hr:=aBk l i.toNat h
 simp only[bD,aEV,Kz,h0,h1,Jd,this,and_self,if_true,e,← hr];rfl
theorem aBM {call:Nat→List AV→Option AV} {ops:Array Oper} {st:St} {d:Option Nat} {T:Nat} {pos:String} {eM:Array Edge} (g:Nat) (args:Array Operand) (tJ:Array Nat) (h:(g == 215 || g == 226 || g == 227 || g == 229 || g == 228 || g == 230 || g == 231 || g == 210 || g == 81 || g == 217 || g == 222 || g == 235 || g == 220 || g == 101 || g == 57 || g == 32 || (g == 43 && d == some 72) || (g == 31 && d == some 40))=false) :
 cE Tryz.prog call ops ⟨d,.call ⟨.value (.func g),args,tJ⟩,T,pos,eM,none⟩ st=cC (aN call g (args.toList.map st.ev) st d) fun e=>some (e.apply st):=by
 simp only[Bool.or_eq_false_iff] at h;exact aD3 g args tJ (aEz (by simp only[h,Bool.or_self])) (aBE (by simp only[h,Bool.or_self]))
theorem K6 {call:Nat→List AV→Option AV} {ops:Array Oper} {st:St} {d:Option Nat} {T:Nat} {pos:String} {eM:Array Edge} (g:Nat) (args:Array Operand) (tJ:Array Nat) (h:(g == 215 || g == 226 || g == 227 || g == 229 || g == 228 || g == 230 || g == 231 || g == 210 || g == 81)=true) :
 cE Tryz.prog call ops ⟨d,.call ⟨.value (.func g),args,tJ⟩,T,pos,eM,none⟩ st=cC (jV call g (args.toList.map st.ev) st d) fun e=>some (e.apply st):=aA4 g args tJ (u5 h)
theorem aBN {call:Nat→List AV→Option AV} {ops:Array Oper} {st:St} {d:Option Nat} {T:Nat} {pos:String} {eM:Array Edge} (g:Nat) (args:Array Operand) (tJ:Array Nat) (h:(g == 217 || g == 222 || g == 235 || g == 220 || g == 101 || g == 57 || g == 32 || (g == 43 && d == some 72) || (g == 31 && d == some 40))=true) :
 cE Tryz.prog call ops ⟨d,.call ⟨.value (.func g),args,tJ⟩,T,pos,eM,none⟩ st=cC (fC call g (args.toList.map st.ev) st d) fun e=>some (e.apply st):=by
 refine WQ g args tJ ?_ (aBF h)
 simp only[Bool.or_eq_true,Bool.and_eq_true,beq_iff_eq] at h;rcases h with (((((((h|h)|h)|h)|h)|h)|h)|⟨h,_⟩)|⟨h,_⟩<;>(subst h;rfl)
theorem aO8 {S d:Nat} (h:((S == 54 && (d == 36 || d == 42 || d == 26)) || (S == 45 && (d == 84 || d == 91)))=false):Ext.va S d=false:=r9 (by
 simp only[Bool.or_eq_false_iff,Bool.and_eq_false_iff] at h ⊢;exact h.1.imp id fun h=>h.2)
theorem aO9 {S d:Nat} (h:((S == 54 && (d == 36 || d == 42 || d == 26)) || (S == 45 && (d == 84 || d == 91)))=false):Ext.pa S d=false:=aEy (by
 simp only[Bool.or_eq_false_iff,Bool.and_eq_false_iff] at h ⊢;exact⟨h.1.imp id fun h=>h.1,h.2⟩)
theorem aBO {S d:Nat} (h:((S == 54 && (d == 36 || d == 42)) || (S == 45 && (d == 84 || d == 91)))=true):Ext.va S d=false:=r9 (by
 by_cases h2:d=26
 ·subst h2;simp at h
 ·simp[h2])
theorem aEZ {call:Nat→List AV→Option AV} {ops:Array Oper} {st:St} {T:Nat} {pos:String} {eM:Array Edge} (s x:Operand) (S d:Nat) (h:((S == 54 && (d == 36 || d == 42 || d == 26)) || (S == 45 && (d == 84 || d == 91)))=false):cE Tryz.prog call ops ⟨some d,.call ⟨.builtin .append,#[s,x],#[S,S]⟩,T,pos,eM,none⟩ st=cC (dC Tryz.prog st S (st.ev s) (st.ev x)) fun ur =>
 some (((match ur.1 with|some p=>st.iH p.1 p.2 none|none=>st).new d ur.2).put (some d) (.own d (st.aO d))):=WS s x S d (aO8 h) (aO9 h)
theorem iK {call:Nat→List AV→Option AV} {ops:Array Oper} {st:St} {T:Nat} {pos:String} {eM:Array Edge} (s x:Operand) (S d:Nat) (h:((S == 54 && (d == 36 || d == 42)) || (S == 45 && (d == 84 || d == 91)))=true) (hn:¬(st.ev s=.v (.slice none 0 0)∧(aQ st (st.ev x)).map Prod.fst=some 0)):cE Tryz.prog call ops ⟨some d,.call ⟨.builtin .append,#[s,x],#[S,S]⟩,T,pos,eM,none⟩ st=cC (dC Tryz.prog st S (st.ev s) (st.ev x)) fun ur =>
 some (((match ur.1 with|some p=>st.iH p.1 p.2 none|none=>st).new d ur.2).put (some d) (.own d (st.aO d))):=aA6 s x S d (aBO h) (u4 h) hn
theorem iJ {call:Nat→List AV→Option AV} {ops:Array Oper} {st:St} {T:Nat} {pos:String} {eM:Array Edge} (s x:Operand) (S d:Nat) (h:((S == 54 && (d == 36 || d == 42)) || (S == 45 && (d == 84 || d == 91)))=true) (hi:(dN Tryz.prog S).isSome=true) (h1:st.ev s=.v (.slice none 0 0)) (h2:(aQ st (st.ev x)).map Prod.fst=some 0):cE Tryz.prog call ops ⟨some d,.call ⟨.builtin .append,#[s,x],#[S,S]⟩,T,pos,eM,none⟩ st=some (st.put (some d) (.v (.slice none 0 0))):=aA7 s x S d (aBO h) (u4 h) hi h1 h2
end Tryz
end Go.Ab
end
section
namespace Go.Ab
open Classical
noncomputable def wR (call:Nat→List AV→Option AV) (g:Nat) (xs:Option (List AV)) (fl:Bool) (st:St) (d:Option Nat):Option mT :=
 cC xs fun xs=>cC (call g xs) fun r=>if fl=true∨Sq r then iM r st d else none
theorem Cx {st:St}:∀(args:List AV),(∀x∈args,Flat x)→bP (args.map (fU st))=some args
 | [],_=>rfl
 | x :: xs,h=>by
   simp only[List.map_cons,dY (h x (by simp)),bP,Cx xs fun y hy=>h y (by simp[hy]),Option.map_some]
theorem nD (call:Nat→List AV→Option AV) (g:Nat) (args:List AV) (st:St) (d:Option Nat):aN call g args st d=wR call g (bP (args.map (fU st))) (decide (∀x∈args,Flat x)) st d:=by
 unfold aN wR;by_cases h:∀x∈args,Flat x
 ·rw[if_pos h,Cx args h];have hd:decide (∀x∈args,Flat x)=true:=decide_eq_true h
  rw[hd];simp only[cW,true_or,if_true]
 ·rw[if_neg h];cases bP (args.map (fU st)) with
  | none=>rfl
  | some xs =>
    have hd:decide (∀x∈args,Flat x)=false:=decide_eq_false h
    rw[hd];simp only[cW,Bool.false_eq_true,false_or]
theorem B0 {call:Nat→List AV→Option AV} {g:Nat} {xs:List AV} {r:AV} {fl:Bool} {st:St} {d:Option Nat} (h:call g xs=some r) (hr:Sq r) (hf:Flat r):wR call g (some xs) fl st d=some { dst:=d,val:=r }:=by
 unfold wR;simp only[cW,h,hr,or_true,if_true,iM,if_pos hf]
theorem HE {call:Nat→List AV→Option AV} {g:Nat} {xs:List AV} {b:Bool} {fl:Bool} {st:St} {d:Option Nat} (h:call g xs=some (.v (.bool b))):wR call g (some xs) fl st d=some { dst:=d,val:=.v (.bool b)}:=B0 h (.v _) (.v _)
theorem LZ {call:Nat→List AV→Option AV} {g:Nat} {xs:List AV} {k:IntKind} {b:Int} {fl:Bool} {st:St} {d:Option Nat} (h:call g xs=some (.v (.int k b))):wR call g (some xs) fl st d=some { dst:=d,val:=.v (.int k b)}:=B0 h (.v _) (.v _)
theorem R5 {call:Nat→List AV→Option AV} {g:Nat} {xs:List AV} {e sz n:Nat} {cs:List AV} {fl:Bool} {st:St} {d:Nat} (h:call g xs=some (.uniq e sz n cs)) (hr:∀c∈cs,fJ c):wR call g (some xs) fl st (some d)=some { dst:=some d,val:=.own d (st.aO d),new:=some (d,[.row e sz n cs])}:=by
 have YU:Sq (.uniq e sz n cs):=hr
 have hnf:¬Flat (.uniq e sz n cs):=by intro h;cases h
 unfold wR;simp only[cW,h,YU,or_true,if_true,iM,if_neg hnf];rfl
noncomputable def jF (o:Option jI):Option AV :=
 match o with
 | some (.row _ _ n cs)=>if ∀c∈cs,Flat c then some (.sl n cs) else none
 | _=>none
theorem vR (st:St) (s g:Nat):fU st (.own s g)=jF (st.heap s g):=by
 unfold fU cM jF;rw[if_neg (pA s g)];simp only[if_neg (pA s g)];cases st.heap s g with
 | none=>rfl
 | some e=>cases e<;>rfl
theorem K7 (e sz n:Nat) (l:List Int):jF (some (.row e sz n (aJ l)))=some (.sl n (aJ l)):=by
 unfold jF;simp only;rw[if_pos (gD l)]
theorem K8 (e sz n:Nat) (l:List Int):jF (some (.row e sz n (bF l)))=some (.sl n (bF l)):=by
 unfold jF;simp only;rw[if_pos (iC l)]
theorem YB (e sz n:Nat) (l:List Node):jF (some (.row e sz n (cF l)))=some (.sl n (cF l)):=by
 unfold jF;simp only;rw[if_pos (kH l)]
theorem RZ (e sz:Nat) (x:Node):jF (some (.row e sz 1 (fD x)))=some (.sl [x].length (cF [x])):=by
 unfold jF;simp only;rw[if_pos (Lc x)];simp[cF]
theorem Ql (st:St) (x:Value):fU st (.v x)=some (.v x):=dY (.v x)
theorem Ix (st:St) (t:Tree):fU st (.agg (cU t))=some (.agg (cU t)):=dY (nC t)
theorem Qs (st:St) (t:cK):fU st (.agg (aX t))=some (.agg (aX t)):=dY (qT t)
theorem Lk (st:St) (t:Block):fU st (.agg (aT t))=some (.agg (aT t)):=dY (uY t)
theorem aBP (st:St) (n:Nat) (l:List Int):fU st (.sl n (aJ l))=some (.sl n (aJ l)):=dY (.sl _ _ (gD l))
theorem aBQ (st:St) (n:Nat) (l:List Int):fU st (.sl n (bF l))=some (.sl n (bF l)):=dY (.sl _ _ (iC l))
theorem aE0 (st:St):fU st (.agg [.v (.slice none 0 0)])=some (.agg [.v (.slice none 0 0)]):=dY (.agg _ (by simp;exact .v _))
theorem iD {α:Type}:bP ([]:List (Option α))=some []:=rfl
theorem bT {α:Type} (x:α) (r:List (Option α)):bP (some x :: r)=(bP r).map (x :: ·):=rfl
theorem aE1 (x:Int):yF 3 1 8 (some (1,[.v (.int .i64 x)]))=some (none,.row 3 1 [x].length (aJ [x])):=by
 simp[yF,maxLen];rfl
theorem aE2 (l:List Int) (x:Int) (s g:Nat) (h:(l.length:Int)<1000000):xT 3 1 8 (some (.row 3 1 l.length (aJ l))) s g (some (1,[.v (.int .i64 x)]))=some (some (s,g),.row 3 1 (l++[x]).length (aJ (l++[x]))):=by
 simp only[xT];rw[if_pos ⟨by simp,by simp,by simp,by omega,by simp only[maxLen];omega⟩,K4]
 simp[aJ,qA]
theorem aBR (x:Node):yF 76 240 352 (some (1,fD x))=some (none,.row 76 240 [x].length (cF [x])):=by
 simp[yF,maxLen,cF]
theorem aBS (l:List Node) (x:Node) (s g:Nat) (h:(l.length:Int)<1000000):xT 76 240 352 (some (.row 76 240 l.length (cF l))) s g (some (1,fD x))=some (some (s,g),.row 76 240 (l++[x]).length (cF (l++[x]))):=by
 simp only[xT];rw[if_pos ⟨by simp,by simp,by simp,by omega,by simp only[maxLen];omega⟩,AY]
 simp[cF]
theorem aBT (l:List Node) (h:(l.length:Int)<1000000):yF 76 240 352 (some (l.length,cF l))=some (none,.row 76 240 l.length (cF l)):=by
 simp only[yF];rw[if_pos (by refine⟨by simp, ?_, ?_⟩<;>(try simp only[maxLen])<;>omega)]
theorem aBU (l:List Node) (h:(l.length:Int)<1000000):acE 76 240 352 0 [] (some (l.length,cF l))=some (none,.row 76 240 l.length (cF l)):=by
 simp only[acE];rw[if_pos ⟨by simp,by simp,by simp,by omega,by simp only[maxLen];omega⟩]
 simp
theorem aBV (l:List Node) (x:Node) (h:(l.length:Int)<1000000):acE 76 240 352 l.length (cF l) (some (1,fD x))=some (none,.row 76 240 (l++[x]).length (cF (l++[x]))):=by
 simp only[acE];rw[if_pos (by refine⟨by simp,by simp,.inr (by omega), ?_, ?_⟩<;>(try simp only[maxLen])<;>omega),AY]
 simp[cF]
def onI {α:Type} (x:AV) (k:Int→Option α):Option α :=
 match x with
 | .v (.int .i64 v)=>k v
 | _=>none
def aGC {α:Type} (z:Nat) (x:AV) (k:List AV→Option α):Option α :=
 match x with
 | .agg cs=>if cs.length=z then k cs else none
 | _=>none
@[congr] theorem aKw {α:Type} {x y:AV} {k:Int→Option α} (h:x=y):onI x k=onI y k:=by rw[h]
@[congr] theorem aGD {α:Type} {z:Nat} {x y:AV} {k:List AV→Option α} (h:x=y):aGC z x k=aGC z y k:=by rw[h]
def La {α:Type} (x:AV) (k:Int→Option α) (fb:Option α):Option α :=
 match x with
 | .v (.int .i64 v)=>k v
 | _=>fb
def SA {α:Type} (z:Nat) (x:AV) (k:List AV→Option α) (fb:Option α):Option α :=
 match x with
 | .agg cs=>if cs.length=z then k cs else fb
 | _=>fb
def SC {α:Type} (x:AV) (k:Nat→List AV→Option α) (fb:Option α):Option α :=
 match x with
 | .Aj g cs=>k g cs
 | _=>fb
theorem aE3 {α:Type} (v:Int) (k:Int→Option α) (fb:Option α):La (.v (.int .i64 v)) k fb=k v:=rfl
theorem K9 {α:Type} (z:Nat) (cs:List AV) (k:List AV→Option α) (fb:Option α) (h:cs.length=z):SA z (.agg cs) k fb=k cs:=if_pos h
theorem L1 {α:Type} (g:Nat) (cs:List AV) (k:Nat→List AV→Option α) (fb:Option α):SC (.Aj g cs) k fb=k g cs:=rfl
@[congr] theorem aKx {α:Type} {x y:AV} {k:Int→Option α} {fb:Option α} (h:x=y):La x k fb=La y k fb:=by rw[h]
@[congr] theorem aGE {α:Type} {z:Nat} {x y:AV} {k:List AV→Option α} {fb:Option α} (h:x=y):SA z x k fb=SA z y k fb:=by rw[h]
@[congr] theorem aGF {α:Type} {x y:AV} {k:Nat→List AV→Option α} {fb:Option α} (h:x=y):SC x k fb=SC y k fb:=by rw[h]
namespace Tryz
open Go.Proofs
theorem L3 (st:St) (x:AV):dC Tryz.prog st 22 (.v (.slice none 0 0)) x=yF 3 1 8 (aQ st x):=uQ Kz x
theorem L4 (st:St) (s g:Nat) (x:AV):dC Tryz.prog st 22 (.own s g) x=xT 3 1 8 (st.heap s g) s g (aQ st x):=tA Kz s g x
theorem L5 (st:St) (x:AV):dC Tryz.prog st 48 (.v (.slice none 0 0)) x=yF 76 240 352 (aQ st x):=uQ RW x
theorem L6 (st:St) (s g:Nat) (x:AV):dC Tryz.prog st 48 (.own s g) x=xT 76 240 352 (st.heap s g) s g (aQ st x):=tA RW s g x
theorem aBW (st:St) (n:Nat) (cs:List AV) (x:AV):dC Tryz.prog st 48 (.cl n cs) x=acE 76 240 352 n cs (aQ st x):=aIf RW n cs x
theorem L7 (st:St) (s g:Nat) (k:IntKind) (i:Int):bD Tryz.prog st 22 (.own s g) (.v (.int k i))=QG 3 1 (st.heap s g) s g i:=by
 simp only[bD,aEV,Kz,QG];cases st.heap s g with
 | none=>rfl
 | some e=>cases e<;>rfl
theorem L9 (st:St) (s g:Nat) (k:IntKind) (i:Int):bD Tryz.prog st 48 (.own s g) (.v (.int k i))=QG 76 240 (st.heap s g) s g i:=by
 simp only[bD,aJF,RW,QG];cases st.heap s g with
 | none=>rfl
 | some e=>cases e<;>rfl
theorem aE4 (l:List Int) (s g:Nat) (i:Int) (h0:0≤i) (h1:i<l.length):QG 3 1 (some (.row 3 1 l.length (aJ l))) s g i=some (.ptr s g i.toNat):=by
 simp[QG,h0,h1]
theorem aBX (l:List Node) (s g:Nat) (i:Int) (h0:0≤i) (h1:i<l.length):QG 76 240 (some (.row 76 240 l.length (cF l))) s g i=some (.ptr s g (i.toNat * 240)):=by
 simp[QG,h0,h1]
theorem SE (st:St) (s g:Nat):fU st (.agg [.own s g])=(jF (st.heap s g)).map fun y=>.agg [y]:=by
 have hn:¬Flat (.agg [.own s g]):=by intro h;cases h with|agg _ h=>exact pA s g (h _ (by simp))
 unfold fU jF;rw[if_neg hn];simp only[List.map_cons,List.map_nil];unfold cM;rw[if_neg (pA s g)];simp only
 cases st.heap s g with
 | none=>rfl
 | some e=>cases e with
   | row a b n cs =>
     by_cases h:∀c∈cs,Flat c
     ·simp only[if_pos h,bP,Option.map_some]
     ·simp only[if_neg h,bP,Option.map_none]
   | _=>rfl
theorem aJI (x:AV):rd [x] 0 1=[x]:=rfl
theorem aJJ (x y:AV):dM [x] 0 [y] 1=[y]:=rfl
theorem aBY (x:AV) (t:Tree):dM [x] 0 (cU t) 1=cU t:=rfl
theorem aBZ (x:AV) (t:Tree):dM (cU t) 0 [x] 1=[x]:=rfl
theorem pG {l:List Int} {i:Int} (h0:0≤i) (h1:i<l.length):(aJ l)[i.toNat]? = some (.v (.int .i64 (it l i))):=K5 h0 h1
def vow (o:Option jI):Option (Nat × List AV) :=
 match o with
 | some (.row _ _ n cs)=>some (n,cs)
 | _=>none
theorem aE5 (e sz n:Nat) (cs:List AV):vow (some (.row e sz n cs))=some (n,cs):=rfl
theorem M0 (st:St) (s g:Nat):aQ st (.own s g)=vow (st.heap s g):=by
 simp only[aQ,vow];cases st.heap s g with
 | none=>rfl
 | some o=>cases o<;>rfl
section
variable {call:Nat→List AV→Option AV} {ops:Array Oper} {st:St} {T:Nat} {pos:String} {eM:Array Edge}
theorem aE6 (d:Nat) (x:Operand) {v:Int} (h:st.ev x=.v (.int .i64 v)):cE Tryz.prog call ops ⟨some d,.buildSlice 22 1 #[(0,x)],T,pos,eM,none⟩ st=some ((st.new d (.row 3 1 1 [.v (.int .i64 v)])).put (some d) (.own d (st.aO d))):=by
 rw[lB];simp[Kz,ze3,cC,h,AV.jR,Value.oneCell',gN,AV.cells]
theorem aE7 (d:Nat) (x:Operand) {cs:List AV} (h:st.ev x=.agg cs) (hl:cs.length=240):cE Tryz.prog call ops ⟨some d,.buildSlice 48 1 #[(0,x)],T,pos,eM,none⟩ st=some ((st.new d (.row 76 240 1 cs)).put (some d) (.own d (st.aO d))):=by
 rw[lB];have hz:(Zs.map AV.v).length=240:=by rw[JJ];simp
 simp only[RW,aIM,cC,List.toList_toArray,List.all_cons,List.all_nil,h,AV.jR,Bool.and_self,List.map_cons,List.map_nil,gN,AV.cells,hl,Nat.zero_mul,Nat.zero_add,true_and,List.take_zero,List.nil_append];have h2:((List.range 1).flatMap fun _=>Zs.map AV.v)=Zs.map AV.v:=by simp[List.range,List.range.loop]
 rw[h2,if_pos (by simp),if_pos (by rw[hz];exact Nat.le_refl _)]
 rw[List.drop_of_length_le (by rw[hz];exact Nat.le_refl _),List.append_nil]
theorem aB0 (d:Nat) (x:Operand):cE Tryz.prog call ops ⟨some d,.buildSlice 22 1 #[(0,x)],T,pos,eM,none⟩ st =
 La (st.ev x) (fun v=>some ((st.new d (.row 3 1 1 [.v (.int .i64 v)])).put (some d) (.own d (st.aO d)))) (cE Tryz.prog call ops ⟨some d,.buildSlice 22 1 #[(0,x)],T,pos,eM,none⟩ st):=by
 unfold La;split
 ·rename_i v h;exact aE6 d x h
 ·rfl
theorem M1 (d:Nat) (x y z:Operand) {a b c:Int} (h1:st.ev x=.v (.int .i64 a)) (h2:st.ev y=.v (.int .i64 b)) (h3:st.ev z=.v (.int .i64 c)):cE Tryz.prog call ops ⟨some d,.buildSlice 22 3 #[(0,x),(1,y),(2,z)],T,pos,eM,none⟩ st =
 some ((st.new d (.row 3 1 [a,b,c].length (aJ [a,b,c]))).put (some d) (.own d (st.aO d))):=by
 rw[lB];simp[Kz,ze3,cC,h1,h2,h3,AV.jR,Value.oneCell',gN,AV.cells,List.range,List.range.loop,aJ,qA]
theorem YC (d:Nat) (x y z:Operand):cE Tryz.prog call ops ⟨some d,.buildSlice 22 3 #[(0,x),(1,y),(2,z)],T,pos,eM,none⟩ st =
 La (st.ev x) (fun a=>La (st.ev y) (fun b=>La (st.ev z) (fun c=>some ((st.new d (.row 3 1 [a,b,c].length (aJ [a,b,c]))).put (some d) (.own d (st.aO d)))) (cE Tryz.prog call ops ⟨some d,.buildSlice 22 3 #[(0,x),(1,y),(2,z)],T,pos,eM,none⟩ st))
  (cE Tryz.prog call ops ⟨some d,.buildSlice 22 3 #[(0,x),(1,y),(2,z)],T,pos,eM,none⟩ st)) (cE Tryz.prog call ops ⟨some d,.buildSlice 22 3 #[(0,x),(1,y),(2,z)],T,pos,eM,none⟩ st):=by
 unfold La;split
 ·rename_i a h1;try dsimp only
  split
  ·rename_i b h2;try dsimp only
   split
   ·rename_i c h3;exact M1 d x y z h1 h2 h3
   ·rfl
  ·rfl
 ·rfl
theorem aB1 (d:Nat) (x:Operand):cE Tryz.prog call ops ⟨some d,.buildSlice 48 1 #[(0,x)],T,pos,eM,none⟩ st =
 SA 240 (st.ev x) (fun cs=>some ((st.new d (.row 76 240 1 cs)).put (some d) (.own d (st.aO d)))) (cE Tryz.prog call ops ⟨some d,.buildSlice 48 1 #[(0,x)],T,pos,eM,none⟩ st):=by
 unfold SA;split
 ·rename_i cs h;split
  ·rename_i hl;exact aE7 d x h hl
  ·rfl
 ·rfl
theorem DR (S d:Nat) (l c:Operand):cE Tryz.prog call ops ⟨some d,.makeSlice S l c,T,pos,eM,none⟩ st =
 La (st.ev l) (fun n=>La (st.ev c) (fun m=>if 0≤n∧n=m then (cC (dN Tryz.prog S) fun t=>cC (dX Tryz.prog t.1) fun z =>
  if n * t.2.2≤140737488355328∧n≤maxLen then some ((st.new d (.row t.1 t.2.1 n.toNat ((List.range n.toNat).flatMap fun _=>z.map .v))).put (some d) (.own d (st.aO d))) else none)
  else cE Tryz.prog call ops ⟨some d,.makeSlice S l c,T,pos,eM,none⟩ st) (cE Tryz.prog call ops ⟨some d,.makeSlice S l c,T,pos,eM,none⟩ st)) (cE Tryz.prog call ops ⟨some d,.makeSlice S l c,T,pos,eM,none⟩ st):=by
 unfold La;split
 ·rename_i n hl;split
  ·rename_i m hc;dsimp only
   split
   ·rename_i hnm;obtain⟨h0,rfl⟩:=hnm
    have hn:n=(n.toNat:Int):=by omega
    rw[JB S d l c (n:=n.toNat) (by rw[hl,← hn]) (by rw[hc,← hn]),← hn]
   ·rfl
  ·rfl
 ·rfl
theorem M3 (t:Nat) (args:Array Operand) (tJ:Array Nat) (d:Option Nat):cE Tryz.prog call ops ⟨d,.call ⟨.value (.tmp t),args,tJ⟩,T,pos,eM,none⟩ st =
 SC (st.env t) (fun g nJ=>cC (aN call g (args.toList.map st.ev++nJ) st d) fun e=>some (e.apply st)) (cE Tryz.prog call ops ⟨d,.call ⟨.value (.tmp t),args,tJ⟩,T,pos,eM,none⟩ st):=by
 unfold SC;split
 ·rename_i g nJ h;exact aA5 t args tJ h
 ·rfl
end
end Tryz
end Go.Ab
end
namespace Go.Ab
open Classical
theorem aE8 (b:Bool):unA .not (.v (.bool b))=some (.v (.bool (!b))):=rfl
theorem aE9 (k:IntKind) (n:Int):unA .neg (.v (.int k n))=some (.v (.int k (k.wrap (0-n)))):=rfl
theorem aFa (k:IntKind) (n:Int):unA .xor (.v (.int k n))=some (.v (.int k (k.wrap (BitVec.ofInt k.bits (if k.signed then -1 else k.max) ^^^ BitVec.ofInt k.bits n).toNat))):=rfl
def aB2 (a b:Option IntKind) (n:Int):Option AV :=
 match a,b with
 | some k,some _=>some (.v (.int k (k.wrap n)))
 | _,_=>none
theorem YD (k k':IntKind) (n:Int):aB2 (some k) (some k') n=some (.v (.int k (k.wrap n))):=rfl
theorem M4 (P:Program) (s d:Nat) (k:IntKind) (n:Int):PN P s d (.v (.int k n))=aB2 (intKind P d) (intKind P s) n:=by
 simp only[PN,aB2];cases intKind P d with
 | none=>rfl
 | some a=>cases intKind P s<;>rfl
theorem aFb (s g o k:Nat):vH (.ptr s g o) k=some (.ptr s g (o+k)):=rfl
theorem aJK (cs:List AV) (o k:Nat):vH (.ip cs o) k=if o+k≤cs.length then some (.ip cs (o+k)) else none:=rfl
def uH (P:Program) (T:Nat) (e:Option jI) (o:Nat):Option AV :=
 match e with
 | some (.cells cs)=>fG P T cs o
 | some (.row _ _ _ cs)=>fG P T cs o
 | _=>none
theorem SF (P:Program) (T o:Nat) (cs:List AV):uH P T (some (.cells cs)) o=fG P T cs o:=rfl
theorem M5 (P:Program) (T o e sz n:Nat) (cs:List AV):uH P T (some (.row e sz n cs)) o=fG P T cs o:=rfl
theorem aFc (P:Program) (st:St) (T o:Nat) (cs:List AV):Fp P st T (.ip cs o)=fG P T cs o:=rfl
theorem aB3 (P:Program) (st:St) (T s g o:Nat):Fp P st T (.ptr s g o)=uH P T (st.heap s g) o:=by
 simp only[Fp,uH];cases st.heap s g with
 | none=>rfl
 | some e=>cases e<;>rfl
theorem aJL (x:Value):(AV.v x).jR=x.oneCell':=rfl
theorem aB4 (cs:List AV):(AV.agg cs).jR=true:=rfl
theorem aFd (n:Nat) (cs:List AV):(AV.sl n cs).jR=true:=rfl
theorem aFe (n:Nat) (cs:List AV):(AV.cl n cs).jR=true:=rfl
theorem aFf (n:Nat) (cs:List AV):(AV.ip cs n).jR=true:=rfl
theorem aB5 (s g o:Nat):(AV.ptr s g o).jR=true:=rfl
theorem aB6 (s g:Nat):(AV.own s g).jR=true:=rfl
theorem aFg (s g:Nat):(AV.mp s g).jR=true:=rfl
theorem aB7 (f:Nat) (cs:List AV):(AV.Aj f cs).jR=true:=rfl
theorem aPa (x:Value):(AV.v x).cells=[.v x]:=rfl
theorem aFh (cs:List AV):(AV.agg cs).cells=cs:=rfl
theorem aJM (n:Nat) (cs:List AV):(AV.sl n cs).cells=[.sl n cs]:=rfl
theorem aJN (n:Nat) (cs:List AV):(AV.cl n cs).cells=[.cl n cs]:=rfl
theorem aJO (n:Nat) (cs:List AV):(AV.ip cs n).cells=[.ip cs n]:=rfl
theorem aFi (s g o:Nat):(AV.ptr s g o).cells=[.ptr s g o]:=rfl
theorem aFj (s g:Nat):(AV.own s g).cells=[.own s g]:=rfl
theorem aJP (s g:Nat):(AV.mp s g).cells=[.mp s g]:=rfl
theorem aFk (f:Nat) (cs:List AV):(AV.Aj f cs).cells=[.Aj f cs]:=rfl
theorem aFl (k:IntKind) (n:Int):(Value.int k n).oneCell'=true:=rfl
theorem aB8 (b:Bool):(Value.bool b).oneCell'=true:=rfl
theorem M6 (a:Option Addr) (n m:Nat):(Value.slice a n m).oneCell'=true:=rfl
theorem YE (id:Nat):Ex.normal.inBlock id=.normal:=rfl
theorem aFm (id:Nat):Ex.ret.inBlock id=.ret:=rfl
theorem aB9 (id i:Nat):(Ex.exit i).inBlock id=if i=id then .normal else .exit i:=rfl
theorem aFn (l:List Oper) (j:Nat):p8 l.toArray j=(l[j]?).bind (·.dst):=by simp[p8]
theorem gei (a b:Int):(a≥b)=(b≤a):=rfl
theorem gti (a b:Int):(a > b)=(b<a):=rfl
theorem aWf (a b:Nat):(a≥b)=(b≤a):=rfl
theorem gtn (a b:Nat):(a > b)=(b<a):=rfl
end Go.Ab
section
namespace Go.Ab
open Classical
def cU8 (x:Int):List AV:=[.v (.int .u8 x)]
theorem aFo (x:Int):(cU8 x).length=1:=rfl
theorem aCa (s:Int):∀x∈cU8 s,Flat x:=by intro x hx;simp[cU8] at hx;subst hx;exact .v _
def kI (l:List Int):List AV:=l.flatMap cU8
theorem vS (l:List Int):∀x∈kI l,Flat x:=by
 intro x hx;obtain⟨y,_,hy⟩:=List.mem_flatMap.1 hx
 exact aCa y x hy
section
variable {α:Type} {c:α→List AV} {sz:Nat}
theorem iL (hc:∀x,(c x).length=sz) (l:List α):(l.flatMap c).length=l.length * sz:=by
 induction l with
 | nil=>simp
 | cons x l ih=>simp only[List.flatMap_cons,List.length_append,hc,List.length_cons,ih];rw[Nat.succ_mul];omega
theorem yA (hc:∀x,(c x).length=sz):∀(l:List α) (k:Nat),(l.flatMap c).take (k * sz)=(l.take k).flatMap c
 | [],k=>by simp
 | x :: l,0=>by simp
 | x :: l,k+1=>by
   simp only[List.flatMap_cons,List.take_succ_cons];rw[List.take_append,List.take_of_length_le (by rw[hc,Nat.succ_mul];omega),hc,show (k+1) * sz-sz=k * sz by rw[Nat.succ_mul];omega,yA hc l k]
theorem yB (hc:∀x,(c x).length=sz):∀(l:List α) (k:Nat),(l.flatMap c).drop (k * sz)=(l.drop k).flatMap c
 | [],k=>by simp
 | x :: l,0=>by simp
 | x :: l,k+1=>by
   simp only[List.flatMap_cons,List.drop_succ_cons];rw[List.drop_append,List.drop_of_length_le (by rw[hc,Nat.succ_mul];omega),List.nil_append,hc,show (k+1) * sz-sz=k * sz by rw[Nat.succ_mul];omega,yB hc l k]
theorem Kr (hc:∀x,(c x).length=sz) {z:α} {l:List α} {i:Int} (h0:0≤i) (h1:i<l.length):((l.flatMap c).drop (i.toNat * sz)).take sz=c (gx z l i):=by
 obtain⟨h,e⟩:=XL (z:=z) h0 h1
 rw[yB hc,e];have h2:=yA hc (l.drop i.toNat) 1
 rw[Nat.one_mul] at h2;rw[h2];have h3:(l.drop i.toNat).take 1=[l[i.toNat]]:=by rw[List.take_one];simp[List.head?_drop,h]
 rw[h3];simp
theorem KV (hc:∀x,(c x).length=sz) (l:List α) (k:Nat) (x:α) (h:k<l.length):dM (l.flatMap c) (k * sz) (c x) (k * sz+sz)=(l.set k x).flatMap c:=by
 unfold dM;rw[yA hc,show k * sz+sz=(k+1) * sz by rw[Nat.succ_mul],yB hc,List.set_eq_take_append_cons_drop,if_pos h]
 simp
theorem SG [Ext] {P:Program} {T e n k off:Nat} (hc:∀x,(c x).length=sz) {z:α} {l:List α} {i:Int} (h0:0≤i) (h1:i<l.length) (hk:tR P T=some k) (vI:0<k) (ho:off+k≤sz) :
 uH P T (some (.row e sz n (l.flatMap c))) (i.toNat * sz+off)=fG P T (c (gx z l i)) off:=by
 obtain⟨hn,_⟩:=XL (z:=z) h0 h1
 have hat:=Kr hc (z:=z) h0 h1
 have hle:i.toNat * sz+sz≤(l.flatMap c).length:=by
  rw[iL hc,← Nat.succ_mul];exact Nat.mul_le_mul_right _ hn
 have Bv:=hc (gx z l i)
 simp only[uH,fG];unfold tR at hk;cases hi:fO P T with
 | none=>rfl
 | some r =>
   obtain⟨b,k'⟩:=r
   rw[hi] at hk;simp only[Option.map_some,Option.some.injEq] at hk;subst hk;have hg:∀j,j<sz→(l.flatMap c)[i.toNat * sz+j]? = (c (gx z l i))[j]?:=fun j hj=>by
    rw[← hat,List.getElem?_take,if_pos hj,List.getElem?_drop]
   cases b with
   | true =>
     simp only
     have e1:rd (l.flatMap c) (i.toNat * sz+off) k'=rd (c (gx z l i)) off k':=by
      unfold rd;rw[← hat,List.drop_take,List.drop_drop,List.take_take,Nat.min_eq_left (by omega)]
     rw[e1];have l1:k'≤(l.flatMap c).length-(i.toNat * sz+off):=by omega
     have l2:k'≤(c (gx z l i)).length-off:=by omega
     rw[if_pos ⟨vI,l1⟩,if_pos ⟨vI,l2⟩]
   | false =>
     simp only
     exact hg off (by omega)
end
theorem aCb (ns:List Node):mW ⟨.sl ns.length (cF ns)⟩=cU ⟨ns⟩:=rfl
theorem AZ (s:aM) (l:List Node):dM (aB s) 115 (cU ⟨l⟩) 116=aB { s with tree:=⟨.sl l.length (cF l)⟩}:=Ch s ⟨.sl l.length (cF l)⟩
theorem BA (s:State) (l:List Node):dM (aE s) 115 (cU ⟨l⟩) 116=aE { s with store:={ s.store with tree:=⟨.sl l.length (cF l)⟩} }:=xX s ⟨.sl l.length (cF l)⟩
namespace Tryz
open Go.Proofs
theorem M7 (st:St) (t:fV):fU st (.agg (bZ t))=some (.agg (bZ t)):=dY (.agg _ (dD t))
theorem KW (st:St) (t:Request):fU st (.agg (bU t))=some (.agg (bU t)):=dY (.agg _ (jS t))
theorem SH (st:St) (s:aM) (h:Flat (.agg (aB s))):fU st (.agg (aB s))=some (.agg (aB s)):=dY h
theorem SI (st:St) (s:State) (h:Flat (.agg (aE s))):fU st (.agg (aE s))=some (.agg (aE s)):=dY h
theorem GN {T n k off:Nat} {l:List fV} {i:Int} (h0:0≤i) (h1:i<l.length) (hk:tR Tryz.prog T=some k) (vI:0<k) (ho:off+k≤33):uH Tryz.prog T (some (.row 41 33 n (zM l))) (i.toNat * 33+off)=fG Tryz.prog T (bZ (gx gZ l i)) off:=SG bS h0 h1 hk vI ho
theorem ZD {T n k:Nat} {l:List fV} {i:Int} (h0:0≤i) (h1:i<l.length) (hk:tR Tryz.prog T=some k) (vI:0<k) (ho:k≤33):uH Tryz.prog T (some (.row 41 33 n (zM l))) (i.toNat * 33)=fG Tryz.prog T (bZ (gx gZ l i)) 0:=by
 have h:=GN (n:=n) (off:=0) h0 h1 hk vI (by omega)
 rw[Nat.add_zero] at h;exact h
theorem Nn (l:List fV) (i:Int) (x:fV) (h:i.toNat<l.length):dM (zM l) (i.toNat * 33) (bZ x) (i.toNat * 33+33)=zM (l.set i.toNat x):=by
 generalize i.toNat=k at h ⊢
 have:=KV (c:=bZ) (sz:=33) bS l k x h
 exact this
theorem SJ (st:St) (o:Option (List kS)):aQ st (ov cO o)=some ((ol o).length,cO (ol o)):=by cases o<;>rfl
theorem rC (o:Option (List kS)):Flat (ov cO o):=by
 cases o with
 | none=>exact .v _
 | some l=>exact .sl _ _ (nG l)
theorem aCc (st:St) {l:List kS} {kk:IntKind} {i:Int} (h0:0≤i) (h1:i<l.length):bD Tryz.prog st 37 (.sl l.length (cO l)) (.v (.int kk i))=some (.ip (jQ (gx tT l i)) 0):=by
 have hl:i.toNat<l.length:=by omega
 have h2:i.toNat * 34+34≤(l.flatMap jQ).length:=by rw[iL rZ,← Nat.succ_mul];exact Nat.mul_le_mul_right _ hl
 have h3:((cO l).drop (i.toNat * 34)).take 34=jQ (gx tT l i):=Kr rZ h0 h1
 have h4:(cO l).length=(l.flatMap jQ).length:=rfl
 (simp only[bD,aJD,K3,h0,h1,h4,h2,and_self,if_true,h3])<;>rfl
theorem aJQ (st:St) {o:Option (List kS)} {kk:IntKind} {i:Int} (h0:0≤i) (h1:i<(ol o).length):bD Tryz.prog st 37 (ov cO o) (.v (.int kk i))=some (.ip (jQ (gx tT (ol o) i)) 0):=by
 cases o with
 | none=>simp[ol] at h1;omega
 | some l=>exact aCc st h0 h1
theorem MU (l:List kS) (h:(l.length:Int)<1000000):yF 100 34 48 (some (l.length,cO l))=some (none,.row 100 34 l.length (cO l)):=by
 unfold yF;simp only
 rw[if_pos ⟨iL rZ l,by omega,by simp only[maxLen];omega⟩]
theorem Vg (n:Nat) (l:List kS):jF (some (.row 100 34 n (cO l)))=some (.sl n (cO l)):=by
 unfold jF;simp only;rw[if_pos (nG l)]
theorem v9 {T n k off:Nat} {l:List kS} {i:Int} (h0:0≤i) (h1:i<l.length) (hk:tR Tryz.prog T=some k) (vI:0<k) (ho:off+k≤34):uH Tryz.prog T (some (.row 100 34 n (cO l))) (i.toNat * 34+off)=fG Tryz.prog T (jQ (gx tT l i)) off:=SG rZ h0 h1 hk vI ho
theorem ZF {T n k:Nat} {l:List kS} {i:Int} (h0:0≤i) (h1:i<l.length) (hk:tR Tryz.prog T=some k) (vI:0<k) (ho:k≤34):uH Tryz.prog T (some (.row 100 34 n (cO l))) (i.toNat * 34)=fG Tryz.prog T (jQ (gx tT l i)) 0:=by
 have h:=v9 (n:=n) (off:=0) h0 h1 hk vI (by omega)
 rw[Nat.add_zero] at h;exact h
theorem GS (l:List kS) (i:Int) (x:kS) (h:i.toNat<l.length):dM (cO l) (i.toNat * 34) (jQ x) (i.toNat * 34+34)=cO (l.set i.toNat x):=by
 generalize i.toNat=k at h ⊢
 have:=KV (c:=jQ) (sz:=34) rZ l k x h
 exact this
theorem YF (st:St) (o:Option (List sJ)):aQ st (ov dH o)=some ((ol o).length,dH (ol o)):=by cases o<;>rfl
theorem Ww (o:Option (List sJ)) (h:∀y∈ol o,Flat y.eW):Flat (ov dH o):=by
 cases o with
 | none=>exact .v _
 | some l=>exact .sl _ _ (tH l h)
theorem aCd (st:St) {l:List sJ} {kk:IntKind} {i:Int} (h0:0≤i) (h1:i<l.length):bD Tryz.prog st 44 (.sl l.length (dH l)) (.v (.int kk i))=some (.ip (hU (gx Jm l i)) 0):=by
 have hl:i.toNat<l.length:=by omega
 have h2:i.toNat * 67+67≤(l.flatMap hU).length:=by rw[iL iF,← Nat.succ_mul];exact Nat.mul_le_mul_right _ hl
 have h3:((dH l).drop (i.toNat * 67)).take 67=hU (gx Jm l i):=Kr iF h0 h1
 have h4:(dH l).length=(l.flatMap hU).length:=rfl
 (simp only[bD,aOD,aBK,h0,h1,h4,h2,and_self,if_true,h3])<;>rfl
theorem aJR (st:St) {o:Option (List sJ)} {kk:IntKind} {i:Int} (h0:0≤i) (h1:i<(ol o).length):bD Tryz.prog st 44 (ov dH o) (.v (.int kk i))=some (.ip (hU (gx Jm (ol o) i)) 0):=by
 cases o with
 | none=>simp[ol] at h1;omega
 | some l=>exact aCd st h0 h1
theorem HD (x:sJ):yF 87 67 104 (some (1,hU x))=some (none,.row 87 67 [x].length (dH [x])):=by
 simp[yF,maxLen,dH]
theorem ZL (l:List sJ) (h:(l.length:Int)<1000000):yF 87 67 104 (some (l.length,dH l))=some (none,.row 87 67 l.length (dH l)):=by
 unfold yF;simp only
 rw[if_pos ⟨iL iF l,by omega,by simp only[maxLen];omega⟩]
theorem Vj (l:List sJ) (x:sJ) (s g:Nat) (h:(l.length:Int)<1000000):xT 87 67 104 (some (.row 87 67 l.length (dH l))) s g (some (1,hU x))=some (some (s,g),.row 87 67 (l++[x]).length (dH (l++[x]))):=by
 simp only[xT];rw[if_pos ⟨by simp,trivial,trivial,by omega,by simp only[maxLen];omega⟩]
 simp[dH,List.flatMap_append]
theorem U2 (n:Nat) (l:List sJ) (h:∀y∈l,Flat y.eW):jF (some (.row 87 67 n (dH l)))=some (.sl n (dH l)):=by
 unfold jF;simp only;rw[if_pos (tH l h)]
theorem KX (st:St) (o:Option (List Table)):aQ st (ov aR o)=some ((ol o).length,aR (ol o)):=by cases o<;>rfl
theorem lW (o:Option (List Table)) (h:∀y∈ol o,Flat y.jP):Flat (ov aR o):=by
 cases o with
 | none=>exact .v _
 | some l=>exact .sl _ _ (lX l h)
theorem nH (st:St) (o:Option (List Table)) (h:∀y∈ol o,Flat y.jP):fU st (ov aR o)=some (ov aR o):=dY (lW o h)
theorem KY (o:Option (List Table)):(ov aR o).jR=true:=by cases o<;>rfl
theorem SK (o:Option (List Table)):(ov aR o).cells=[ov aR o]:=by cases o<;>rfl
theorem aCe (st:St) {l:List Table} {kk:IntKind} {i:Int} (h0:0≤i) (h1:i<l.length):bD Tryz.prog st 51 (.sl l.length (aR l)) (.v (.int kk i))=some (.ip (cI (gx iY l i)) 0):=by
 have hl:i.toNat<l.length:=by omega
 have h2:i.toNat * 34+34≤(l.flatMap cI).length:=by rw[iL fR,← Nat.succ_mul];exact Nat.mul_le_mul_right _ hl
 have h3:((aR l).drop (i.toNat * 34)).take 34=cI (gx iY l i):=Kr fR h0 h1
 have h4:(aR l).length=(l.flatMap cI).length:=rfl
 (simp only[bD,aOE,KS,h0,h1,h4,h2,and_self,if_true,h3])<;>rfl
theorem aJS (st:St) {o:Option (List Table)} {kk:IntKind} {i:Int} (h0:0≤i) (h1:i<(ol o).length):bD Tryz.prog st 51 (ov aR o) (.v (.int kk i))=some (.ip (cI (gx iY (ol o) i)) 0):=by
 cases o with
 | none=>simp[ol] at h1;omega
 | some l=>exact aCe st h0 h1
theorem FC (x:Table):yF 118 34 64 (some (1,cI x))=some (none,.row 118 34 [x].length (aR [x])):=by
 simp[yF,maxLen,aR]
theorem EP (l:List Table) (h:(l.length:Int)<1000000):yF 118 34 64 (some (l.length,aR l))=some (none,.row 118 34 l.length (aR l)):=by
 unfold yF;simp only
 rw[if_pos ⟨iL fR l,by omega,by simp only[maxLen];omega⟩]
theorem Qm (l:List Table) (x:Table) (s g:Nat) (h:(l.length:Int)<1000000):xT 118 34 64 (some (.row 118 34 l.length (aR l))) s g (some (1,cI x))=some (some (s,g),.row 118 34 (l++[x]).length (aR (l++[x]))):=by
 simp only[xT];rw[if_pos ⟨by simp,trivial,trivial,by omega,by simp only[maxLen];omega⟩]
 simp[aR,List.flatMap_append]
theorem ER (l m:List Table) (s g:Nat) (h:(l.length:Int)<1000000) (h2:(m.length:Int)<1000000):xT 118 34 64 (some (.row 118 34 l.length (aR l))) s g (some (m.length,aR m))=some (some (s,g),.row 118 34 (l++m).length (aR (l++m))):=by
 simp only[xT];rw[if_pos ⟨iL fR m,trivial,trivial,by omega,by simp only[maxLen];omega⟩]
 simp[aR,List.flatMap_append]
theorem Nq (n:Nat) (l:List Table) (h:∀y∈l,Flat y.jP):jF (some (.row 118 34 n (aR l)))=some (.sl n (aR l)):=by
 unfold jF;simp only;rw[if_pos (lX l h)]
theorem aPb (st:St) (o:Option (List Table)) (hi:Operand):cS Tryz.prog st 51 (ov aR o) none (some hi)=La (st.ev hi) (fun j=>if 0≤j∧j≤(ol o).length then some (ov aR (o.map (·.take j.toNat))) else cS Tryz.prog st 51 (ov aR o) none (some hi)) (cS Tryz.prog st 51 (ov aR o) none (some hi)):=by
 unfold La;split
 ·rename_i j hj;dsimp only
  split
  ·rename_i hc;obtain⟨j0,j1⟩:=hc
   cases o with
   | none =>
     have:j=0:=by simp[ol] at j1;omega
     subst this;simp[cS,KS,ov,hj]
   | some l =>
     have j1:j≤l.length:=j1
     have hn:j.toNat≤l.length:=by omega
     simp only[cS,KS,ov,hj];rw[if_pos ⟨Int.le_refl _,j0,j1,iL fR l⟩];simp only[Int.toNat_zero,Nat.zero_mul,List.drop_zero,Int.sub_zero,Option.map_some];rw[show (aR l).take (j.toNat * 34)=aR (l.take j.toNat) from yA fR l j.toNat,List.length_take,Nat.min_eq_left hn]
  ·rfl
 ·rfl
theorem aFp (st:St) (o:Option (List Table)) (lo:Operand):cS Tryz.prog st 51 (ov aR o) (some lo) none=La (st.ev lo) (fun j=>if 0≤j∧j≤(ol o).length then some (ov aR (o.map (·.drop j.toNat))) else cS Tryz.prog st 51 (ov aR o) (some lo) none) (cS Tryz.prog st 51 (ov aR o) (some lo) none):=by
 unfold La;split
 ·rename_i j hj;dsimp only
  split
  ·rename_i hc;obtain⟨j0,j1⟩:=hc
   cases o with
   | none =>
     have:j=0:=by simp[ol] at j1;omega
     subst this;simp[cS,KS,ov,hj]
   | some l =>
     have j1:j≤l.length:=j1
     have hn:j.toNat≤l.length:=by omega
     have e1:((l.length:Int)-j).toNat=l.length-j.toNat:=by omega
     simp only[cS,KS,ov,hj];rw[if_pos ⟨j0,j1,Int.le_refl _,iL fR l⟩];simp only[Option.map_some,e1];rw[show (aR l).drop (j.toNat * 34)=aR (l.drop j.toNat) from yB fR l j.toNat,List.length_drop,List.take_of_length_le];rw[show aR (l.drop j.toNat)=(l.drop j.toNat).flatMap cI from rfl,iL fR,List.length_drop];exact Nat.le_refl _
  ·rfl
 ·rfl
theorem KZ (st:St) (o:Option (List Block)):aQ st (ov aH o)=some ((ol o).length,aH (ol o)):=by cases o<;>rfl
theorem Ej (o:Option (List Block)):Flat (ov aH o):=by
 cases o with
 | none=>exact .v _
 | some l=>exact .sl _ _ (pE l)
theorem aCf (st:St) {l:List Block} {kk:IntKind} {i:Int} (h0:0≤i) (h1:i<l.length):bD Tryz.prog st 45 (.sl l.length (aH l)) (.v (.int kk i))=some (.ip (aT (gx fP l i)) 0):=by
 have hl:i.toNat<l.length:=by omega
 have h2:i.toNat * 238+238≤(l.flatMap aT).length:=by rw[iL bO,← Nat.succ_mul];exact Nat.mul_le_mul_right _ hl
 have h3:((aH l).drop (i.toNat * 238)).take 238=aT (gx fP l i):=Kr bO h0 h1
 have h4:(aH l).length=(l.flatMap aT).length:=rfl
 (simp only[bD,aJE,oR,h0,h1,h4,h2,and_self,if_true,h3])<;>rfl
theorem aJT (st:St) {o:Option (List Block)} {kk:IntKind} {i:Int} (h0:0≤i) (h1:i<(ol o).length):bD Tryz.prog st 45 (ov aH o) (.v (.int kk i))=some (.ip (aT (gx fP (ol o) i)) 0):=by
 cases o with
 | none=>simp[ol] at h1;omega
 | some l=>exact aCf st h0 h1
theorem M8 (x:Block):yF 74 238 336 (some (1,aT x))=some (none,.row 74 238 [x].length (aH [x])):=by
 simp[yF,maxLen,aH]
theorem iT (l:List Block) (h:(l.length:Int)<1000000):yF 74 238 336 (some (l.length,aH l))=some (none,.row 74 238 l.length (aH l)):=by
 unfold yF;simp only
 rw[if_pos ⟨iL bO l,by omega,by simp only[maxLen];omega⟩]
theorem FB (l:List Block) (x:Block) (s g:Nat) (h:(l.length:Int)<1000000):xT 74 238 336 (some (.row 74 238 l.length (aH l))) s g (some (1,aT x))=some (some (s,g),.row 74 238 (l++[x]).length (aH (l++[x]))):=by
 simp only[xT];rw[if_pos ⟨by simp,trivial,trivial,by omega,by simp only[maxLen];omega⟩]
 simp[aH,List.flatMap_append]
theorem rX (l m:List Block) (s g:Nat) (h:(l.length:Int)<1000000) (h2:(m.length:Int)<1000000):xT 74 238 336 (some (.row 74 238 l.length (aH l))) s g (some (m.length,aH m))=some (some (s,g),.row 74 238 (l++m).length (aH (l++m))):=by
 simp only[xT];rw[if_pos ⟨iL bO m,trivial,trivial,by omega,by simp only[maxLen];omega⟩]
 simp[aH,List.flatMap_append]
theorem uI (n:Nat) (l:List Block):jF (some (.row 74 238 n (aH l)))=some (.sl n (aH l)):=by
 unfold jF;simp only;rw[if_pos (pE l)]
theorem SL {T n k off:Nat} {l:List Block} {i:Int} (h0:0≤i) (h1:i<l.length) (hk:tR Tryz.prog T=some k) (vI:0<k) (ho:off+k≤238):uH Tryz.prog T (some (.row 74 238 n (aH l))) (i.toNat * 238+off)=fG Tryz.prog T (aT (gx fP l i)) off:=SG bO h0 h1 hk vI ho
theorem zS {T n k:Nat} {l:List Block} {i:Int} (h0:0≤i) (h1:i<l.length) (hk:tR Tryz.prog T=some k) (vI:0<k) (ho:k≤238):uH Tryz.prog T (some (.row 74 238 n (aH l))) (i.toNat * 238)=fG Tryz.prog T (aT (gx fP l i)) 0:=by
 have h:=SL (n:=n) (off:=0) h0 h1 hk vI (by omega)
 rw[Nat.add_zero] at h;exact h
theorem aPc (st:St) (o:Option (List Block)) (hi:Operand):cS Tryz.prog st 45 (ov aH o) none (some hi)=La (st.ev hi) (fun j=>if 0≤j∧j≤(ol o).length then some (ov aH (o.map (·.take j.toNat))) else cS Tryz.prog st 45 (ov aH o) none (some hi)) (cS Tryz.prog st 45 (ov aH o) none (some hi)):=by
 unfold La;split
 ·rename_i j hj;dsimp only
  split
  ·rename_i hc;obtain⟨j0,j1⟩:=hc
   cases o with
   | none =>
     have:j=0:=by simp[ol] at j1;omega
     subst this;simp[cS,oR,ov,hj]
   | some l =>
     have j1:j≤l.length:=j1
     have hn:j.toNat≤l.length:=by omega
     simp only[cS,oR,ov,hj];rw[if_pos ⟨Int.le_refl _,j0,j1,iL bO l⟩];simp only[Int.toNat_zero,Nat.zero_mul,List.drop_zero,Int.sub_zero,Option.map_some];rw[show (aH l).take (j.toNat * 238)=aH (l.take j.toNat) from yA bO l j.toNat,List.length_take,Nat.min_eq_left hn]
  ·rfl
 ·rfl
theorem aFq (st:St) (o:Option (List Block)) (lo:Operand):cS Tryz.prog st 45 (ov aH o) (some lo) none=La (st.ev lo) (fun j=>if 0≤j∧j≤(ol o).length then some (ov aH (o.map (·.drop j.toNat))) else cS Tryz.prog st 45 (ov aH o) (some lo) none) (cS Tryz.prog st 45 (ov aH o) (some lo) none):=by
 unfold La;split
 ·rename_i j hj;dsimp only
  split
  ·rename_i hc;obtain⟨j0,j1⟩:=hc
   cases o with
   | none =>
     have:j=0:=by simp[ol] at j1;omega
     subst this;simp[cS,oR,ov,hj]
   | some l =>
     have j1:j≤l.length:=j1
     have hn:j.toNat≤l.length:=by omega
     have e1:((l.length:Int)-j).toNat=l.length-j.toNat:=by omega
     simp only[cS,oR,ov,hj];rw[if_pos ⟨j0,j1,Int.le_refl _,iL bO l⟩];simp only[Option.map_some,e1];rw[show (aH l).drop (j.toNat * 238)=aH (l.drop j.toNat) from yB bO l j.toNat,List.length_drop,List.take_of_length_le];rw[show aH (l.drop j.toNat)=(l.drop j.toNat).flatMap aT from rfl,iL bO,List.length_drop];exact Nat.le_refl _
  ·rfl
 ·rfl
theorem BB (st:St) (o:Option (List Request)):aQ st (ov aA o)=some ((ol o).length,aA (ol o)):=by cases o<;>rfl
theorem dI (o:Option (List Request)):Flat (ov aA o):=by
 cases o with
 | none=>exact .v _
 | some l=>exact .sl _ _ (iX l)
theorem aCg (st:St) {l:List Request} {kk:IntKind} {i:Int} (h0:0≤i) (h1:i<l.length):bD Tryz.prog st 54 (.sl l.length (aA l)) (.v (.int kk i))=some (.ip (bU (gx bK l i)) 0):=by
 have hl:i.toNat<l.length:=by omega
 have h2:i.toNat * 35+35≤(l.flatMap bU).length:=by rw[iL fY,← Nat.succ_mul];exact Nat.mul_le_mul_right _ hl
 have h3:((aA l).drop (i.toNat * 35)).take 35=bU (gx bK l i):=Kr fY h0 h1
 have h4:(aA l).length=(l.flatMap bU).length:=rfl
 (simp only[bD,aDu,yE,h0,h1,h4,h2,and_self,if_true,h3])<;>rfl
theorem aJU (st:St) {o:Option (List Request)} {kk:IntKind} {i:Int} (h0:0≤i) (h1:i<(ol o).length):bD Tryz.prog st 54 (ov aA o) (.v (.int kk i))=some (.ip (bU (gx bK (ol o) i)) 0):=by
 cases o with
 | none=>simp[ol] at h1;omega
 | some l=>exact aCg st h0 h1
theorem SM (x:Request):yF 63 35 56 (some (1,bU x))=some (none,.row 63 35 [x].length (aA [x])):=by
 simp[yF,maxLen,aA]
theorem rH (l:List Request) (h:(l.length:Int)<1000000):yF 63 35 56 (some (l.length,aA l))=some (none,.row 63 35 l.length (aA l)):=by
 unfold yF;simp only
 rw[if_pos ⟨iL fY l,by omega,by simp only[maxLen];omega⟩]
theorem oW (l:List Request) (x:Request) (s g:Nat) (h:(l.length:Int)<1000000):xT 63 35 56 (some (.row 63 35 l.length (aA l))) s g (some (1,bU x))=some (some (s,g),.row 63 35 (l++[x]).length (aA (l++[x]))):=by
 simp only[xT];rw[if_pos ⟨by simp,trivial,trivial,by omega,by simp only[maxLen];omega⟩]
 simp[aA,List.flatMap_append]
theorem Tb (l m:List Request) (s g:Nat) (h:(l.length:Int)<1000000) (h2:(m.length:Int)<1000000):xT 63 35 56 (some (.row 63 35 l.length (aA l))) s g (some (m.length,aA m))=some (some (s,g),.row 63 35 (l++m).length (aA (l++m))):=by
 simp only[xT];rw[if_pos ⟨iL fY m,trivial,trivial,by omega,by simp only[maxLen];omega⟩]
 simp[aA,List.flatMap_append]
theorem pI (n:Nat) (l:List Request):jF (some (.row 63 35 n (aA l)))=some (.sl n (aA l)):=by
 unfold jF;simp only;rw[if_pos (iX l)]
theorem zT {T n k off:Nat} {l:List Request} {i:Int} (h0:0≤i) (h1:i<l.length) (hk:tR Tryz.prog T=some k) (vI:0<k) (ho:off+k≤35):uH Tryz.prog T (some (.row 63 35 n (aA l))) (i.toNat * 35+off)=fG Tryz.prog T (bU (gx bK l i)) off:=SG fY h0 h1 hk vI ho
theorem vW {T n k:Nat} {l:List Request} {i:Int} (h0:0≤i) (h1:i<l.length) (hk:tR Tryz.prog T=some k) (vI:0<k) (ho:k≤35):uH Tryz.prog T (some (.row 63 35 n (aA l))) (i.toNat * 35)=fG Tryz.prog T (bU (gx bK l i)) 0:=by
 have h:=zT (n:=n) (off:=0) h0 h1 hk vI (by omega)
 rw[Nat.add_zero] at h;exact h
theorem Ln (l:List Request) (i:Int) (x:Request) (h:i.toNat<l.length):dM (aA l) (i.toNat * 35) (bU x) (i.toNat * 35+35)=aA (l.set i.toNat x):=by
 generalize i.toNat=k at h ⊢
 have:=KV (c:=bU) (sz:=35) fY l k x h
 exact this
theorem aPd (st:St) (o:Option (List Request)) (hi:Operand):cS Tryz.prog st 54 (ov aA o) none (some hi)=La (st.ev hi) (fun j=>if 0≤j∧j≤(ol o).length then some (ov aA (o.map (·.take j.toNat))) else cS Tryz.prog st 54 (ov aA o) none (some hi)) (cS Tryz.prog st 54 (ov aA o) none (some hi)):=by
 unfold La;split
 ·rename_i j hj;dsimp only
  split
  ·rename_i hc;obtain⟨j0,j1⟩:=hc
   cases o with
   | none =>
     have:j=0:=by simp[ol] at j1;omega
     subst this;simp[cS,yE,ov,hj]
   | some l =>
     have j1:j≤l.length:=j1
     have hn:j.toNat≤l.length:=by omega
     simp only[cS,yE,ov,hj];rw[if_pos ⟨Int.le_refl _,j0,j1,iL fY l⟩];simp only[Int.toNat_zero,Nat.zero_mul,List.drop_zero,Int.sub_zero,Option.map_some];rw[show (aA l).take (j.toNat * 35)=aA (l.take j.toNat) from yA fY l j.toNat,List.length_take,Nat.min_eq_left hn]
  ·rfl
 ·rfl
theorem aFr (st:St) (o:Option (List Request)) (lo:Operand):cS Tryz.prog st 54 (ov aA o) (some lo) none=La (st.ev lo) (fun j=>if 0≤j∧j≤(ol o).length then some (ov aA (o.map (·.drop j.toNat))) else cS Tryz.prog st 54 (ov aA o) (some lo) none) (cS Tryz.prog st 54 (ov aA o) (some lo) none):=by
 unfold La;split
 ·rename_i j hj;dsimp only
  split
  ·rename_i hc;obtain⟨j0,j1⟩:=hc
   cases o with
   | none =>
     have:j=0:=by simp[ol] at j1;omega
     subst this;simp[cS,yE,ov,hj]
   | some l =>
     have j1:j≤l.length:=j1
     have hn:j.toNat≤l.length:=by omega
     have e1:((l.length:Int)-j).toNat=l.length-j.toNat:=by omega
     simp only[cS,yE,ov,hj];rw[if_pos ⟨j0,j1,Int.le_refl _,iL fY l⟩];simp only[Option.map_some,e1];rw[show (aA l).drop (j.toNat * 35)=aA (l.drop j.toNat) from yB fY l j.toNat,List.length_drop,List.take_of_length_le];rw[show aA (l.drop j.toNat)=(l.drop j.toNat).flatMap bU from rfl,iL fY,List.length_drop];exact Nat.le_refl _
  ·rfl
 ·rfl
theorem SN (st:St) (o:Option (List cK)):aQ st (ov gV o)=some ((ol o).length,gV (ol o)):=by cases o<;>rfl
theorem Hg (o:Option (List cK)):Flat (ov gV o):=by
 cases o with
 | none=>exact .v _
 | some l=>exact .sl _ _ (Tq l)
theorem aCh (st:St) {l:List cK} {kk:IntKind} {i:Int} (h0:0≤i) (h1:i<l.length):bD Tryz.prog st 70 (.sl l.length (gV l)) (.v (.int kk i))=some (.ip (aX (gx dO l i)) 0):=by
 have hl:i.toNat<l.length:=by omega
 have h2:i.toNat * 32+32≤(l.flatMap aX).length:=by rw[iL aL,← Nat.succ_mul];exact Nat.mul_le_mul_right _ hl
 have h3:((gV l).drop (i.toNat * 32)).take 32=aX (gx dO l i):=Kr aL h0 h1
 have h4:(gV l).length=(l.flatMap aX).length:=rfl
 (simp only[bD,aOF,aEW,h0,h1,h4,h2,and_self,if_true,h3])<;>rfl
theorem aJV (st:St) {o:Option (List cK)} {kk:IntKind} {i:Int} (h0:0≤i) (h1:i<(ol o).length):bD Tryz.prog st 70 (ov gV o) (.v (.int kk i))=some (.ip (aX (gx dO (ol o) i)) 0):=by
 cases o with
 | none=>simp[ol] at h1;omega
 | some l=>exact aCh st h0 h1
theorem oK (l:List cK) (x:cK) (s g:Nat) (h:(l.length:Int)<1000000):xT 27 32 32 (some (.row 27 32 l.length (gV l))) s g (some (1,aX x))=some (some (s,g),.row 27 32 (l++[x]).length (gV (l++[x]))):=by
 simp only[xT];rw[if_pos ⟨by simp,trivial,trivial,by omega,by simp only[maxLen];omega⟩]
 simp[gV,List.flatMap_append]
theorem wK (n:Nat) (l:List cK):jF (some (.row 27 32 n (gV l)))=some (.sl n (gV l)):=by
 unfold jF;simp only;rw[if_pos (Tq l)]
theorem aFs (st:St) {l:List Bool} {kk:IntKind} {i:Int} (h0:0≤i) (h1:i<l.length):bD Tryz.prog st 262 (.sl l.length (mX l)) (.v (.int kk i))=some (.ip ([.v (.bool (gx false l i))]) 0):=by
 have hl:i.toNat<l.length:=by omega
 have h2:i.toNat * 1+1≤(l.flatMap vC).length:=by rw[iL gR,← Nat.succ_mul];exact Nat.mul_le_mul_right _ hl
 have h3:((mX l).drop (i.toNat * 1)).take 1=vC (gx false l i):=Kr gR h0 h1
 have h4:(mX l).length=(l.flatMap vC).length:=rfl
 (simp only[bD,aGB,RX,h0,h1,h4,h2,and_self,if_true,h3])<;>rfl
theorem aCi (x:Bool):yF 4 1 1 (some (1,[.v (.bool x)]))=some (none,.row 4 1 [x].length (mX [x])):=by
 simp[yF,maxLen,mX,vC]
theorem MX (l:List Bool) (x:Bool) (s g:Nat) (h:(l.length:Int)<1000000):xT 4 1 1 (some (.row 4 1 l.length (mX l))) s g (some (1,[.v (.bool x)]))=some (some (s,g),.row 4 1 (l++[x]).length (mX (l++[x]))):=by
 simp only[xT];rw[if_pos ⟨by simp,trivial,trivial,by omega,by simp only[maxLen];omega⟩]
 simp[mX,List.flatMap_append,vC]
theorem ZM (n:Nat) (l:List Bool):jF (some (.row 4 1 n (mX l)))=some (.sl n (mX l)):=by
 unfold jF;simp only;rw[if_pos (Sx l)]
theorem yR (o:Option (List Int)):Flat (ov kI o):=by
 cases o with
 | none=>exact .v _
 | some l=>exact .sl _ _ (vS l)
theorem rV (st:St) (o:Option (List Int)):fU st (ov kI o)=some (ov kI o):=dY (yR o)
theorem UQ (x:Int):yF 5 1 1 (some (1,[.v (.int .u8 x)]))=some (none,.row 5 1 [x].length (kI [x])):=by
 simp[yF,maxLen,kI,cU8]
theorem Lj (l:List Int) (x:Int) (s g:Nat) (h:(l.length:Int)<1000000):xT 5 1 1 (some (.row 5 1 l.length (kI l))) s g (some (1,[.v (.int .u8 x)]))=some (some (s,g),.row 5 1 (l++[x]).length (kI (l++[x]))):=by
 simp only[xT];rw[if_pos ⟨by simp,trivial,trivial,by omega,by simp only[maxLen];omega⟩]
 simp[kI,List.flatMap_append,cU8]
theorem UR (l m:List Int) (s g:Nat) (h:(l.length:Int)<1000000) (h2:(m.length:Int)<1000000):xT 5 1 1 (some (.row 5 1 l.length (kI l))) s g (some (m.length,kI m))=some (some (s,g),.row 5 1 (l++m).length (kI (l++m))):=by
 simp only[xT];rw[if_pos ⟨iL aFo m,trivial,trivial,by omega,by simp only[maxLen];omega⟩]
 simp[kI,List.flatMap_append]
theorem Cy (n:Nat) (l:List Int):jF (some (.row 5 1 n (kI l)))=some (.sl n (kI l)):=by
 unfold jF;simp only;rw[if_pos (vS l)]
theorem YG (st:St) (o:Option (List Int)):aQ st (ov aJ o)=some ((ol o).length,aJ (ol o)):=by cases o<;>rfl
theorem bQ (o:Option (List Int)):Flat (ov aJ o):=by
 cases o with
 | none=>exact .v _
 | some l=>exact .sl _ _ (gD l)
theorem Et (st:St) (o:Option (List Int)):fU st (ov aJ o)=some (ov aJ o):=dY (bQ o)
theorem YH (o:Option (List Int)):(ov aJ o).jR=true:=by cases o<;>rfl
theorem M9 (o:Option (List Int)):(ov aJ o).cells=[ov aJ o]:=by cases o<;>rfl
theorem aCj (st:St) {l:List Int} {kk:IntKind} {i:Int} (h0:0≤i) (h1:i<l.length):bD Tryz.prog st 22 (.sl l.length (aJ l)) (.v (.int kk i))=some (.ip ([.v (.int .i64 (gx (0:Int) l i))]) 0):=by
 have hl:i.toNat<l.length:=by omega
 have h2:i.toNat * 1+1≤(l.flatMap qA).length:=by rw[iL bE,← Nat.succ_mul];exact Nat.mul_le_mul_right _ hl
 have h3:((aJ l).drop (i.toNat * 1)).take 1=qA (gx (0:Int) l i):=Kr bE h0 h1
 have h4:(aJ l).length=(l.flatMap qA).length:=rfl
 (simp only[bD,aEV,Kz,h0,h1,h4,h2,and_self,if_true,h3])<;>rfl
theorem aJW (st:St) {o:Option (List Int)} {kk:IntKind} {i:Int} (h0:0≤i) (h1:i<(ol o).length):bD Tryz.prog st 22 (ov aJ o) (.v (.int kk i))=some (.ip ([.v (.int .i64 (gx (0:Int) (ol o) i))]) 0):=by
 cases o with
 | none=>simp[ol] at h1;omega
 | some l=>exact aCj st h0 h1
theorem Nu (l:List Int) (h:(l.length:Int)<1000000):yF 3 1 8 (some (l.length,aJ l))=some (none,.row 3 1 l.length (aJ l)):=by
 unfold yF;simp only
 rw[if_pos ⟨iL bE l,by omega,by simp only[maxLen];omega⟩]
theorem Er (l:List Int) (x:Int) (s g:Nat) (h:(l.length:Int)<1000000):xT 3 1 8 (some (.row 3 1 l.length (aJ l))) s g (some (1,[.v (.int .i64 x)]))=some (some (s,g),.row 3 1 (l++[x]).length (aJ (l++[x]))):=by
 simp only[xT];rw[if_pos ⟨by simp,trivial,trivial,by omega,by simp only[maxLen];omega⟩]
 simp[aJ,List.flatMap_append,qA]
theorem GV (l m:List Int) (s g:Nat) (h:(l.length:Int)<1000000) (h2:(m.length:Int)<1000000):xT 3 1 8 (some (.row 3 1 l.length (aJ l))) s g (some (m.length,aJ m))=some (some (s,g),.row 3 1 (l++m).length (aJ (l++m))):=by
 simp only[xT];rw[if_pos ⟨iL bE m,trivial,trivial,by omega,by simp only[maxLen];omega⟩]
 simp[aJ,List.flatMap_append]
theorem jZ (n:Nat) (l:List Int):jF (some (.row 3 1 n (aJ l)))=some (.sl n (aJ l)):=by
 unfold jF;simp only;rw[if_pos (gD l)]
theorem aPe (st:St) (o:Option (List Int)) (hi:Operand):cS Tryz.prog st 22 (ov aJ o) none (some hi)=La (st.ev hi) (fun j=>if 0≤j∧j≤(ol o).length then some (ov aJ (o.map (·.take j.toNat))) else cS Tryz.prog st 22 (ov aJ o) none (some hi)) (cS Tryz.prog st 22 (ov aJ o) none (some hi)):=by
 unfold La;split
 ·rename_i j hj;dsimp only
  split
  ·rename_i hc;obtain⟨j0,j1⟩:=hc
   cases o with
   | none =>
     have:j=0:=by simp[ol] at j1;omega
     subst this;simp[cS,Kz,ov,hj]
   | some l =>
     have j1:j≤l.length:=j1
     have hn:j.toNat≤l.length:=by omega
     simp only[cS,Kz,ov,hj];rw[if_pos ⟨Int.le_refl _,j0,j1,iL bE l⟩];simp only[Int.toNat_zero,Nat.zero_mul,List.drop_zero,Int.sub_zero,Option.map_some];rw[show (aJ l).take (j.toNat * 1)=aJ (l.take j.toNat) from yA bE l j.toNat,List.length_take,Nat.min_eq_left hn]
  ·rfl
 ·rfl
theorem aFt (st:St) (o:Option (List Int)) (lo:Operand):cS Tryz.prog st 22 (ov aJ o) (some lo) none=La (st.ev lo) (fun j=>if 0≤j∧j≤(ol o).length then some (ov aJ (o.map (·.drop j.toNat))) else cS Tryz.prog st 22 (ov aJ o) (some lo) none) (cS Tryz.prog st 22 (ov aJ o) (some lo) none):=by
 unfold La;split
 ·rename_i j hj;dsimp only
  split
  ·rename_i hc;obtain⟨j0,j1⟩:=hc
   cases o with
   | none =>
     have:j=0:=by simp[ol] at j1;omega
     subst this;simp[cS,Kz,ov,hj]
   | some l =>
     have j1:j≤l.length:=j1
     have hn:j.toNat≤l.length:=by omega
     have e1:((l.length:Int)-j).toNat=l.length-j.toNat:=by omega
     simp only[cS,Kz,ov,hj];rw[if_pos ⟨j0,j1,Int.le_refl _,iL bE l⟩];simp only[Option.map_some,e1];rw[show (aJ l).drop (j.toNat * 1)=aJ (l.drop j.toNat) from yB bE l j.toNat,List.length_drop,List.take_of_length_le];rw[show aJ (l.drop j.toNat)=(l.drop j.toNat).flatMap qA from rfl,iL bE,List.length_drop];exact Nat.le_refl _
  ·rfl
 ·rfl
theorem YI (st:St) (o:Option (List Int)):aQ st (ov bF o)=some ((ol o).length,bF (ol o)):=by cases o<;>rfl
theorem dU (o:Option (List Int)):Flat (ov bF o):=by
 cases o with
 | none=>exact .v _
 | some l=>exact .sl _ _ (iC l)
theorem YJ (o:Option (List Int)):(ov bF o).jR=true:=by cases o<;>rfl
theorem N0 (o:Option (List Int)):(ov bF o).cells=[ov bF o]:=by cases o<;>rfl
theorem aCk (st:St) {l:List Int} {kk:IntKind} {i:Int} (h0:0≤i) (h1:i<l.length):bD Tryz.prog st 34 (.sl l.length (bF l)) (.v (.int kk i))=some (.ip ([.v (.int .u64 (gx (0:Int) l i))]) 0):=by
 have hl:i.toNat<l.length:=by omega
 have h2:i.toNat * 1+1≤(l.flatMap sQ).length:=by rw[iL aV,← Nat.succ_mul];exact Nat.mul_le_mul_right _ hl
 have h3:((bF l).drop (i.toNat * 1)).take 1=sQ (gx (0:Int) l i):=Kr aV h0 h1
 have h4:(bF l).length=(l.flatMap sQ).length:=rfl
 (simp only[bD,aJC,XZ,h0,h1,h4,h2,and_self,if_true,h3])<;>rfl
theorem aJX (st:St) {o:Option (List Int)} {kk:IntKind} {i:Int} (h0:0≤i) (h1:i<(ol o).length):bD Tryz.prog st 34 (ov bF o) (.v (.int kk i))=some (.ip ([.v (.int .u64 (gx (0:Int) (ol o) i))]) 0):=by
 cases o with
 | none=>simp[ol] at h1;omega
 | some l=>exact aCk st h0 h1
theorem aFu (x:Int):yF 23 1 8 (some (1,[.v (.int .u64 x)]))=some (none,.row 23 1 [x].length (bF [x])):=by
 simp[yF,maxLen,bF,sQ]
theorem Eo (l:List Int) (h:(l.length:Int)<1000000):yF 23 1 8 (some (l.length,bF l))=some (none,.row 23 1 l.length (bF l)):=by
 unfold yF;simp only
 rw[if_pos ⟨iL aV l,by omega,by simp only[maxLen];omega⟩]
theorem yC (l:List Int) (x:Int) (s g:Nat) (h:(l.length:Int)<1000000):xT 23 1 8 (some (.row 23 1 l.length (bF l))) s g (some (1,[.v (.int .u64 x)]))=some (some (s,g),.row 23 1 (l++[x]).length (bF (l++[x]))):=by
 simp only[xT];rw[if_pos ⟨by simp,trivial,trivial,by omega,by simp only[maxLen];omega⟩]
 simp[bF,List.flatMap_append,sQ]
theorem vQ (n:Nat) (l:List Int):jF (some (.row 23 1 n (bF l)))=some (.sl n (bF l)):=by
 unfold jF;simp only;rw[if_pos (iC l)]
theorem aCl {T n k off:Nat} {l:List Int} {i:Int} (h0:0≤i) (h1:i<l.length) (hk:tR Tryz.prog T=some k) (vI:0<k) (ho:off+k≤1):uH Tryz.prog T (some (.row 23 1 n (bF l))) (i.toNat * 1+off)=fG Tryz.prog T ([.v (.int .u64 (gx (0:Int) l i))]) off:=SG aV h0 h1 hk vI ho
theorem R3 {T n k:Nat} {l:List Int} {i:Int} (h0:0≤i) (h1:i<l.length) (hk:tR Tryz.prog T=some k) (vI:0<k) (ho:k≤1):uH Tryz.prog T (some (.row 23 1 n (bF l))) (i.toNat * 1)=fG Tryz.prog T ([.v (.int .u64 (gx (0:Int) l i))]) 0:=by
 have h:=aCl (n:=n) (off:=0) h0 h1 hk vI (by omega)
 rw[Nat.add_zero] at h;exact h
theorem R2 (l:List Int) (i:Int) (x:Int) (h:i.toNat<l.length):dM (bF l) (i.toNat * 1) ([.v (.int .u64 x)]) (i.toNat * 1+1)=bF (l.set i.toNat x):=by
 generalize i.toNat=k at h ⊢
 have:=KV (c:=sQ) (sz:=1) aV l k x h
 exact this
end Tryz
end Go.Ab
end
section
namespace Go.Ab.Tryz
open Classical Go.Proofs Go.Ab
theorem aj {a b:Prop} (x:a) (y:b):a∧b:=⟨x,y⟩
def EN:=aj (aj (aj (aj (aj (aj (aj @cW (aj @MZ @mZ)) (aj @aAX (aj @H6 @WL))) (aj (aj @I9 (aj @decide_true @decide_false)) (aj (aj @Int.cast_ofNat_Int @Bool.not_true) (aj @Bool.not_false @Bool.false_eq_true)))) (aj (aj (aj @Bool.true_eq_false (aj @aD9 @aEa)) (aj @aEb (aj @aEc @aEd))) (aj (aj @aEe (aj @aEf @aEg)) (aj (aj @aEh @aEi) (aj @aEl @aEm))))) (aj (aj (aj (aj @aEj (aj @aEk @not_false_eq_true)) (aj @ne_eq.{1} (aj @aBj @I8))) (aj (aj @WX (aj @WY @Option.bind_some.{0,0})) (aj (aj @aDZ @H7) (aj @aD0 @aAY)))) (aj (aj (aj @aD1 (aj @WM @IY)) (aj @IZ (aj @aD2 @WO))) (aj (aj @aA0 (aj @aA1 @aA2)) (aj (aj @aH8 @aA3) (aj @aBM @Bool.or_false)))))) (aj (aj (aj (aj (aj @Bool.false_or (aj @Bool.false_and @Bool.or_true)) (aj @aD4 (aj @aEZ @H8))) (aj (aj @H9 (aj @WR @JA)) (aj (aj @PO @vR) (aj @SE @L7)))) (aj (aj (aj @L9 (aj @aE4 @aBX)) (aj @pG (aj @K7 @K8))) (aj (aj @YB (aj @RZ @Option.map_some.{0,0})) (aj (aj @Ql @Ix) (aj @Qs @Lk))))) (aj (aj (aj (aj @aBP (aj @aBQ @aE0)) (aj @iD (aj @bT @aB0))) (aj (aj @aB1 (aj @DR @M3)) (aj (aj @aE3 @K9) (aj @L1 @aEp)))) (aj (aj (aj @aBl (aj @aEq @aEn)) (aj (aj @L3 @L4) (aj @L5 @L6))) (aj (aj @aBW (aj @M0 @aE5)) (aj (aj @aE1 @aE2) (aj @aBR @aBS))))))) (aj (aj (aj (aj (aj (aj @aBT (aj @aBU @aBV)) (aj @I2 (aj @JD @aEX))) (aj (aj @aBL (aj @aO7 @aFB)) (aj (aj @aA8 @aIa) (aj @aD5 @JC)))) (aj (aj (aj @aD6 (aj @aA9 @aD7)) (aj @aD8 (aj @aBa
 @aBb))) (aj (aj @Yg (aj @Rb @aBc)) (aj (aj @aBd @I0) (aj @aBe @PQ))))) (aj (aj (aj (aj @I1 (aj @List.toList_toArray.{0} @List.map_cons.{0,0})) (aj @List.map_nil.{0,0} (aj @aDY @WK))) (aj (aj @H5 (aj @aAT @aAU)) (aj (aj @aDX @JE) (aj @J0 @WZ)))) (aj (aj (aj @List.getElem?_cons_zero.{0} (aj @List.getElem?_cons_succ.{0} @List.getElem?_nil.{0})) (aj @Option.getD_some.{0} (aj @Option.getD_none.{0} @and_true))) (aj (aj @true_and (aj @and_self @false_and)) (aj (aj @and_false @if_true.{1}) (aj @if_false.{1} @Nat.succ_ne_zero)))))) (aj (aj (aj (aj (aj @KT (aj @KU @Nat.add_zero)) (aj @Nat.zero_add (aj @YC @aAZ))) (aj (aj @aIj (aj @aIk @aBs)) (aj (aj @aBt @K6) (aj @XG @aBN)))) (aj (aj (aj @aE8 (aj @aE9 @aFa)) (aj @YD (aj @M4 @aFb))) (aj (aj @aJK (aj @SF @M5)) (aj (aj @aFc @aB3) (aj @aJL @aB4))))) (aj (aj (aj (aj @aFd (aj @aFe @aFf)) (aj @aB5 (aj @aB6 @aFg))) (aj (aj @aB7 (aj @aPa @aFh)) (aj (aj @aJM @aJN) (aj @aJO @aFi)))) (aj (aj (aj @aFj (aj @aJP @aFk)) (aj (aj @aFl @aB8) (aj @M6 @YE))) (aj (aj @aFm (aj @aB9 @aFn)) (aj (aj @gei @gti) (aj @aWf @gtn)))))))
def EV:=aj EN @I7
def LE:=aj (aj (aj (aj (aj (aj @aJI @aJJ) (aj @aBY (aj @aBZ @Lf))) (aj (aj @Jd @Qy) (aj @aJG (aj @aJH @aEY)))) (aj (aj (aj @aV @bE) (aj @gR (aj @aL @dS))) (aj (aj @bS @cN) (aj @bO (aj @vK @Rw))))) (aj (aj (aj (aj @Nat.sub_zero @Nat.le_refl) (aj @MP (aj @EO @Option.map_some.{0,0}))) (aj (aj @List.all_cons.{0} @List.all_nil.{0}) (aj @Bool.and_true (aj @Bool.true_and @Bool.and_self)))) (aj (aj (aj @I4 @List.length_cons.{0}) (aj @List.length_nil.{0} (aj @jN @jO))) (aj (aj @Pd (aj @Bb @Rs)) (aj @JJ (aj @Nat.zero_le @Nat.mul_one)))))) (aj (aj (aj (aj (aj @Xa @Bf) (aj @gS (aj @mE @fZ))) (aj (aj @bM @rZ) (aj @iF (aj @iP @fM)))) (aj (aj (aj @fR @fY) (aj @mF (aj @dE @cX))) (aj (aj @iG (aj @mP @cT)) (aj @Mj (aj @AU @XY))))) (aj (aj (aj (aj @jU @Ji) (aj @Mc (aj @Sc @Se))) (aj (aj @u9 @XO) (aj @Zy (aj @Ie @AA)))) (aj (aj (aj @AD @Mi) (aj @AL (aj @Ii @FZ))) (aj (aj @RS (aj @AQ @RT)) (aj @aBJ (aj @Vo @aEA))))))
def RD:=aj (aj (aj (aj (aj (aj (aj (aj @PU @PV) (aj @PW @PX)) (aj (aj @kD @Cf) (aj @uP (aj @Ff @PY)))) (aj (aj (aj @PZ @Ow) (aj @Ox (aj @xV @zY))) (aj (aj @Oy @Oz) (aj @xW (aj @CO @CP))))) (aj (aj (aj (aj @Fs @Uj) (aj @zZ @Ly)) (aj (aj @sF @Cg) (aj @Aa (aj @Lz @sG)))) (aj (aj (aj @Hy @CQ) (aj @Kh (aj @CR @Uk))) (aj (aj @Ul @Dj) (aj @Rt (aj @CS @CT)))))) (aj (aj (aj (aj (aj @Zp @Zq) (aj @Ki @CU)) (aj (aj @Hz @Pb) (aj @JG (aj @Jo @Pc)))) (aj (aj (aj @Ru @Um) (aj @JH (aj @JI @CV))) (aj (aj @CW @Ia) (aj @Dk (aj @wD @Dl))))) (aj (aj (aj (aj @wE @Jp) (aj @Ma @Gd)) (aj (aj @Mb @Pe) (aj @QB (aj @XB @Fm)))) (aj (aj (aj @Gv @QC) (aj @QD (aj @Zt @QE))) (aj (aj @QF @Ac) (aj @Kj (aj @Pj @Fh))))))) (aj (aj (aj (aj (aj (aj @Ge @Ry) (aj @Un @Pk)) (aj (aj @Pl @Zv) (aj @Zw (aj @Dm @Uo)))) (aj (aj (aj @Dn @Up) (aj
 @Bn (aj @Rz @Bo))) (aj (aj @Sa @Bp) (aj @Sb (aj @Ad @Pm))))) (aj (aj (aj (aj @CZ @DA) (aj @xC @xD)) (aj (aj @vD @vE) (aj @vF (aj @uS @Ib)))) (aj (aj (aj @DB @Po) (aj @Sd (aj @Kk @DC))) (aj (aj @Pp @Pq) (aj @zH (aj @Kl @DD)))))) (aj (aj (aj (aj (aj @DE @JS) (aj @RH @Zx)) (aj (aj @DF @JT) (aj @JU (aj @RI @RJ)))) (aj (aj (aj @JV @RK) (aj @RL (aj @RM @DG))) (aj (aj @DH @Ic) (aj @Jq (aj @Md @Me))))) (aj (aj (aj (aj @Ei @RN) (aj @XQ @XR)) (aj (aj @wG @Ft) (aj @wH (aj @Fu @DI)))) (aj (aj (aj @Km @uG) (aj @DJ (aj @Pt @Pu))) (aj (aj @An @Ao) (aj @oH (aj @Mf @Mg)))))))) (aj (aj (aj (aj (aj (aj (aj @Ae @Ap) (aj @Af @Aq)) (aj (aj @Dp @nP) (aj @Uq (aj @Ur @RO)))) (aj (aj (aj @RP @Mh) (aj @Sh (aj @Bw @JX))) (aj (aj @JY @JZ) (aj @Pv (aj @Fi @Si))))) (aj (aj (aj (aj @Sj @Pw) (aj @Sk
 @Us)) (aj (aj @AB @AE) (aj @AF (aj @Ut @Uu)))) (aj (aj (aj @AG @AI) (aj @AJ (aj @vM @Fv))) (aj (aj @xJ @Ih) (aj @KC (aj @KD @Dr)))))) (aj (aj (aj (aj (aj @Ds @tW) (aj @vG @Fw)) (aj (aj @Fx @uT) (aj @xE (aj @vN @Fy)))) (aj (aj (aj @tE @Bq) (aj @xK (aj @Ij @Uv))) (aj (aj @Uw @Ag) (aj @Ah (aj @yK @yL))))) (aj (aj (aj (aj @qN @pU) (aj @Ik @Jr)) (aj (aj @qW @Js) (aj @AN (aj @AO @pC)))) (aj (aj (aj @Gf @qB) (aj @Il (aj @Px @Py))) (aj (aj @Fj @Fk) (aj @xF (aj @qO @Gg))))))) (aj (aj (aj (aj (aj (aj @Gh @xQ) (aj @rP @pD)) (aj (aj @Gi @nN) (aj @Du (aj @Ko @Ch)))) (aj (aj (aj @qY @Jt) (aj @Kq (aj @Pz @Im))) (aj (aj @Io @vO) (aj @Ux (aj @KE @KF))))) (aj (aj (aj (aj @AR @AS) (aj @tY @tM)) (aj (aj @qZ
 @pP) (aj @qM (aj @tZ @uU)))) (aj (aj (aj @pQ @oG) (aj @Ju (aj @xX @rA))) (aj (aj @Jv @Mk) (aj @Ip (aj @Iq @uF)))))) (aj (aj (aj (aj (aj @zJ @Qa) (aj @Ay @Sm)) (aj (aj @Qb @Sn) (aj @AT (aj @DN @DO)))) (aj (aj (aj @DP @Ml) (aj @Qc (aj @So @Uy))) (aj (aj @KH @KI) (aj @KJ (aj @RU @KK))))) (aj (aj (aj (aj @KL @XU) (aj @XV @Cr)) (aj (aj @KM @KN) (aj @sM (aj @sA @KO)))) (aj (aj (aj @KP @Az) (aj @AW (aj @AX @DQ))) (aj (aj @KQ @KR) (aj @RV (aj @XW @XX))))))))
def FA:=aj (aj (aj (aj (aj (aj (aj (aj @ld3 @ik3) (aj @lk3 (aj @ze3 @aTL))) (aj (aj @aTM @MQ) (aj @aIq (aj @aTN @aTO)))) (aj (aj (aj @aTP @ld5) (aj @ik5 (aj @lk5 @ze5))) (aj (aj @ik2 (aj @lk2 @ze2)) (aj @aTQ (aj @aTR @aTS))))) (aj (aj (aj (aj @ld4 @lk4) (aj @ze4 (aj @be4 @aTT))) (aj (aj @aLD (aj @aOc @aIr)) (aj @aTU (aj @aTV @aGW)))) (aj (aj (aj @aTW @aTX) (aj @aTY (aj @aTZ @aOd))) (aj (aj @aT0 (aj @aLm @aT1)) (aj @aT2 (aj @aT3 @aIs)))))) (aj (aj (aj (aj (aj @aIt @aLC) (aj @aIu (aj @aT4 @aT5))) (aj (aj @aT6 @aT7) (aj @aT8 (aj @aIv @aIw)))) (aj (aj (aj @aT9 @aUa) (aj @aUb (aj @UY @aIx))) (aj (aj @aIy (aj @aIz @aIA)) (aj @aIB (aj @aIC @aID))))) (aj (aj (aj (aj @aIE @aIF) (aj @aIG (aj @aIH @aII))) (aj (aj @aUc (aj @aUd @aUe)) (aj @aUf (aj @aUg @aIJ)))) (aj (aj (aj @aIK @aIL) (aj @aIM (aj @aOe @aUh))) (aj (aj @aUi (aj @aUj @aUk)) (aj @aIN (aj @aUl @aUm))))))) (aj (aj (aj (aj (aj (aj @aUn @aIO) (aj @aUo (aj @aUp @aUq))) (aj (aj @aUr @aIP) (aj @aIQ (aj @aIR @aUs)))) (aj (aj (aj @aOf @aUt) (aj @aUu (aj @aUv @aUw))) (aj (aj @aIS (aj @aIT @aIU)) (aj @aIV (aj @aIW @aIX))))) (aj (aj (aj (aj @aUx @aOg) (aj @aUy (aj @aUz @aUA))) (aj (aj @aUB (aj @aIY @aIZ)) (aj @aI0 (aj @aI1 @aI2)))) (aj (aj (aj @aI3 @aUC) (aj @aUD (aj @aOh @aFJ))) (aj (aj @aEC (aj @aED @aEE)) (aj @aGv (aj @aGw @aOi)))))) (aj (aj (aj (aj (aj @aOj @aUE) (aj @aUF (aj @aI4 @aI5))) (aj (aj @aI6 (aj @aI7 @aOk)) (aj @aUG (aj @aOl @aOm)))) (aj (aj (aj @aEF @aEG) (aj @aEH (aj @aEI @aOn))) (aj (aj @aOo (aj @aOp @aOq)) (aj @aEJ (aj @aEK @aOr))))) (aj (aj (aj (aj @aOs @aOt) (aj @aOu (aj @aEL @aEM))) (aj (aj @aGx (aj @aOv @aUH)) (aj @aDf (aj @aI8 @aI9)))) (aj (aj (aj @aJa @aJb) (aj @aDp (aj @aOw @aUI))) (aj (aj @aUJ (aj @aUK @aUL)) (aj
 @aJc (aj @aJd @aJe)))))))) (aj (aj (aj (aj (aj (aj (aj @aOx @aOy) (aj @aUM (aj @aUN @aUO))) (aj (aj @aUP @aJf) (aj @aJg (aj @aUQ @aUR)))) (aj (aj (aj @aUS @aUT) (aj @aJh (aj @aJi @aUU))) (aj (aj @aOz (aj @aUV @aUW)) (aj @aUX (aj @aJj @aJk))))) (aj (aj (aj (aj @aUY @aUZ) (aj @aU0 (aj @aJl @aJm))) (aj (aj @aJn (aj @aJo @aJp)) (aj @aJq (aj @aJr @aJs)))) (aj (aj (aj @aU1 @aU2) (aj @aU3 (aj @aU4 @aJt))) (aj (aj @aJu (aj @aJv @aJw)) (aj @aJx (aj @aJy @aJz)))))) (aj (aj (aj (aj (aj @aJA @aU5) (aj @aU6 (aj @aOA @aOB))) (aj (aj @aEN (aj @aEO @aEP)) (aj @aEQ (aj @aER @aES)))) (aj (aj (aj @aET @aEU) (aj @aGy (aj @aOC @aJB))) (aj (aj @Kz (aj @aEV @aU7)) (aj @aU8 (aj @aU9 @aVa))))) (aj (aj (aj (aj @aVb @XZ) (aj @aJC (aj @aVc @aVd))) (aj (aj @aVe (aj @aVf @aVg)) (aj @K3 (aj @aJD @aVh)))) (aj (aj (aj @aVi @aVj) (aj @aVk (aj @aVl @aBK))) (aj (aj @aOD (aj @aVm @aVn)) (aj @aVo (aj @oR @aJE))))))) (aj (aj (aj (aj (aj (aj @aVp @aVq) (aj @aVr (aj @aVs @aVt))) (aj (aj @RW @aJF) (aj @aVu (aj @aVv @aVw)))) (aj (aj (aj @aVx @KS) (aj @aOE (aj @aVy @aVz))) (aj (aj @aVA (aj @yE @aDu)) (aj @aVB (aj @aVC @aVD))))) (aj (aj (aj (aj @aVE @aVF) (aj @aEW (aj @aOF @aVG))) (aj (aj @aVH (aj @Q3 @aGz)) (aj @aOG (aj @aOH @v7)))) (aj (aj (aj @aOI @aOJ) (aj @aOK (aj @aGA @aOL))) (aj (aj @aOM (aj @aON @v8)) (aj @aOO (aj @aOP @aOQ)))))) (aj (aj (aj (aj (aj @RX @aGB) (aj @aOR (aj @aOS @aVI))) (aj (aj @aVJ (aj @aVK @aVL)) (aj @aVM (aj @aVN @aVO)))) (aj (aj (aj @aVP @aVQ) (aj @aVR (aj @aVS @aVT))) (aj (aj @aVU (aj @aVV @aVW)) (aj @aVX (aj @aVY @aVZ))))) (aj (aj (aj (aj @aV0 @aV1) (aj @aV2 (aj @aV3 @aV4))) (aj (aj @aV5 (aj @aV6 @aV7)) (aj @aV8 (aj @aV9 @aWa)))) (aj (aj (aj @aOT @aOU) (aj @aOV (aj @aOW @aOX))) (aj (aj @aOY (aj
 @aOZ @aO0)) (aj @aO1 (aj @aO2 @aO3))))))))
def ZZ:=aj (aj EV LE) (aj RD FA)
section
variable {f:Nat} {fn:Func} {st:St} {x y z:AV}
theorem bX {t:Nat} (hr:fn.results.toList=[.tmp t]) (hx:st.env t=x) (hf:Flat x:=by exact .v _) (hk:Ext.qP f=false:=by exact aI (by decide)):Al Tryz.prog f fn (.ret,st)=some x:=aBh hk (.inl rfl) hr hx hf
theorem fL {t T:Nat} (hr:fn.results.toList=[.cell t T]) (hy:st.env t=y) (hx:Fp Tryz.prog st T y=some x) (hf:Flat x) (hk:Ext.qP f=false:=by exact aI (by decide)):Al Tryz.prog f fn (.ret,st)=some x:=I5 hk (.inl rfl) hr hy hx hf
theorem tD {t s g e' sz n:Nat} {cs:List AV} (hr:fn.results.toList=[.tmp t]) (hx:st.env t=.own s g) (hh:st.heap s g=some (.row e' sz n cs)) (hf:∀c∈cs,Flat c) (hk:Ext.qP f=false:=by exact aI (by decide)):Al Tryz.prog f fn (.ret,st)=some (.uniq e' sz n cs):=Xm hk (.inl rfl) hr hx hh hf
theorem eB {t T:Nat} {cs:List AV} (hr:fn.results.toList=[.cell t T]) (hz:st.env t=z) (hx:Fp Tryz.prog st T z=some (.agg cs)) (hy:fU st (.agg cs)=some y) (hk:Ext.qP f=false:=by exact aI (by decide)):Al Tryz.prog f fn (.ret,st)=some y:=WU hk (.inl rfl) hr hz hx hy
theorem dP {r1 r2:ResultVar} {x1 x2 y1 y2:AV} (hr:fn.results.toList=[r1,r2]) (h1:bY Tryz.prog st r1=some x1) (h2:bY Tryz.prog st r2=some x2) (e1:fU st x1=some y1) (e2:fU st x2=some y2) (hk:Ext.qP f=false:=by exact aI (by decide)):Al Tryz.prog f fn (.ret,st)=some (.dZ [y1,y2]):=aBi hk (.inl rfl) hr h1 h2 e1 e2
theorem aMh {r1 r2:ResultVar} {x1 x2 y1 y2:AV} (hr:fn.results.toList=[r1,r2]) (h1:bY Tryz.prog st r1=some x1) (h2:bY Tryz.prog st r2=some x2) (e0:fU st x1=none) (e1:Ms st x1=some y1) (e2:fU st x2=some y2) (hk:Ext.qP f=false:=by exact aI (by decide)):Al Tryz.prog f fn (.ret,st)=some (.dZ [y1,y2]):=I6 hk (.inl rfl) hr h1 h2 e0 e1 e2
theorem gU {r1 r2 r3:ResultVar} {x1 x2 x3 y1 y2 y3:AV} (hr:fn.results.toList=[r1,r2,r3]) (h1:bY Tryz.prog st r1=some x1) (h2:bY Tryz.prog st r2=some x2) (h3:bY Tryz.prog st r3=some x3) (e1:fU st x1=some y1) (e2:fU st x2=some y2) (e3:fU st x3=some y3) (hk:Ext.qP f=false:=by exact aI (by decide)):Al Tryz.prog f fn (.ret,st)=some (.dZ [y1,y2,y3]):=WV hk (.inl rfl) hr h1 h2 h3 e1 e2 e3
theorem cL {c:Code} (hf:Tryz.prog.funcs[f]? = some fn) (hb:fn.body=some c) (sK:bJ fn=true) {xs:List AV} (hu:xs.any sI=false):aD Tryz.prog f xs=cC (zF Tryz.prog c (St.init xs)) (Al Tryz.prog f fn):=aAW _ hf hb sK xs (sP _ _) hu
theorem cG {c:Code} (hf:Tryz.prog.funcs[f]? = some fn) (hb:fn.body=some c) (sK:tX fn=true) (hc:lI c=true) {xs:List AV} (hu:xs.any sI=false):aD Tryz.prog f xs=cC (wL Tryz.prog true c (St.init xs)) (Al Tryz.prog f fn):=by
 rw[Ym Tryz.prog hf hb sK xs (sP _ _) hu,hc]
end
section
variable {b:Code} {st st':St} {n:Nat} {I:Nat→St→Prop} {Q:Ex→St→Prop}
theorem oN (m:Nat) (h:zF Tryz.prog b st=some (.normal,st')) (hi:I m st') (hm:m<n:=by omega):∃e st',zF Tryz.prog b st=some (e,st')∧((e=.normal∧∃m,m<n∧I m st')∨(e≠.normal∧Q e st')):=oV h m hm hi
theorem oT (e:Ex) (h:zF Tryz.prog b st=some (e,st')) (hq:Q e st') (he:e≠.normal:=by simp):∃e st',zF Tryz.prog b st=some (e,st')∧((e=.normal∧∃m,m<n∧I m st')∨(e≠.normal∧Q e st')):=aIc h he hq
theorem En {bi:Bool} (m:Nat) (h:wL Tryz.prog bi b st=some (.normal,st')) (hi:I m st') (hm:m<n:=by omega):∃e st',wL Tryz.prog bi b st=some (e,st')∧((e=.normal∧∃m,m<n∧I m st')∨(e≠.normal∧Q e st')):=aIg h m hm hi
theorem LB {bi:Bool} (e:Ex) (h:wL Tryz.prog bi b st=some (e,st')) (hq:Q e st') (he:e≠.normal:=by simp):∃e st',wL Tryz.prog bi b st=some (e,st')∧((e=.normal∧∃m,m<n∧I m st')∨(e≠.normal∧Q e st')):=aEr h he hq
end
end Go.Ab.Tryz
end
namespace Go.Ab.Tryz
open Classical Go.Proofs Go.Ab
def FT:=aj (aj (aj (aj (aj (aj @M7 (aj @KW @aCb)) (aj @AZ (aj @BA @SH))) (aj (aj @SI (aj @GN @ZD)) (aj @Nn (aj @SJ @aCc)))) (aj (aj (aj @aJQ (aj @MU @Vg)) (aj @v9 (aj @ZF @GS))) (aj (aj @YF (aj @aCd @aJR)) (aj (aj @HD @ZL) (aj @Vj @U2))))) (aj (aj (aj (aj @KX (aj @nH @KY)) (aj @SK (aj @aCe @aJS))) (aj (aj @FC (aj @EP @Qm)) (aj @ER (aj @Nq @aPb)))) (aj (aj (aj @aFp (aj @KZ @aCf)) (aj @aJT (aj @M8 @iT))) (aj (aj @FB (aj @rX @uI)) (aj (aj @SL @zS) (aj @aPc @aFq)))))) (aj (aj (aj (aj (aj @BB (aj @aCg @aJU)) (aj @SM (aj @rH @oW))) (aj (aj @Tb (aj @pI @zT)) (aj @vW (aj @Ln @aPd)))) (aj (aj (aj @aFr (aj @SN @aCh)) (aj @aJV (aj @oK @wK))) (aj (aj @aFs (aj @aCi @MX)) (aj (aj @ZM @rV) (aj @UQ @Lj))))) (aj (aj (aj (aj @UR (aj @Cy @YG)) (aj @Et (aj @YH @M9))) (aj (aj @aCj (aj @aJW @Nu)) (aj (aj @Er @GV) (aj @jZ @aPe)))) (aj (aj (aj @aFt (aj @YI @YJ)) (aj @N0 (aj @aCk @aJX))) (aj (aj @aFu (aj @Eo @yC)) (aj (aj @vQ @aCl) (aj @R3 @R2))))))
def E8:=EV
def L8:=LE
def R8:=RD
def F8:=aj FA FT
def EGn:=aj (aj (aj (aj (aj (aj @List.size_toArray.{0} @jC) (aj @mI @jD)) (aj (aj @kX @mJ) (aj @Yi @Yl))) (aj (aj (aj @HQ @Vl) (aj @Re @QZ)) (aj (aj @XH @XD) (aj @QH (aj @fI @dK))))) (aj (aj (aj (aj @cD @J5) (aj @XF @J6)) (aj (aj @aBn @aBo) (aj @QK (aj @QL @QM)))) (aj (aj (aj @QN @QO) (aj @QP @QQ)) (aj (aj @QR @QT) (aj @QU (aj @QV @QW)))))) (aj (aj (aj (aj (aj @QX @QY) (aj @aIo @aBG)) (aj (aj @Xs @u5) (aj @aEs (aj @J7 @aEt)))) (aj (aj (aj @aBu @aIl) (aj @aBv @CX)) (aj (aj @JL @RA) (aj @aEu (aj @aBw @aBx))))) (aj (aj (aj (aj @aEv @JM) (aj @aBy @JN)) (aj (aj @XI @XJ) (aj @aBz (aj @XK @aIm)))) (aj (aj (aj @aEw @UZ) (aj @aEx @aBA)) (aj (aj @aBB @aBC) (aj @aIn (aj @J8 @aBD))))))
def ZC:=aj (aj L8 R8) F8
def Z8:=aj EV ZC
def ZG:=aj (aj EGn @J3) Z8
end Go.Ab.Tryz
namespace Go.Ab.Tryz
open Go.Ab
theorem Gc:(((aF 0 2 (some 2)=[])∧((aF 1 13 (some 11)=[])∧(aF 2 17 (some 22)=[])))∧(((aF 3 4 (some 37)=[])∧(aF 4 8 (some 40)=[]))∧((aF 5 10 (some 48)=[])∧(aF 6 9 (some 56)=[(4,7)]))))∧(((aF 7 6 (some 63)=[])∧((aF 8 6 (some 68)=[])∧(aF 9 9 (some 73)=[])))∧(((aF 10 18 (some 82)=[])∧(aF 11 4 (some 99)=[]))∧((aF 12 3 (some 103)=[])∧(aF 13 2 (some 105)=[])))):=⟨⟨⟨rfl,⟨rfl,rfl⟩⟩,⟨⟨rfl,rfl⟩,⟨rfl,rfl⟩⟩⟩,⟨⟨rfl,⟨rfl,rfl⟩⟩,⟨⟨rfl,rfl⟩,⟨rfl,rfl⟩⟩⟩⟩
theorem HI:(((aF 0 5 (some 2)=[])∧(aF 1 1 (some 7)=[]))∧((aF 2 5 (some 9)=[])∧(aF 4 11 (some 16)=[])))∧(((aF 5 7 (some 27)=[])∧(aF 6 13 (some 32)=[]))∧((aF 7 5 (some 44)=[(1,2)])∧((aF 3 3 (some 14)=[])∧(aF 8 5 (some 46)=[])))):=⟨⟨⟨rfl,rfl⟩,⟨rfl,rfl⟩⟩,⟨⟨rfl,rfl⟩,⟨rfl,⟨rfl,rfl⟩⟩⟩⟩
theorem VE:((((aF 0 3 (some 2)=[])∧(aF 1 8 (some 9)=[(3,6)]))∧((aF 2 41 (some 13)=[])∧(aF 3 1 (some 4)=[])))∧(((aF 4 38 (some 54)=[])∧(aF 5 1 (some 4)=[]))∧((aF 6 1 (some 7)=[])∧(aF 7 6 (some 131)=[]))))∧((((aF 9 14 (some 139)=[])∧(aF 10 1 (some 4)=[]))∧((aF 8 3 (some 137)=[])∧(aF 11 1 (some 8)=[])))∧(((aF 12 6 (some 153)=[])∧(aF 14 13 (some 161)=[]))∧((aF 15 1 (some 4)=[])∧((aF 13 3 (some 159)=[])∧(aF 16 1 (some 4)=[]))))):=⟨⟨⟨⟨rfl,rfl⟩,⟨rfl,rfl⟩⟩,⟨⟨rfl,rfl⟩,⟨rfl,rfl⟩⟩⟩,⟨⟨⟨rfl,rfl⟩,⟨rfl,rfl⟩⟩,⟨⟨rfl,rfl⟩,⟨rfl,⟨rfl,rfl⟩⟩⟩⟩⟩
theorem sR:(((((aF 0 2 (some 3)=[])∧(aF 1 7 (some 12)=[]))∧((aF 2 4 (some 18)=[])∧(aF 3 14 (some 22)=[])))∧(((aF 4 8 (some 35)=[])∧(aF 5 23 (some 41)=[]))∧((aF 6 9 (some 62)=[])∧((aF 7 5 (some 71)=[])∧(aF 8 4 (some 75)=[])))))∧((((aF 9 9 (some 79)=[])∧(aF 10 7 (some 87)=[]))∧((aF 11 6 (some 93)=[])∧((aF 12 13 (some 97)=[])∧(aF 13 4 (some 110)=[]))))∧(((aF 14 6 (some 114)=[])∧(aF 15 4 (some 119)=[]))∧((aF 16 15 (some 122)=[])∧((aF 17 12 (some 137)=[(7,9)])∧(aF 18 11 (some 147)=[]))))))∧(((((aF 19 5 (some 158)=[])∧(aF 20 8 (some 162)=[(3,5)]))∧((aF 21 3 (some 168)=[])∧((aF 22 2 (some 172)=[])∧(aF 23 6 (some 173)=[]))))∧(((aF 24 2 (some 179)=[])∧(aF 25 5 (some 180)=[]))∧((aF 26 2 (some 185)=[])∧((aF 27 5 (some 186)=[])∧(aF 28 2 (some 191)=[])))))∧((((aF 29 9 (some 192)=[])∧(aF 30 2 (some 201)=[]))∧((aF 31 5 (some 202)=[])∧((aF 32 2 (some 207)=[])∧(aF 33 16 (some 208)=[]))))∧(((aF 34 2 (some 224)=[])∧(aF 35 5 (some 225)=[]))∧((aF 36 2 (some 230)=[])∧((aF 37 3 (some 231)=[])∧(aF 38 2 (some 233)=[])))))):=⟨⟨⟨⟨⟨rfl,rfl⟩,⟨rfl,rfl⟩⟩,⟨⟨rfl,rfl⟩,⟨rfl,⟨rfl,rfl⟩⟩⟩⟩,⟨⟨⟨rfl,rfl⟩,⟨rfl,⟨rfl,rfl⟩⟩⟩,⟨⟨rfl,rfl⟩,⟨rfl,⟨rfl,rfl⟩⟩⟩⟩⟩,⟨⟨⟨⟨rfl,rfl⟩,⟨rfl,⟨rfl,rfl⟩⟩⟩,⟨⟨rfl,rfl⟩,⟨rfl,⟨rfl,rfl⟩⟩⟩⟩,⟨⟨⟨rfl,rfl⟩,⟨rfl,⟨rfl,rfl⟩⟩⟩,⟨⟨rfl,rfl⟩,⟨rfl,⟨rfl,rfl⟩⟩⟩⟩⟩⟩
theorem Qk:(((aF 0 6 (some 3)=[])∧(aF 1 10 (some 13)=[(5,8)]))∧((aF 2 5 (some 19)=[])∧((aF 3 2 (some 24)=[])∧(aF 4 5 (some 25)=[]))))∧(((aF 5 2 (some 30)=[])∧(aF 6 12 (some 31)=[]))∧((aF 7 36 (some 41)=[])∧((aF 8 5 (some 114)=[])∧(aF 9 5 (some 116)=[(1,2)])))):=⟨⟨⟨rfl,rfl⟩,⟨rfl,⟨rfl,rfl⟩⟩⟩,⟨⟨rfl,rfl⟩,⟨rfl,⟨rfl,rfl⟩⟩⟩⟩
theorem tF:((((aF 0 4 (some 3)=[])∧(aF 1 13 (some 16)=[]))∧((aF 2 2 (some 23)=[])∧((aF 3 2 (some 25)=[])∧(aF 4 7 (some 26)=[]))))∧(((aF 5 6 (some 32)=[])∧(aF 6 8 (some 37)=[(1,4)]))∧((aF 7 2 (some 43)=[])∧((aF 8 2 (some 45)=[])∧(aF 9 14 (some 47)=[])))))∧((((aF 10 6 (some 59)=[])∧(aF 11 3 (some 65)=[]))∧((aF 12 9 (some 68)=[])∧((aF 13 1 (some 13)=[])∧(aF 14 1 (some 14)=[]))))∧(((aF 15 6 (some 74)=[])∧((aF 17 9 (some 82)=[])∧(aF 18 10 (some 91)=[])))∧((aF 16 3 (some 80)=[])∧((aF 19 4 (some 100)=[])∧(aF 20 2 (some 103)=[]))))):=⟨⟨⟨⟨rfl,rfl⟩,⟨rfl,⟨rfl,rfl⟩⟩⟩,⟨⟨rfl,rfl⟩,⟨rfl,⟨rfl,rfl⟩⟩⟩⟩,⟨⟨⟨rfl,rfl⟩,⟨rfl,⟨rfl,rfl⟩⟩⟩,⟨⟨rfl,⟨rfl,rfl⟩⟩,⟨rfl,⟨rfl,rfl⟩⟩⟩⟩⟩
theorem Jn:(((aF 0 2 (some 1)=[])∧(aF 1 3 (some 5)=[]))∧((aF 2 2 (some 7)=[])∧((aF 3 1 (some 4)=[])∧(aF 4 4 (some 8)=[]))))∧(((aF 6 9 (some 14)=[])∧((aF 7 10 (some 23)=[])∧(aF 8 7 (some 32)=[])))∧((aF 9 13 (some 39)=[])∧((aF 5 3 (some 12)=[])∧(aF 10 2 (some 51)=[])))):=⟨⟨⟨rfl,rfl⟩,⟨rfl,⟨rfl,rfl⟩⟩⟩,⟨⟨rfl,⟨rfl,rfl⟩⟩,⟨rfl,⟨rfl,rfl⟩⟩⟩⟩
theorem Xy:((((aF 0 3 (some 2)=[])∧(aF 1 4 (some 14)=[]))∧((aF 2 10 (some 17)=[])∧(aF 3 1 (some 9)=[])))∧(((aF 4 4 (some 22)=[])∧(aF 5 4 (some 25)=[]))∧((aF 6 1 (some 10)=[])∧(aF 7 1 (some 11)=[]))))∧((((aF 8 3 (some 29)=[])∧(aF 10 5 (some 34)=[]))∧((aF 11 2 (some 38)=[])∧(aF 12 1 (some 12)=[])))∧(((aF 13 7 (some 40)=[])∧(aF 14 5 (some 45)=[]))∧((aF 15 8 (some 50)=[])∧((aF 9 3 (some 32)=[])∧(aF 16 6 (some 56)=[(2,3)]))))):=⟨⟨⟨⟨rfl,rfl⟩,⟨rfl,rfl⟩⟩,⟨⟨rfl,rfl⟩,⟨rfl,rfl⟩⟩⟩,⟨⟨⟨rfl,rfl⟩,⟨rfl,rfl⟩⟩,⟨⟨rfl,rfl⟩,⟨rfl,⟨rfl,rfl⟩⟩⟩⟩⟩
theorem S8:((aF 0 3 (some 1)=[])∧((aF 1 5 (some 5)=[])∧(aF 2 8 (some 8)=[])))∧((aF 3 3 (some 16)=[])∧((aF 4 5 (some 17)=[(0,2)])∧(aF 5 5 (some 20)=[(1,3)]))):=⟨⟨rfl,⟨rfl,rfl⟩⟩,⟨rfl,⟨rfl,rfl⟩⟩⟩
theorem Ka:((((aF 0 2 (some 1)=[])∧(aF 1 8 (some 6)=[]))∧((aF 2 1 (some 2)=[])∧((aF 3 7 (some 15)=[])∧(aF 4 2 (some 19)=[]))))∧(((aF 5 2 (some 21)=[])∧((aF 6 5 (some 22)=[])∧(aF 7 2 (some 25)=[])))∧((aF 8 2 (some 28)=[])∧((aF 9 4 (some 29)=[])∧(aF 10 2 (some 33)=[])))))∧((((aF 11 4 (some 34)=[])∧((aF 12 2 (some 38)=[])∧(aF 13 4 (some 39)=[])))∧((aF 14 2 (some 43)=[])∧((aF 15 4 (some 44)=[])∧(aF 16 2 (some 48)=[]))))∧(((aF 17 4 (some 49)=[])∧((aF 18 2 (some 53)=[])∧(aF 19 8 (some 54)=[(3,5)])))∧((aF 20 4 (some 60)=[])∧((aF 21 1 (some 2)=[])∧(aF 22 1 (some 2)=[]))))):=⟨⟨⟨⟨rfl,rfl⟩,⟨rfl,⟨rfl,rfl⟩⟩⟩,⟨⟨rfl,⟨rfl,rfl⟩⟩,⟨rfl,⟨rfl,rfl⟩⟩⟩⟩,⟨⟨⟨rfl,⟨rfl,rfl⟩⟩,⟨rfl,⟨rfl,rfl⟩⟩⟩,⟨⟨rfl,⟨rfl,rfl⟩⟩,⟨rfl,⟨rfl,rfl⟩⟩⟩⟩⟩
theorem MS:((aF 0 2 (some 3)=[])∧(aF 1 1 (some 5)=[]))∧((aF 2 15 (some 6)=[])∧((aF 3 3 (some 21)=[])∧(aF 4 13 (some 23)=[(7,10)]))):=⟨⟨rfl,rfl⟩,⟨rfl,⟨rfl,rfl⟩⟩⟩
theorem Bh:((((aF 0 3 (some 1)=[])∧(aF 1 3 (some 9)=[]))∧((aF 2 3 (some 12)=[])∧(aF 3 5 (some 13)=[])))∧(((aF 4 3 (some 17)=[])∧(aF 5 7 (some 19)=[]))∧((aF 6 4 (some 26)=[])∧((aF 7 7 (some 28)=[])∧(aF 8 4 (some 34)=[])))))∧((((aF 9 3 (some 37)=[])∧(aF 10 1 (some 6)=[]))∧((aF 11 4 (some 39)=[])∧((aF 13 8 (some 45)=[])∧(aF 14 12 (some 53)=[]))))∧(((aF 15 11 (some 65)=[])∧(aF 16 2 (some 73)=[]))∧((aF 17 7 (some 75)=[])∧((aF 12 3 (some 43)=[])∧(aF 18 3 (some 81)=[]))))):=⟨⟨⟨⟨rfl,rfl⟩,⟨rfl,rfl⟩⟩,⟨⟨rfl,rfl⟩,⟨rfl,⟨rfl,rfl⟩⟩⟩⟩,⟨⟨⟨rfl,rfl⟩,⟨rfl,⟨rfl,rfl⟩⟩⟩,⟨⟨rfl,rfl⟩,⟨rfl,⟨rfl,rfl⟩⟩⟩⟩⟩
theorem aMN:((aF 0 2 (some 3)=[])∧(aF 1 14 (some 5)=[(3,5),(3,8),(6,8),(3,11),(6,11),(9,11)]))∧((aF 2 8 (some 18)=[(3,5)])∧((aF 3 8 (some 25)=[(3,5)])∧(aF 4 13 (some 32)=[(4,7),(4,10),(8,10)]))):=⟨⟨rfl,rfl⟩,⟨rfl,⟨rfl,rfl⟩⟩⟩
theorem aFY:((aF 0 3 (some 1)=[])∧(aF 1 4 (some 5)=[]))∧((aF 2 2 (some 8)=[])∧((aF 3 3 (some 10)=[])∧(aF 4 14 (some 11)=[(5,7),(5,10),(8,10)]))):=⟨⟨rfl,rfl⟩,⟨rfl,⟨rfl,rfl⟩⟩⟩
theorem NF:(((aF 0 3 (some 1)=[])∧(aF 1 4 (some 6)=[]))∧((aF 2 2 (some 2)=[])∧(aF 3 14 (some 10)=[(7,9),(7,10)])))∧(((aF 4 1 (some 5)=[])∧(aF 5 5 (some 23)=[]))∧((aF 7 8 (some 30)=[])∧((aF 6 3 (some 28)=[])∧(aF 8 3 (some 37)=[])))):=⟨⟨⟨rfl,rfl⟩,⟨rfl,rfl⟩⟩,⟨⟨rfl,rfl⟩,⟨rfl,⟨rfl,rfl⟩⟩⟩⟩
theorem T8:((aF 0 3 (some 1)=[])∧(aF 1 8 (some 4)=[]))∧((aF 2 2 (some 2)=[])∧(aF 3 13 (some 12)=[(7,9)])):=⟨⟨rfl,rfl⟩,⟨rfl,rfl⟩⟩
theorem aMx:(aF 0 2 (some 3)=[])∧(aF 1 8 (some 5)=[(3,5)]):=⟨rfl,rfl⟩
theorem aFX:(aF 0 2 (some 3)=[])∧(aF 1 14 (some 5)=[(3,5),(3,8),(6,8),(3,11),(6,11),(9,11)]):=⟨rfl,rfl⟩
theorem Xh:((aF 0 1 (some 4)=[])∧((aF 1 1 (some 5)=[])∧(aF 2 12 (some 6)=[])))∧(((aF 3 3 (some 18)=[])∧(aF 4 12 (some 20)=[]))∧((aF 5 2 (some 32)=[])∧(aF 6 12 (some 33)=[(6,9)]))):=⟨⟨rfl,⟨rfl,rfl⟩⟩,⟨⟨rfl,rfl⟩,⟨rfl,rfl⟩⟩⟩
end Go.Ab.Tryz
namespace Go.Ab.Tryz
open Classical Go.Proofs Go.Ab
theorem Gs (x:Int) (h1:-9223372036854775808≤x) (h2:x≤9223372036854775807):IntKind.i64.wrap x=x:=wrap_i64 x h1 h2
theorem c87 (ns:List Node) (i:Int):aD Tryz.prog 87 [.agg (cU ⟨ns⟩),.v (.int .i64 i)]=some (.v (.bool (decide (0≤i) && decide (i<ns.length)))):=by
 rw[cL Tryz.func87 rfl aWd rfl];by_cases h:0≤i
 all_goals
  simp only[ZZ,seval,h,decide_true,decide_false,Bool.false_eq_true,Bool.true_and,Bool.false_and];exact bX rfl (by simp only[EV,seval]) (.v _)
theorem SR (ns:List Node) (i:Int) (st:St) (d:Option Nat):aN (aD Tryz.prog) 87 [.agg (cU ⟨ns⟩),.v (.int .i64 i)] st d=some { dst:=d,val:=.v (.bool (decide (0≤i) && decide (i<ns.length)))}:=bL (bI (nC _) (.v _)) (c87 ns i) (.v _)
def TG (n:Int):Bool:=decide (0≤n) && decide (n≤2)
theorem aPR (i:Int):aD Tryz.prog 186 [.v (.int .i64 i)]=some (.v (.bool (TG i))):=by
 rw[cL Tryz.func186 rfl aO6 rfl];by_cases h:0≤i
 all_goals
  simp only[ZZ,seval,h,decide_true,decide_false,Bool.false_eq_true,Bool.true_and,Bool.false_and];exact bX rfl (by simp only[EV,seval,TG,h,decide_true,decide_false,Bool.false_and,Bool.true_and]) (.v _)
noncomputable def aP (ns:List Node) (r:cK):Int:=match ns.findIdx? (fun n=>decide (n.block.root=r)) with
 | some k=>(k:Int)
 | none=>-1
theorem LY {ns:List Node} {r:cK} {i:Int} (h0:0≤i) (h1:i<ns.length) (hr:(nd ns i).block.root=r) (hb:∀j,0≤j→j<i→(nd ns j).block.root≠r):aP ns r=i:=by
 obtain⟨hi,e⟩:=Ld h0 h1
 have:ns.findIdx? (fun n=>decide (n.block.root=r))=some i.toNat:=by
  rw[List.findIdx?_eq_some_iff_getElem];refine⟨hi,by simp[← e,hr],fun j hj=>?_⟩
  have h:=hb j (by omega) (by omega)
  have N3:j<ns.length:=by omega
  simp[nd,N3] at h
  simpa using h
 unfold aP;rw[this];simp;omega
theorem Wl {ns:List Node} {r:cK} (hb:∀j,0≤j→j<(ns.length:Int)→(nd ns j).block.root≠r):aP ns r=-1:=by
 have:ns.findIdx? (fun n=>decide (n.block.root=r))=none:=by
  rw[List.findIdx?_eq_none_iff];intro n hn;obtain⟨j,hj,rfl⟩:=List.getElem_of_mem hn
  have h:=hb j (by omega) (by omega)
  simp[nd,hj] at h
  simpa using h
 unfold aP;rw[this]
theorem c46 (ns:List Node) (r:cK) (hn:(ns.length:Int)<1000000):aD Tryz.prog 46 [.agg (cU ⟨ns⟩),.agg (aX r)]=some (.v (.int .i64 (aP ns r))):=by
 rw[cL Tryz.func46 rfl aWb rfl];simp only[ZZ,seval];refine lV (fun n st=>∃i:Int,st.env 2=.ptr 2 0 0∧st.env 3=.ptr 3 0 0∧st.heap 2 0=some (.cells (cU ⟨ns⟩))∧st.heap 3 0=some (.cells (aX r))∧st.env 5=.v (.int .i64 i)∧0≤i∧i≤ns.length∧n=(ns.length-i).toNat ∧
  ∀j,0≤j→j<i→(nd ns j).block.root≠r)
  (fun e st=>(e=.ret∧st.env 4=.v (.int .i64 (aP ns r)))∨(e=.exit 0∧aP ns r=-1)) ns.length ?step ?start ?rest
 case step =>
  rintro n st ⟨i,h2,h3,uX,TH,h5,i0,i1,Is,hb⟩
  by_cases aZ:i<ns.length
  ·have hw:IntKind.i64.wrap (i+1)=i+1:=Gs _ (by omega) (by omega)
   by_cases hr:(nd ns i).block.root=r
   ·apply oT (.ret)
    ·simp only[ZZ,seval,h2,h3,uX,TH,h5,aZ,i0,hr];rfl
    ·exact .inl ⟨rfl,by simp only[EV,seval,LY i0 aZ hr hb]⟩
   ·apply oN ((ns.length-(i+1)).toNat)
    ·simp only[ZZ,seval,h2,h3,uX,TH,h5,aZ,i0,hr,hw];rfl
    ·exact⟨i+1,by simp only[EV,seval,h2],by simp only[EV,seval,h3],by simp only[EV,seval,uX],by simp only[EV,seval,TH],(by simp only[EV,seval]),by omega,by omega,rfl,fun j j0 j1=>by
     rcases Int.lt_or_eq_of_le (show j≤i by omega) with h|rfl
     ·exact hb j j0 h
     ·exact hr⟩
  ·apply oT (.exit 0)
   ·simp only[ZZ,seval,h2,h3,uX,TH,h5,aZ,i0];rfl
   ·exact .inr ⟨rfl,Wl fun j j0 j1=>hb j j0 (by omega)⟩
 case start=>exact⟨0,(by simp only[EV,seval]),(by simp only[EV,seval]),(by simp only[EV,seval]),(by simp only[EV,seval]),(by simp only[EV,seval]),by omega,by omega,by omega,fun j _ _=>by omega⟩
 case rest =>
  rintro e st (⟨rfl,h⟩|⟨rfl,h⟩)
  ·simp only[ZZ,seval];exact bX rfl h (.v _)
  ·simp only[ZZ,seval];exact bX rfl (by simp only[EV,seval,h]) (.v _)
theorem q49 (args:List AV) (st:St) (d:Option Nat):aN (aD Tryz.prog) 49 args st d=wR (aD Tryz.prog) 49 (bP (args.map (fU st))) (decide (∀x∈args,Flat x)) st d:=nD _ _ _ _ _
theorem c49 (l:List Int) (a:Int) (hn:(l.length:Int)<1000000):aD Tryz.prog 49 [.sl l.length (aJ l),.v (.int .i64 a)]=some (.v (.bool (decide (a∈l)))):=by
 rw[cL Tryz.func49 rfl aO4 rfl];simp only[ZZ,seval];refine lV (fun n st=>∃i:Int,st.env 0=.sl l.length (aJ l)∧st.env 1=.v (.int .i64 a)∧st.env 5=.v (.int .i64 i)∧0≤i∧i≤l.length∧n=(l.length-i).toNat∧∀j,0≤j→j<i→it l j≠a)
  (fun e st=>(e=.ret∧st.env 4=.v (.bool (decide (a∈l))))∨(e=.exit 0∧decide (a∈l)=false)) l.length ?step ?start ?rest
 case step =>
  rintro n st ⟨i,h0,h1,h5,i0,i1,Is,hb⟩
  by_cases aZ:i<l.length
  ·have hw:IntKind.i64.wrap (i+1)=i+1:=Gs _ (by omega) (by omega)
   obtain⟨hi,he⟩:=xI i0 aZ
   by_cases hr:it l i=a
   ·have hm:decide (a∈l)=true:=by rw[decide_eq_true_eq,← hr,he];exact List.getElem_mem hi
    have hbq:(it l i == a)=true:=by simp[hr]
    apply oT (.ret)
    ·simp only[ZZ,seval,h0,h1,h5,aZ,i0,hbq];rfl
    ·exact .inl ⟨rfl,by simp only[EV,seval,hm]⟩
   ·have hbq:(it l i == a)=false:=by simp[hr]
    apply oN ((l.length-(i+1)).toNat)
    ·simp only[ZZ,seval,h0,h1,h5,aZ,i0,hbq,hw];rfl
    ·exact⟨i+1,by simp only[EV,seval,h0],by simp only[EV,seval,h1],(by simp only[EV,seval]),by omega,by omega,rfl,fun j j0 j1=>by
     rcases Int.lt_or_eq_of_le (show j≤i by omega) with h|rfl
     ·exact hb j j0 h
     ·exact hr⟩
  ·apply oT (.exit 0)
   ·simp only[ZZ,seval,h0,h1,h5,aZ,i0];rfl
   ·exact .inr ⟨rfl,by
    rw[decide_eq_false_iff_not];intro hm;obtain⟨j,hj,rfl⟩:=List.getElem_of_mem hm
    exact hb j (by omega) (by omega) (by simp[it,hj])⟩
 case start=>exact⟨0,(by simp only[EV,seval]),(by simp only[EV,seval]),(by simp only[EV,seval]),by omega,by omega,by omega,fun j _ _=>by omega⟩
 case rest =>
  rintro e st (⟨rfl,h⟩|⟨rfl,h⟩)
  ·simp only[ZZ,seval];exact bX rfl h (.v _)
  ·simp only[ZZ,seval];exact bX rfl (by simp only[EV,seval,h]) (.v _)
theorem aLW (a:Int):aD Tryz.prog 49 [.v (.slice none 0 0),.v (.int .i64 a)]=some (.v (.bool false)):=by
 rw[cL Tryz.func49 rfl aO4 rfl];simp only[ZZ,seval,Gu,Int.natCast_zero,Int.lt_irrefl,decide_false];exact bX rfl (by simp only[EV,seval]) (.v _)
theorem k49 (l:List Int) (a:Int) (hn:(l.length:Int)<1000000) (fl:Bool) (st:St) (d:Option Nat):wR (aD Tryz.prog) 49 (some [.sl l.length (aJ l),.v (.int .i64 a)]) fl st d=some { dst:=d,val:=.v (.bool (decide (a∈l)))}:=HE (c49 l a hn)
theorem aWg (a:Int) (fl:Bool) (st:St) (d:Option Nat):wR (aD Tryz.prog) 49 (some [.v (.slice none 0 0),.v (.int .i64 a)]) fl st d=some { dst:=d,val:=.v (.bool false)}:=HE (aLW a)
def iB (ns:List Node):Prop:=∀i:Int,0<i→i<ns.length→0≤(nd ns i).up∧(nd ns i).up<i
def BC (ns:List Node):Nat→Int→List Int
 | 0,_=>[]
 | f+1,i=>if i=0 then [0] else BC ns f (nd ns i).up++[i]
def path (ns:List Node) (i:Int):List Int:=if 0≤i∧i<ns.length then BC ns (i.toNat+1) i else []
theorem BD {ns:List Node} (h:iB ns):∀(f g:Nat) (i:Int),0≤i→i<ns.length→i.toNat<f→i.toNat<g→BC ns f i=BC ns g i
 | 0,_,i,_,_,h1,_=>by omega
 | f+1,0,i,_,_,_,h2=>by omega
 | f+1,g+1,i,i0,i1,h1,h2=>by
   simp only[BC];by_cases hi:i=0
   ·rw[if_pos hi,if_pos hi]
   ·obtain⟨u0,u1⟩:=h i (by omega) i1
    rw[if_neg hi,if_neg hi,BD h f g (nd ns i).up u0 (by omega) (by omega) (by omega)]
theorem rR {ns:List Node} (h:0<ns.length):path ns 0=[0]:=by
 unfold path;rw[if_pos ⟨by omega,by omega⟩]
 rfl
theorem rS {ns:List Node} (h:iB ns) {i:Int} (i0:0<i) (i1:i<ns.length):path ns i=path ns (nd ns i).up++[i]:=by
 obtain⟨u0,u1⟩:=h i i0 i1
 unfold path;rw[if_pos ⟨by omega,i1⟩,if_pos ⟨u0,by omega⟩]
 show BC ns (i.toNat+1) i=_
 rw[BC,if_neg (by omega)]
 rw[BD h i.toNat ((nd ns i).up.toNat+1) (nd ns i).up u0 (by omega) (by omega) (by omega)]
theorem yN {ns:List Node} {i:Int} (h:¬(0≤i∧i<ns.length)):path ns i=[]:=if_neg h
theorem aCm {ns:List Node} (h:iB ns):∀(k:Nat) (i:Int),i.toNat=k→0≤i→i<ns.length→(path ns i).length≤i+1:=by
 intro k;induction k using Nat.strongRecOn with
 | _ k ih =>
   intro i hk i0 i1;by_cases hi:i=0
   ·subst hi;rw[rR (by omega)];simp
   ·obtain⟨u0,u1⟩:=h i (by omega) i1
    rw[rS h (by omega) i1]
    have:=ih (nd ns i).up.toNat (by omega) _ rfl u0 (by omega)
    simp only[List.length_append,List.length_singleton];omega
theorem Av {ns:List Node} (h:iB ns) (i:Int):((path ns i).length:Int)≤ns.length:=by
 by_cases hi:0≤i∧i<ns.length
 ·have:=aCm h _ i rfl hi.1 hi.2;omega
 ·rw[yN hi];simp
theorem aWh (ns:List Node) (i:Int) (h:¬(0≤i∧i<ns.length)):aD Tryz.prog 76 [.agg (cU ⟨ns⟩),.v (.int .i64 i)]=some (.v (.slice none 0 0)):=by
 rw[cL Tryz.func76 rfl aO5 rfl];have hd:(decide (0≤i) && decide (i<ns.length))=false:=by
  rw[← Bool.not_eq_true];simpa using h
 simp only[ZZ,seval,SR,hd];exact bX rfl (by simp only[EV,seval]) (.v _)
theorem c76 (ns:List Node) (hu:iB ns) (hn:(ns.length:Int)<1000000):∀(k:Nat) (i:Int),i.toNat=k→0≤i→i<ns.length→aD Tryz.prog 76 [.agg (cU ⟨ns⟩),.v (.int .i64 i)]=some (.uniq 3 1 (path ns i).length (aJ (path ns i))):=by
 intro k;induction k using Nat.strongRecOn with
 | _ k ih =>
   intro i hk i0 i1;have hd:(decide (0≤i) && decide (i<ns.length))=true:=by simp[i0,i1]
   rw[cL Tryz.func76 rfl aO5 rfl];by_cases hi:i=0
   ·subst hi;simp only[ZZ,seval,SR,hd,i1,beq_self_eq_true];exact tD rfl (by simp only[EV,seval];rfl) (by simp only[EV,seval,rR (show 0<ns.length by omega)];rfl) (gD _)
   ·obtain⟨u0,u1⟩:=hu i (by omega) i1
    have hq:(i == 0)=false:=by simp[hi]
    have hr:=ih (nd ns i).up.toNat (by omega) _ rfl u0 (by omega)
    have hc:∀(st:St) (d:Nat),aN (aD Tryz.prog) 76 [.agg (cU ⟨ns⟩),.v (.int .i64 (nd ns i).up)] st (some d)=some { dst:=some d,val:=.own d (st.aO d),new:=some (d,[.row 3 1 (path ns (nd ns i).up).length (aJ (path ns (nd ns i).up))])}:=fun st d=>jE (bI (nC _) (.v _)) hr
    have hl:((path ns (nd ns i).up).length:Int)<1000000:=by have:=Av hu (nd ns i).up;omega
    simp only[ZZ,seval,SR,hd,hq,i0,i1,hc,hl];exact tD rfl (by simp only[EV,seval];rfl) (by simp only[EV,seval,rS hu (show 0<i by omega) i1]) (gD _)
theorem k76 (ns:List Node) (hu:iB ns) (hn:(ns.length:Int)<1000000) (i:Int) (i0:0≤i) (i1:i<ns.length) (st:St) (d:Nat):aN (aD Tryz.prog) 76 [.agg (cU ⟨ns⟩),.v (.int .i64 i)] st (some d)=some { dst:=some d,val:=.own d (st.aO d),new:=some (d,[.row 3 1 (path ns i).length (aJ (path ns i))])}:=jE (bI (nC _) (.v _)) (c76 ns hu hn _ i rfl i0 i1)
theorem z8 (ns:List Node) (i:Int) (h:¬(0≤i∧i<ns.length)) (st:St) (d:Option Nat):aN (aD Tryz.prog) 76 [.agg (cU ⟨ns⟩),.v (.int .i64 i)] st d=some { dst:=d,val:=.v (.slice none 0 0)}:=bL (bI (nC _) (.v _)) (aWh ns i h) (.v _)
def Aw (ns:List Node) (a b:Int):Bool:=decide (a∈path ns b)
theorem c47 (ns:List Node) (hu:iB ns) (hn:(ns.length:Int)<1000000) (a b:Int):aD Tryz.prog 47 [.agg (cU ⟨ns⟩),.v (.int .i64 a),.v (.int .i64 b)]=some (.v (.bool (Aw ns a b))):=by
 rw[cL Tryz.func47 rfl aWc rfl];by_cases hb:0≤b∧b<ns.length
 ·have hl:((path ns b).length:Int)<1000000:=by have:=Av hu b;omega
  simp only[ZZ,seval,k76 ns hu hn b hb.1 hb.2,q49,k49,hl];exact bX rfl (by simp only[EV,seval,Aw]) (.v _)
 ·simp only[ZZ,seval,z8 ns b hb,q49,aWg];exact bX rfl (by simp only[EV,seval,Aw,yN hb,List.not_mem_nil,decide_false]) (.v _)
theorem Nc (ns:List Node) (hu:iB ns) (hn:(ns.length:Int)<1000000) (a b:Int) (st:St) (d:Option Nat):aN (aD Tryz.prog) 47 [.agg (cU ⟨ns⟩),.v (.int .i64 a),.v (.int .i64 b)] st d=some { dst:=d,val:=.v (.bool (Aw ns a b))}:=bL (oE (nC _) (.v _) (.v _)) (c47 ns hu hn a b) (.v _)
end Go.Ab.Tryz
