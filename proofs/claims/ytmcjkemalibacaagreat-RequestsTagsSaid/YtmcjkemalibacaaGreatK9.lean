/-
  Part 9 of the proof: an evaluator of programs, its soundness, and what functions of this program compute.
-/
import Derived.Test.YtmcjkemalibacaaGreatK8
import Derived.Test.YtmcjkemalibacaaGreatK5
set_option linter.all false
set_option maxRecDepth 20000
set_option maxHeartbeats 40000000
section
namespace Go.Ab
open Classical
instance:Inhabited Node:=⟨YC⟩
def nd (ns:List Node) (i:Int):Node:=ns.getD i.toNat YC
def it (l:List Int) (i:Int):Int:=l.getD i.toNat 0
theorem Ge {ns:List Node} {i:Int} (h0:0≤i) (h1:i<ns.length):∃h:i.toNat<ns.length,nd ns i=ns[i.toNat]:=by
 have h:i.toNat<ns.length:=by omega
 exact⟨h,by simp[nd,h]⟩
theorem wI {l:List Int} {i:Int} (h0:0≤i) (h1:i<l.length):∃h:i.toNat<l.length,it l i=l[i.toNat]:=by
 have h:i.toNat<l.length:=by omega
 exact⟨h,by simp[it,h]⟩
theorem PX (l:List Int):aJ l=l.map fun x=>.v (.int .i64 x):=by
 induction l with
 | nil=>rfl
 | cons a l ih=>simp only[aJ,List.flatMap_cons,List.map_cons,pK] at *;rw[ih];rfl
theorem JW (l:List Int):bD l=l.map fun x=>.v (.int .u64 x):=by
 induction l with
 | nil=>rfl
 | cons a l ih=>simp only[bD,List.flatMap_cons,List.map_cons,rV] at *;rw[ih];rfl
theorem C3 (a b:List Int):aJ (a++b)=aJ a++aJ b:=by simp[aJ]
theorem Zn (a b:List Node):bZ (a++b)=bZ a++bZ b:=by simp[bZ]
theorem l6 (l:List Int):∀c∈aJ l,fF c:=by rw[PX];intro c hc;obtain⟨x,_,rfl⟩:=List.mem_map.1 hc;exact .v _
theorem C4 {l:List Int} {i:Int} (h0:0≤i) (h1:i<l.length):(aJ l)[i.toNat]? = some (.v (.int .i64 (it l i))):=by
 obtain⟨h,e⟩:=wI h0 h1
 rw[PX,List.getElem?_map,List.getElem?_eq_getElem h,e];rfl
theorem l5 {l:List Int} {i:Int} (h0:0≤i) (h1:i<l.length):(bD l)[i.toNat]? = some (.v (.int .u64 (it l i))):=by
 obtain⟨h,e⟩:=wI h0 h1
 rw[JW,List.getElem?_map,List.getElem?_eq_getElem h,e];rfl
theorem VS {ns:List Node} {i:Int} (h0:0≤i) (h1:i<ns.length):((bZ ns).drop (i.toNat * 240)).take 240=fW (nd ns i):=by
 obtain⟨h,e⟩:=Ge h0 h1
 rw[e,← B0 ns i.toNat h];rfl
theorem JE:((1:Nat)=0)=False:=by simp
theorem JF:((0:Nat)=1)=False:=by simp
theorem cO {x:AV} (h:Flat x):∀y∈[x],Flat y:=by simpa using h
theorem bI {x y:AV} (h:Flat x) (h':Flat y):∀z∈[x,y],Flat z:=by simp[h,h']
theorem mC {x y u:AV} (h:Flat x) (h':Flat y) (h2:Flat u):∀z∈[x,y,u],Flat z:=by simp[h,h',h2]
theorem nG (t:Tree):Flat (.agg (cP t)):=.agg _ (Xd t)
theorem tZ (t:Block):Flat (.agg (aT t)):=.agg _ (Aq t)
theorem pZ (t:cC):Flat (.agg (aV t)):=.agg _ (dD t)
theorem Po (l:List Int):Flat (.sl l.length (aJ l)):=.sl _ _ (fG l)
theorem aCV (st:St) (n:Nat) (cs:List AV):aQ st (.sl n cs)=some (n,cs):=rfl
theorem Y9 (st:St):aQ st (.v (.slice none 0 0))=some (0,[]):=rfl
theorem aHe (x:Int):pK x=[.v (.int .i64 x)]:=rfl
theorem aHf (x:Int):rV x=[.v (.int .u64 x)]:=rfl
theorem aCW (x:Bool):uF x=[.v (.bool x)]:=rfl
namespace Tryz
open Go.Proofs
theorem aMo (st:St) {ns:List Node} {k:IntKind} {i:Int} (h0:0≤i) (h1:i<ns.length):bB Tryz.prog st 48 (.sl ns.length (bZ ns)) (.v (.int k i))=some (.ip (fW (nd ns i)) 0):=by
 have hl:i.toNat<ns.length:=by omega
 have:i.toNat * 240+240≤ns.length * 240:=by rw[← Nat.succ_mul];exact Nat.mul_le_mul_right _ hl
 simp only[bB,aHc,PV,h0,h1,Kl,this,and_self,if_true,VS h0 h1]
theorem aDB (st:St) {l:List Int} {k:IntKind} {i:Int} (h0:0≤i) (h1:i<l.length):bB Tryz.prog st 22 (.sl l.length (aJ l)) (.v (.int k i))=some (.ip (pK (it l i)) 0):=by
 obtain⟨h,e⟩:=wI h0 h1
 have:i.toNat * 1+1≤l.length * 1:=by omega
 have hr:=V8 l i.toNat h
 simp only[bB,aCU,Kg,h0,h1,Iq,this,and_self,if_true,e,← hr];rfl
theorem Z0 {call:Nat→List AV→Option AV} {ops:Array Oper} {st:St} {d:Option Nat} {T:Nat} {pos:String} {eG:Array Edge} (g:Nat) (args:Array Operand) (rL:Array Nat) (h:(g == 215 || g == 226 || g == 227 || g == 229 || g == 228 || g == 230 || g == 231 || g == 210 || g == 81 || g == 217 || g == 222 || g == 235 || g == 220 || g == 101 || g == 57 || g == 32 || (g == 43 && d == some 72) || (g == 31 && d == some 40))=false) :
 cB Tryz.prog call ops ⟨d,.call ⟨.value (.func g),args,rL⟩,T,pos,eG,none⟩ st=cH (aP call g (args.toList.map st.ev) st d) fun e=>some (e.apply st):=by
 simp only[Bool.or_eq_false_iff] at h;exact aB2 g args rL (aCy (by simp only[h,Bool.or_self])) (Y1 (by simp only[h,Bool.or_self]))
theorem C5 {call:Nat→List AV→Option AV} {ops:Array Oper} {st:St} {d:Option Nat} {T:Nat} {pos:String} {eG:Array Edge} (g:Nat) (args:Array Operand) (rL:Array Nat) (h:(g == 215 || g == 226 || g == 227 || g == 229 || g == 228 || g == 230 || g == 231 || g == 210 || g == 81)=true) :
 cB Tryz.prog call ops ⟨d,.call ⟨.value (.func g),args,rL⟩,T,pos,eG,none⟩ st=cH (kU call g (args.toList.map st.ev) st d) fun e=>some (e.apply st):=T8 g args rL (YF h)
theorem MH {call:Nat→List AV→Option AV} {ops:Array Oper} {st:St} {d:Option Nat} {T:Nat} {pos:String} {eG:Array Edge} (g:Nat) (args:Array Operand) (rL:Array Nat) (h:(g == 217 || g == 222 || g == 235 || g == 220 || g == 101 || g == 57 || g == 32 || (g == 43 && d == some 72) || (g == 31 && d == some 40))=true) :
 cB Tryz.prog call ops ⟨d,.call ⟨.value (.func g),args,rL⟩,T,pos,eG,none⟩ st=cH (eE call g (args.toList.map st.ev) st d) fun e=>some (e.apply st):=by
 refine UJ g args rL ?_ (Y2 h)
 simp only[Bool.or_eq_true,Bool.and_eq_true,beq_iff_eq] at h;rcases h with (((((((h|h)|h)|h)|h)|h)|h)|⟨h,_⟩)|⟨h,_⟩<;>(subst h;rfl)
theorem aMp {S d:Nat} (h:((S == 54 && (d == 36 || d == 42 || d == 26)) || (S == 45 && (d == 84 || d == 91)))=false):Ext.va S d=false:=YD (by
 simp only[Bool.or_eq_false_iff,Bool.and_eq_false_iff] at h ⊢;exact h.1.imp id fun h=>h.2)
theorem aMq {S d:Nat} (h:((S == 54 && (d == 36 || d == 42 || d == 26)) || (S == 45 && (d == 84 || d == 91)))=false):Ext.pa S d=false:=aCx (by
 simp only[Bool.or_eq_false_iff,Bool.and_eq_false_iff] at h ⊢;exact⟨h.1.imp id fun h=>h.1,h.2⟩)
theorem Z1 {S d:Nat} (h:((S == 54 && (d == 36 || d == 42)) || (S == 45 && (d == 84 || d == 91)))=true):Ext.va S d=false:=YD (by
 by_cases h2:d=26
 ·subst h2;simp at h
 ·simp[h2])
theorem aCX {call:Nat→List AV→Option AV} {ops:Array Oper} {st:St} {T:Nat} {pos:String} {eG:Array Edge} (s x:Operand) (S d:Nat) (h:((S == 54 && (d == 36 || d == 42 || d == 26)) || (S == 45 && (d == 84 || d == 91)))=false):cB Tryz.prog call ops ⟨some d,.call ⟨.builtin .append,#[s,x],#[S,S]⟩,T,pos,eG,none⟩ st=cH (cX Tryz.prog st S (st.ev s) (st.ev x)) fun ur =>
 some (((match ur.1 with|some p=>st.jE p.1 p.2 none|none=>st).new d ur.2).put (some d) (.own d (st.aO d))):=UL s x S d (aMp h) (aMq h)
theorem iC {call:Nat→List AV→Option AV} {ops:Array Oper} {st:St} {T:Nat} {pos:String} {eG:Array Edge} (s x:Operand) (S d:Nat) (h:((S == 54 && (d == 36 || d == 42)) || (S == 45 && (d == 84 || d == 91)))=true) (hn:¬(st.ev s=.v (.slice none 0 0)∧(aQ st (st.ev x)).map Prod.fst=some 0)):cB Tryz.prog call ops ⟨some d,.call ⟨.builtin .append,#[s,x],#[S,S]⟩,T,pos,eG,none⟩ st=cH (cX Tryz.prog st S (st.ev s) (st.ev x)) fun ur =>
 some (((match ur.1 with|some p=>st.jE p.1 p.2 none|none=>st).new d ur.2).put (some d) (.own d (st.aO d))):=U0 s x S d (Z1 h) (YE h) hn
theorem iB {call:Nat→List AV→Option AV} {ops:Array Oper} {st:St} {T:Nat} {pos:String} {eG:Array Edge} (s x:Operand) (S d:Nat) (h:((S == 54 && (d == 36 || d == 42)) || (S == 45 && (d == 84 || d == 91)))=true) (hi:(dK Tryz.prog S).isSome=true) (h1:st.ev s=.v (.slice none 0 0)) (h2:(aQ st (st.ev x)).map Prod.fst=some 0):cB Tryz.prog call ops ⟨some d,.call ⟨.builtin .append,#[s,x],#[S,S]⟩,T,pos,eG,none⟩ st=some (st.put (some d) (.v (.slice none 0 0))):=U1 s x S d (Z1 h) (YE h) hi h1 h2
end Tryz
end Go.Ab
end
section
namespace Go.Ab
open Classical
noncomputable def rO (call:Nat→List AV→Option AV) (g:Nat) (xs:Option (List AV)) (fl:Bool) (st:St) (d:Option Nat):Option qR :=
 cH xs fun xs=>cH (call g xs) fun r=>if fl=true∨Us r then iR r st d else none
theorem Ce {st:St}:∀(args:List AV),(∀x∈args,Flat x)→cF (args.map (eT st))=some args
 | [],_=>rfl
 | x :: xs,h=>by
   simp only[List.map_cons,dL (h x (by simp)),cF,Ce xs fun y hy=>h y (by simp[hy]),Option.map_some]
theorem lC (call:Nat→List AV→Option AV) (g:Nat) (args:List AV) (st:St) (d:Option Nat):aP call g args st d=rO call g (cF (args.map (eT st))) (decide (∀x∈args,Flat x)) st d:=by
 unfold aP rO;by_cases h:∀x∈args,Flat x
 ·rw[if_pos h,Ce args h];have hd:decide (∀x∈args,Flat x)=true:=decide_eq_true h
  rw[hd];simp only[cT,true_or,if_true]
 ·rw[if_neg h];cases cF (args.map (eT st)) with
  | none=>rfl
  | some xs =>
    have hd:decide (∀x∈args,Flat x)=false:=decide_eq_false h
    rw[hd];simp only[cT,Bool.false_eq_true,false_or]
theorem ZF {call:Nat→List AV→Option AV} {g:Nat} {xs:List AV} {r:AV} {fl:Bool} {st:St} {d:Option Nat} (h:call g xs=some r) (hr:Us r) (hf:Flat r):rO call g (some xs) fl st d=some { dst:=d,val:=r }:=by
 unfold rO;simp only[cT,h,hr,or_true,if_true,iR,if_pos hf]
theorem FU {call:Nat→List AV→Option AV} {g:Nat} {xs:List AV} {b:Bool} {fl:Bool} {st:St} {d:Option Nat} (h:call g xs=some (.v (.bool b))):rO call g (some xs) fl st d=some { dst:=d,val:=.v (.bool b)}:=ZF h (.v _) (.v _)
theorem Vl {call:Nat→List AV→Option AV} {g:Nat} {xs:List AV} {k:IntKind} {b:Int} {fl:Bool} {st:St} {d:Option Nat} (h:call g xs=some (.v (.int k b))):rO call g (some xs) fl st d=some { dst:=d,val:=.v (.int k b)}:=ZF h (.v _) (.v _)
theorem J3 {call:Nat→List AV→Option AV} {g:Nat} {xs:List AV} {e sz n:Nat} {cs:List AV} {fl:Bool} {st:St} {d:Nat} (h:call g xs=some (.uniq e sz n cs)) (hr:∀c∈cs,fF c):rO call g (some xs) fl st (some d)=some { dst:=some d,val:=.own d (st.aO d),new:=some (d,[.row e sz n cs])}:=by
 have WQ:Us (.uniq e sz n cs):=hr
 have hnf:¬Flat (.uniq e sz n cs):=by intro h;cases h
 unfold rO;simp only[cT,h,WQ,or_true,if_true,iR,if_neg hnf];rfl
noncomputable def iX (o:Option mI):Option AV :=
 match o with
 | some (.row _ _ n cs)=>if ∀c∈cs,Flat c then some (.sl n cs) else none
 | _=>none
theorem uT (st:St) (s g:Nat):eT st (.own s g)=iX (st.heap s g):=by
 unfold eT cI iX;rw[if_neg (mK s g)];simp only[if_neg (mK s g)];cases st.heap s g with
 | none=>rfl
 | some e=>cases e<;>rfl
theorem C6 (e sz n:Nat) (l:List Int):iX (some (.row e sz n (aJ l)))=some (.sl n (aJ l)):=by
 unfold iX;simp only;rw[if_pos (fG l)]
theorem C7 (e sz n:Nat) (l:List Int):iX (some (.row e sz n (bD l)))=some (.sl n (bD l)):=by
 unfold iX;simp only;rw[if_pos (gV l)]
theorem VT (e sz n:Nat) (l:List Node):iX (some (.row e sz n (bZ l)))=some (.sl n (bZ l)):=by
 unfold iX;simp only;rw[if_pos (jQ l)]
theorem PY (e sz:Nat) (x:Node):iX (some (.row e sz 1 (fW x)))=some (.sl [x].length (bZ [x])):=by
 unfold iX;simp only;rw[if_pos (Kk x)];simp[bZ]
theorem Pw (st:St) (x:Value):eT st (.v x)=some (.v x):=dL (.v x)
theorem Ii (st:St) (t:Tree):eT st (.agg (cP t))=some (.agg (cP t)):=dL (nG t)
theorem Qb (st:St) (t:cC):eT st (.agg (aV t))=some (.agg (aV t)):=dL (pZ t)
theorem Kr (st:St) (t:Block):eT st (.agg (aT t))=some (.agg (aT t)):=dL (tZ t)
theorem Z2 (st:St) (n:Nat) (l:List Int):eT st (.sl n (aJ l))=some (.sl n (aJ l)):=dL (.sl _ _ (fG l))
theorem Z3 (st:St) (n:Nat) (l:List Int):eT st (.sl n (bD l))=some (.sl n (bD l)):=dL (.sl _ _ (gV l))
theorem aCY (st:St):eT st (.agg [.v (.slice none 0 0)])=some (.agg [.v (.slice none 0 0)]):=dL (.agg _ (by simp;exact .v _))
theorem gC {α:Type}:cF ([]:List (Option α))=some []:=rfl
theorem bK {α:Type} (x:α) (r:List (Option α)):cF (some x :: r)=(cF r).map (x :: ·):=rfl
theorem aCZ (x:Int):wH 3 1 8 (some (1,[.v (.int .i64 x)]))=some (none,.row 3 1 [x].length (aJ [x])):=by
 simp[wH,maxLen];rfl
theorem aC0 (l:List Int) (x:Int) (s g:Nat) (h:(l.length:Int)<1000000):wS 3 1 8 (some (.row 3 1 l.length (aJ l))) s g (some (1,[.v (.int .i64 x)]))=some (some (s,g),.row 3 1 (l++[x]).length (aJ (l++[x]))):=by
 simp only[wS];rw[if_pos ⟨by simp,by simp,by simp,by omega,by simp only[maxLen];omega⟩,C3]
 simp[aJ,pK]
theorem Z4 (x:Node):wH 76 240 352 (some (1,fW x))=some (none,.row 76 240 [x].length (bZ [x])):=by
 simp[wH,maxLen,bZ]
theorem Z5 (l:List Node) (x:Node) (s g:Nat) (h:(l.length:Int)<1000000):wS 76 240 352 (some (.row 76 240 l.length (bZ l))) s g (some (1,fW x))=some (some (s,g),.row 76 240 (l++[x]).length (bZ (l++[x]))):=by
 simp only[wS];rw[if_pos ⟨by simp,by simp,by simp,by omega,by simp only[maxLen];omega⟩,Zn]
 simp[bZ]
theorem Z6 (l:List Node) (h:(l.length:Int)<1000000):wH 76 240 352 (some (l.length,bZ l))=some (none,.row 76 240 l.length (bZ l)):=by
 simp only[wH];rw[if_pos (by refine⟨by simp, ?_, ?_⟩<;>(try simp only[maxLen])<;>omega)]
theorem Z7 (l:List Node) (h:(l.length:Int)<1000000):acE 76 240 352 0 [] (some (l.length,bZ l))=some (none,.row 76 240 l.length (bZ l)):=by
 simp only[acE];rw[if_pos ⟨by simp,by simp,by simp,by omega,by simp only[maxLen];omega⟩]
 simp
theorem Z9 (l:List Node) (x:Node) (h:(l.length:Int)<1000000):acE 76 240 352 l.length (bZ l) (some (1,fW x))=some (none,.row 76 240 (l++[x]).length (bZ (l++[x]))):=by
 simp only[acE];rw[if_pos (by refine⟨by simp,by simp,.inr (by omega), ?_, ?_⟩<;>(try simp only[maxLen])<;>omega),Zn]
 simp[bZ]
def onI {α:Type} (x:AV) (k:Int→Option α):Option α :=
 match x with
 | .v (.int .i64 v)=>k v
 | _=>none
def aEr {α:Type} (z:Nat) (x:AV) (k:List AV→Option α):Option α :=
 match x with
 | .agg cs=>if cs.length=z then k cs else none
 | _=>none
@[congr] theorem aH2 {α:Type} {x y:AV} {k:Int→Option α} (h:x=y):onI x k=onI y k:=by rw[h]
@[congr] theorem aEs {α:Type} {z:Nat} {x y:AV} {k:List AV→Option α} (h:x=y):aEr z x k=aEr z y k:=by rw[h]
def Kh {α:Type} (x:AV) (k:Int→Option α) (fb:Option α):Option α :=
 match x with
 | .v (.int .i64 v)=>k v
 | _=>fb
def PZ {α:Type} (z:Nat) (x:AV) (k:List AV→Option α) (fb:Option α):Option α :=
 match x with
 | .agg cs=>if cs.length=z then k cs else fb
 | _=>fb
def QA {α:Type} (x:AV) (k:Nat→List AV→Option α) (fb:Option α):Option α :=
 match x with
 | .Bp g cs=>k g cs
 | _=>fb
theorem aC1 {α:Type} (v:Int) (k:Int→Option α) (fb:Option α):Kh (.v (.int .i64 v)) k fb=k v:=rfl
theorem C8 {α:Type} (z:Nat) (cs:List AV) (k:List AV→Option α) (fb:Option α) (h:cs.length=z):PZ z (.agg cs) k fb=k cs:=if_pos h
theorem C9 {α:Type} (g:Nat) (cs:List AV) (k:Nat→List AV→Option α) (fb:Option α):QA (.Bp g cs) k fb=k g cs:=rfl
@[congr] theorem aH3 {α:Type} {x y:AV} {k:Int→Option α} {fb:Option α} (h:x=y):Kh x k fb=Kh y k fb:=by rw[h]
@[congr] theorem aEt {α:Type} {z:Nat} {x y:AV} {k:List AV→Option α} {fb:Option α} (h:x=y):PZ z x k fb=PZ z y k fb:=by rw[h]
@[congr] theorem aEu {α:Type} {x y:AV} {k:Nat→List AV→Option α} {fb:Option α} (h:x=y):QA x k fb=QA y k fb:=by rw[h]
namespace Tryz
open Go.Proofs
theorem D0 (st:St) (x:AV):cX Tryz.prog st 22 (.v (.slice none 0 0)) x=wH 3 1 8 (aQ st x):=sC Kg x
theorem D1 (st:St) (s g:Nat) (x:AV):cX Tryz.prog st 22 (.own s g) x=wS 3 1 8 (st.heap s g) s g (aQ st x):=sD Kg s g x
theorem D2 (st:St) (x:AV):cX Tryz.prog st 48 (.v (.slice none 0 0)) x=wH 76 240 352 (aQ st x):=sC PV x
theorem D3 (st:St) (s g:Nat) (x:AV):cX Tryz.prog st 48 (.own s g) x=wS 76 240 352 (st.heap s g) s g (aQ st x):=sD PV s g x
theorem aAa (st:St) (n:Nat) (cs:List AV) (x:AV):cX Tryz.prog st 48 (.cl n cs) x=acE 76 240 352 n cs (aQ st x):=aFN PV n cs x
theorem D4 (st:St) (s g:Nat) (k:IntKind) (i:Int):bB Tryz.prog st 22 (.own s g) (.v (.int k i))=OJ 3 1 (st.heap s g) s g i:=by
 simp only[bB,aCU,Kg,OJ];cases st.heap s g with
 | none=>rfl
 | some e=>cases e<;>rfl
theorem D5 (st:St) (s g:Nat) (k:IntKind) (i:Int):bB Tryz.prog st 48 (.own s g) (.v (.int k i))=OJ 76 240 (st.heap s g) s g i:=by
 simp only[bB,aHc,PV,OJ];cases st.heap s g with
 | none=>rfl
 | some e=>cases e<;>rfl
theorem aC2 (l:List Int) (s g:Nat) (i:Int) (h0:0≤i) (h1:i<l.length):OJ 3 1 (some (.row 3 1 l.length (aJ l))) s g i=some (.ptr s g i.toNat):=by
 simp[OJ,h0,h1]
theorem aAb (l:List Node) (s g:Nat) (i:Int) (h0:0≤i) (h1:i<l.length):OJ 76 240 (some (.row 76 240 l.length (bZ l))) s g i=some (.ptr s g (i.toNat * 240)):=by
 simp[OJ,h0,h1]
theorem QB (st:St) (s g:Nat):eT st (.agg [.own s g])=(iX (st.heap s g)).map fun y=>.agg [y]:=by
 have hn:¬Flat (.agg [.own s g]):=by intro h;cases h with|agg _ h=>exact mK s g (h _ (by simp))
 unfold eT iX;rw[if_neg hn];simp only[List.map_cons,List.map_nil];unfold cI;rw[if_neg (mK s g)];simp only
 cases st.heap s g with
 | none=>rfl
 | some e=>cases e with
   | row a b n cs =>
     by_cases h:∀c∈cs,Flat c
     ·simp only[if_pos h,cF,Option.map_some]
     ·simp only[if_neg h,cF,Option.map_none]
   | _=>rfl
theorem aHg (x:AV):rd [x] 0 1=[x]:=rfl
theorem aHh (x y:AV):dJ [x] 0 [y] 1=[y]:=rfl
theorem aAc (x:AV) (t:Tree):dJ [x] 0 (cP t) 1=cP t:=rfl
theorem aAd (x:AV) (t:Tree):dJ (cP t) 0 [x] 1=[x]:=rfl
theorem oR {l:List Int} {i:Int} (h0:0≤i) (h1:i<l.length):(aJ l)[i.toNat]? = some (.v (.int .i64 (it l i))):=C4 h0 h1
def vow (o:Option mI):Option (Nat × List AV) :=
 match o with
 | some (.row _ _ n cs)=>some (n,cs)
 | _=>none
theorem aC3 (e sz n:Nat) (cs:List AV):vow (some (.row e sz n cs))=some (n,cs):=rfl
theorem D6 (st:St) (s g:Nat):aQ st (.own s g)=vow (st.heap s g):=by
 simp only[aQ,vow];cases st.heap s g with
 | none=>rfl
 | some o=>cases o<;>rfl
section
variable {call:Nat→List AV→Option AV} {ops:Array Oper} {st:St} {T:Nat} {pos:String} {eG:Array Edge}
theorem aC4 (d:Nat) (x:Operand) {v:Int} (h:st.ev x=.v (.int .i64 v)):cB Tryz.prog call ops ⟨some d,.buildSlice 22 1 #[(0,x)],T,pos,eG,none⟩ st=some ((st.new d (.row 3 1 1 [.v (.int .i64 v)])).put (some d) (.own d (st.aO d))):=by
 rw[kE];simp[Kg,ze3,cH,h,AV.jG,Value.oneCell',gJ,AV.cells]
theorem aC5 (d:Nat) (x:Operand) {cs:List AV} (h:st.ev x=.agg cs) (hl:cs.length=240):cB Tryz.prog call ops ⟨some d,.buildSlice 48 1 #[(0,x)],T,pos,eG,none⟩ st=some ((st.new d (.row 76 240 1 cs)).put (some d) (.own d (st.aO d))):=by
 rw[kE];have hz:(Yl.map AV.v).length=240:=by rw[HS];simp
 simp only[PV,aGj,cH,List.toList_toArray,List.all_cons,List.all_nil,h,AV.jG,Bool.and_self,List.map_cons,List.map_nil,gJ,AV.cells,hl,Nat.zero_mul,Nat.zero_add,true_and,List.take_zero,List.nil_append];have h2:((List.range 1).flatMap fun _=>Yl.map AV.v)=Yl.map AV.v:=by simp[List.range,List.range.loop]
 rw[h2,if_pos (by simp),if_pos (by rw[hz];exact Nat.le_refl _)]
 rw[List.drop_of_length_le (by rw[hz];exact Nat.le_refl _),List.append_nil]
theorem aAe (d:Nat) (x:Operand):cB Tryz.prog call ops ⟨some d,.buildSlice 22 1 #[(0,x)],T,pos,eG,none⟩ st =
 Kh (st.ev x) (fun v=>some ((st.new d (.row 3 1 1 [.v (.int .i64 v)])).put (some d) (.own d (st.aO d)))) (cB Tryz.prog call ops ⟨some d,.buildSlice 22 1 #[(0,x)],T,pos,eG,none⟩ st):=by
 unfold Kh;split
 ·rename_i v h;exact aC4 d x h
 ·rfl
theorem D7 (d:Nat) (x y z:Operand) {a b c:Int} (h1:st.ev x=.v (.int .i64 a)) (h2:st.ev y=.v (.int .i64 b)) (h3:st.ev z=.v (.int .i64 c)):cB Tryz.prog call ops ⟨some d,.buildSlice 22 3 #[(0,x),(1,y),(2,z)],T,pos,eG,none⟩ st =
 some ((st.new d (.row 3 1 [a,b,c].length (aJ [a,b,c]))).put (some d) (.own d (st.aO d))):=by
 rw[kE];simp[Kg,ze3,cH,h1,h2,h3,AV.jG,Value.oneCell',gJ,AV.cells,List.range,List.range.loop,aJ,pK]
theorem VU (d:Nat) (x y z:Operand):cB Tryz.prog call ops ⟨some d,.buildSlice 22 3 #[(0,x),(1,y),(2,z)],T,pos,eG,none⟩ st =
 Kh (st.ev x) (fun a=>Kh (st.ev y) (fun b=>Kh (st.ev z) (fun c=>some ((st.new d (.row 3 1 [a,b,c].length (aJ [a,b,c]))).put (some d) (.own d (st.aO d)))) (cB Tryz.prog call ops ⟨some d,.buildSlice 22 3 #[(0,x),(1,y),(2,z)],T,pos,eG,none⟩ st))
  (cB Tryz.prog call ops ⟨some d,.buildSlice 22 3 #[(0,x),(1,y),(2,z)],T,pos,eG,none⟩ st)) (cB Tryz.prog call ops ⟨some d,.buildSlice 22 3 #[(0,x),(1,y),(2,z)],T,pos,eG,none⟩ st):=by
 unfold Kh;split
 ·rename_i a h1;try dsimp only
  split
  ·rename_i b h2;try dsimp only
   split
   ·rename_i c h3;exact D7 d x y z h1 h2 h3
   ·rfl
  ·rfl
 ·rfl
theorem aAf (d:Nat) (x:Operand):cB Tryz.prog call ops ⟨some d,.buildSlice 48 1 #[(0,x)],T,pos,eG,none⟩ st =
 PZ 240 (st.ev x) (fun cs=>some ((st.new d (.row 76 240 1 cs)).put (some d) (.own d (st.aO d)))) (cB Tryz.prog call ops ⟨some d,.buildSlice 48 1 #[(0,x)],T,pos,eG,none⟩ st):=by
 unfold PZ;split
 ·rename_i cs h;split
  ·rename_i hl;exact aC5 d x h hl
  ·rfl
 ·rfl
theorem CF (S d:Nat) (l c:Operand):cB Tryz.prog call ops ⟨some d,.makeSlice S l c,T,pos,eG,none⟩ st =
 Kh (st.ev l) (fun n=>Kh (st.ev c) (fun m=>if 0≤n∧n=m then (cH (dK Tryz.prog S) fun t=>cH (dS Tryz.prog t.1) fun z =>
  if n * t.2.2≤140737488355328∧n≤maxLen then some ((st.new d (.row t.1 t.2.1 n.toNat ((List.range n.toNat).flatMap fun _=>z.map .v))).put (some d) (.own d (st.aO d))) else none)
  else cB Tryz.prog call ops ⟨some d,.makeSlice S l c,T,pos,eG,none⟩ st) (cB Tryz.prog call ops ⟨some d,.makeSlice S l c,T,pos,eG,none⟩ st)) (cB Tryz.prog call ops ⟨some d,.makeSlice S l c,T,pos,eG,none⟩ st):=by
 unfold Kh;split
 ·rename_i n hl;split
  ·rename_i m hc;dsimp only
   split
   ·rename_i hnm;obtain⟨h0,rfl⟩:=hnm
    have hn:n=(n.toNat:Int):=by omega
    rw[HK S d l c (n:=n.toNat) (by rw[hl,← hn]) (by rw[hc,← hn]),← hn]
   ·rfl
  ·rfl
 ·rfl
theorem D8 (t:Nat) (args:Array Operand) (rL:Array Nat) (d:Option Nat):cB Tryz.prog call ops ⟨d,.call ⟨.value (.tmp t),args,rL⟩,T,pos,eG,none⟩ st =
 QA (st.env t) (fun g oI=>cH (aP call g (args.toList.map st.ev++oI) st d) fun e=>some (e.apply st)) (cB Tryz.prog call ops ⟨d,.call ⟨.value (.tmp t),args,rL⟩,T,pos,eG,none⟩ st):=by
 unfold QA;split
 ·rename_i g oI h;exact T9 t args rL h
 ·rfl
end
end Tryz
end Go.Ab
end
namespace Go.Ab
open Classical
theorem aC6 (b:Bool):unA .not (.v (.bool b))=some (.v (.bool (!b))):=rfl
theorem aC7 (k:IntKind) (n:Int):unA .neg (.v (.int k n))=some (.v (.int k (k.wrap (0-n)))):=rfl
theorem aC8 (k:IntKind) (n:Int):unA .xor (.v (.int k n))=some (.v (.int k (k.wrap (BitVec.ofInt k.bits (if k.signed then -1 else k.max) ^^^ BitVec.ofInt k.bits n).toNat))):=rfl
def aAg (a b:Option IntKind) (n:Int):Option AV :=
 match a,b with
 | some k,some _=>some (.v (.int k (k.wrap n)))
 | _,_=>none
theorem VV (k k':IntKind) (n:Int):aAg (some k) (some k') n=some (.v (.int k (k.wrap n))):=rfl
theorem D9 (P:Program) (s d:Nat) (k:IntKind) (n:Int):NP P s d (.v (.int k n))=aAg (intKind P d) (intKind P s) n:=by
 simp only[NP,aAg];cases intKind P d with
 | none=>rfl
 | some a=>cases intKind P s<;>rfl
theorem aC9 (s g o k:Nat):uL (.ptr s g o) k=some (.ptr s g (o+k)):=rfl
theorem aHi (cs:List AV) (o k:Nat):uL (.ip cs o) k=if o+k≤cs.length then some (.ip cs (o+k)) else none:=rfl
def uC (P:Program) (T:Nat) (e:Option mI) (o:Nat):Option AV :=
 match e with
 | some (.cells cs)=>fD P T cs o
 | some (.row _ _ _ cs)=>fD P T cs o
 | _=>none
theorem QC (P:Program) (T o:Nat) (cs:List AV):uC P T (some (.cells cs)) o=fD P T cs o:=rfl
theorem E0 (P:Program) (T o e sz n:Nat) (cs:List AV):uC P T (some (.row e sz n cs)) o=fD P T cs o:=rfl
theorem aDa (P:Program) (st:St) (T o:Nat) (cs:List AV):Ez P st T (.ip cs o)=fD P T cs o:=rfl
theorem aAh (P:Program) (st:St) (T s g o:Nat):Ez P st T (.ptr s g o)=uC P T (st.heap s g) o:=by
 simp only[Ez,uC];cases st.heap s g with
 | none=>rfl
 | some e=>cases e<;>rfl
theorem aHj (x:Value):(AV.v x).jG=x.oneCell':=rfl
theorem aAi (cs:List AV):(AV.agg cs).jG=true:=rfl
theorem aDb (n:Nat) (cs:List AV):(AV.sl n cs).jG=true:=rfl
theorem aDc (n:Nat) (cs:List AV):(AV.cl n cs).jG=true:=rfl
theorem aDd (n:Nat) (cs:List AV):(AV.ip cs n).jG=true:=rfl
theorem aAj (s g o:Nat):(AV.ptr s g o).jG=true:=rfl
theorem aAk (s g:Nat):(AV.own s g).jG=true:=rfl
theorem aDe (s g:Nat):(AV.mp s g).jG=true:=rfl
theorem aAl (f:Nat) (cs:List AV):(AV.Bp f cs).jG=true:=rfl
theorem aMr (x:Value):(AV.v x).cells=[.v x]:=rfl
theorem aDf (cs:List AV):(AV.agg cs).cells=cs:=rfl
theorem aHk (n:Nat) (cs:List AV):(AV.sl n cs).cells=[.sl n cs]:=rfl
theorem aHl (n:Nat) (cs:List AV):(AV.cl n cs).cells=[.cl n cs]:=rfl
theorem aHm (n:Nat) (cs:List AV):(AV.ip cs n).cells=[.ip cs n]:=rfl
theorem aDg (s g o:Nat):(AV.ptr s g o).cells=[.ptr s g o]:=rfl
theorem aDh (s g:Nat):(AV.own s g).cells=[.own s g]:=rfl
theorem aHn (s g:Nat):(AV.mp s g).cells=[.mp s g]:=rfl
theorem aDi (f:Nat) (cs:List AV):(AV.Bp f cs).cells=[.Bp f cs]:=rfl
theorem aDj (k:IntKind) (n:Int):(Value.int k n).oneCell'=true:=rfl
theorem aAm (b:Bool):(Value.bool b).oneCell'=true:=rfl
theorem E1 (a:Option Addr) (n m:Nat):(Value.slice a n m).oneCell'=true:=rfl
theorem VW (id:Nat):Ex.normal.inBlock id=.normal:=rfl
theorem aDk (id:Nat):Ex.ret.inBlock id=.ret:=rfl
theorem aAn (id i:Nat):(Ex.exit i).inBlock id=if i=id then .normal else .exit i:=rfl
theorem aDl (l:List Oper) (j:Nat):YA l.toArray j=(l[j]?).bind (·.dst):=by simp[YA]
theorem gei (a b:Int):(a≥b)=(b≤a):=rfl
theorem gti (a b:Int):(a > b)=(b<a):=rfl
theorem aS0 (a b:Nat):(a≥b)=(b≤a):=rfl
theorem gtn (a b:Nat):(a > b)=(b<a):=rfl
end Go.Ab
section
namespace Go.Ab
open Classical
def cU8 (x:Int):List AV:=[.v (.int .u8 x)]
theorem aDm (x:Int):(cU8 x).length=1:=rfl
theorem aAo (s:Int):∀x∈cU8 s,Flat x:=by intro x hx;simp[cU8] at hx;subst hx;exact .v _
def jS (l:List Int):List AV:=l.flatMap cU8
theorem uU (l:List Int):∀x∈jS l,Flat x:=by
 intro x hx;obtain⟨y,_,hy⟩:=List.mem_flatMap.1 hx
 exact aAo y x hy
section
variable {α:Type} {c:α→List AV} {sz:Nat}
theorem iD (hc:∀x,(c x).length=sz) (l:List α):(l.flatMap c).length=l.length * sz:=by
 induction l with
 | nil=>simp
 | cons x l ih=>simp only[List.flatMap_cons,List.length_append,hc,List.length_cons,ih];rw[Nat.succ_mul];omega
theorem wZ (hc:∀x,(c x).length=sz):∀(l:List α) (k:Nat),(l.flatMap c).take (k * sz)=(l.take k).flatMap c
 | [],k=>by simp
 | x :: l,0=>by simp
 | x :: l,k+1=>by
   simp only[List.flatMap_cons,List.take_succ_cons];rw[List.take_append,List.take_of_length_le (by rw[hc,Nat.succ_mul];omega),hc,show (k+1) * sz-sz=k * sz by rw[Nat.succ_mul];omega,wZ hc l k]
theorem xA (hc:∀x,(c x).length=sz):∀(l:List α) (k:Nat),(l.flatMap c).drop (k * sz)=(l.drop k).flatMap c
 | [],k=>by simp
 | x :: l,0=>by simp
 | x :: l,k+1=>by
   simp only[List.flatMap_cons,List.drop_succ_cons];rw[List.drop_append,List.drop_of_length_le (by rw[hc,Nat.succ_mul];omega),List.nil_append,hc,show (k+1) * sz-sz=k * sz by rw[Nat.succ_mul];omega,xA hc l k]
theorem Kb (hc:∀x,(c x).length=sz) {z:α} {l:List α} {i:Int} (h0:0≤i) (h1:i<l.length):((l.flatMap c).drop (i.toNat * sz)).take sz=c (gx z l i):=by
 obtain⟨h,e⟩:=VE (z:=z) h0 h1
 rw[xA hc,e];have h2:=wZ hc (l.drop i.toNat) 1
 rw[Nat.one_mul] at h2;rw[h2];have h3:(l.drop i.toNat).take 1=[l[i.toNat]]:=by rw[List.take_one];simp[List.head?_drop,h]
 rw[h3];simp
theorem JG (hc:∀x,(c x).length=sz) (l:List α) (k:Nat) (x:α) (h:k<l.length):dJ (l.flatMap c) (k * sz) (c x) (k * sz+sz)=(l.set k x).flatMap c:=by
 unfold dJ;rw[wZ hc,show k * sz+sz=(k+1) * sz by rw[Nat.succ_mul],xA hc,List.set_eq_take_append_cons_drop,if_pos h]
 simp
theorem QD [Ext] {P:Program} {T e n k off:Nat} (hc:∀x,(c x).length=sz) {z:α} {l:List α} {i:Int} (h0:0≤i) (h1:i<l.length) (hk:sQ P T=some k) (vM:0<k) (ho:off+k≤sz) :
 uC P T (some (.row e sz n (l.flatMap c))) (i.toNat * sz+off)=fD P T (c (gx z l i)) off:=by
 obtain⟨hn,_⟩:=VE (z:=z) h0 h1
 have hat:=Kb hc (z:=z) h0 h1
 have hle:i.toNat * sz+sz≤(l.flatMap c).length:=by
  rw[iD hc,← Nat.succ_mul];exact Nat.mul_le_mul_right _ hn
 have Az:=hc (gx z l i)
 simp only[uC,fD];unfold sQ at hk;cases hi:fL P T with
 | none=>rfl
 | some r =>
   obtain⟨b,k'⟩:=r
   rw[hi] at hk;simp only[Option.map_some,Option.some.injEq] at hk;subst hk;have hg:∀j,j<sz→(l.flatMap c)[i.toNat * sz+j]? = (c (gx z l i))[j]?:=fun j hj=>by
    rw[← hat,List.getElem?_take,if_pos hj,List.getElem?_drop]
   cases b with
   | true =>
     simp only
     have e1:rd (l.flatMap c) (i.toNat * sz+off) k'=rd (c (gx z l i)) off k':=by
      unfold rd;rw[← hat,List.drop_take,List.drop_drop,List.take_take,Nat.min_eq_left (by omega)]
     rw[e1];have l1:k'≤(l.flatMap c).length-(i.toNat * sz+off):=by omega
     have l2:k'≤(c (gx z l i)).length-off:=by omega
     rw[if_pos ⟨vM,l1⟩,if_pos ⟨vM,l2⟩]
   | false =>
     simp only
     exact hg off (by omega)
end
theorem aAp (ns:List Node):mF ⟨.sl ns.length (bZ ns)⟩=cP ⟨ns⟩:=rfl
theorem Zo (s:aN) (l:List Node):dJ (aB s) 115 (cP ⟨l⟩) 116=aB { s with tree:=⟨.sl l.length (bZ l)⟩}:=Bo s ⟨.sl l.length (bZ l)⟩
theorem Zp (s:State) (l:List Node):dJ (aF s) 115 (cP ⟨l⟩) 116=aF { s with store:={ s.store with tree:=⟨.sl l.length (bZ l)⟩} }:=wW s ⟨.sl l.length (bZ l)⟩
namespace Tryz
open Go.Proofs
theorem E2 (st:St) (t:fK):eT st (.agg (bV t))=some (.agg (bV t)):=dL (.agg _ (dA t))
theorem JH (st:St) (t:Request):eT st (.agg (bM t))=some (.agg (bM t)):=dL (.agg _ (fU t))
theorem QE (st:St) (s:aN) (h:Flat (.agg (aB s))):eT st (.agg (aB s))=some (.agg (aB s)):=dL h
theorem QF (st:St) (s:State) (h:Flat (.agg (aF s))):eT st (.agg (aF s))=some (.agg (aF s)):=dL h
theorem EU {T n k off:Nat} {l:List fK} {i:Int} (h0:0≤i) (h1:i<l.length) (hk:sQ Tryz.prog T=some k) (vM:0<k) (ho:off+k≤33):uC Tryz.prog T (some (.row 41 33 n (yJ l))) (i.toNat * 33+off)=fD Tryz.prog T (bV (gx gR l i)) off:=QD bP h0 h1 hk vM ho
theorem XA {T n k:Nat} {l:List fK} {i:Int} (h0:0≤i) (h1:i<l.length) (hk:sQ Tryz.prog T=some k) (vM:0<k) (ho:k≤33):uC Tryz.prog T (some (.row 41 33 n (yJ l))) (i.toNat * 33)=fD Tryz.prog T (bV (gx gR l i)) 0:=by
 have h:=EU (n:=n) (off:=0) h0 h1 hk vM (by omega)
 rw[Nat.add_zero] at h;exact h
theorem Mx (l:List fK) (i:Int) (x:fK) (h:i.toNat<l.length):dJ (yJ l) (i.toNat * 33) (bV x) (i.toNat * 33+33)=yJ (l.set i.toNat x):=by
 generalize i.toNat=k at h ⊢
 have:=JG (c:=bV) (sz:=33) bP l k x h
 exact this
theorem QG (st:St) (o:Option (List lE)):aQ st (ov cV o)=some ((ol o).length,cV (ol o)):=by cases o<;>rfl
theorem vP (o:Option (List lE)):Flat (ov cV o):=by
 cases o with
 | none=>exact .v _
 | some l=>exact .sl _ _ (mM l)
theorem aAq (st:St) {l:List lE} {kk:IntKind} {i:Int} (h0:0≤i) (h1:i<l.length):bB Tryz.prog st 37 (.sl l.length (cV l)) (.v (.int kk i))=some (.ip (lV (gx rT l i)) 0):=by
 have hl:i.toNat<l.length:=by omega
 have h2:i.toNat * 34+34≤(l.flatMap lV).length:=by rw[iD rA,← Nat.succ_mul];exact Nat.mul_le_mul_right _ hl
 have h3:((cV l).drop (i.toNat * 34)).take 34=lV (gx rT l i):=Kb rA h0 h1
 have h4:(cV l).length=(l.flatMap lV).length:=rfl
 (simp only[bB,aHa,C2,h0,h1,h4,h2,and_self,if_true,h3])<;>rfl
theorem aHo (st:St) {o:Option (List lE)} {kk:IntKind} {i:Int} (h0:0≤i) (h1:i<(ol o).length):bB Tryz.prog st 37 (ov cV o) (.v (.int kk i))=some (.ip (lV (gx rT (ol o) i)) 0):=by
 cases o with
 | none=>simp[ol] at h1;omega
 | some l=>exact aAq st h0 h1
theorem KW (l:List lE) (h:(l.length:Int)<1000000):wH 100 34 48 (some (l.length,cV l))=some (none,.row 100 34 l.length (cV l)):=by
 unfold wH;simp only
 rw[if_pos ⟨iD rA l,by omega,by simp only[maxLen];omega⟩]
theorem Uf (n:Nat) (l:List lE):iX (some (.row 100 34 n (cV l)))=some (.sl n (cV l)):=by
 unfold iX;simp only;rw[if_pos (mM l)]
theorem YK {T n k off:Nat} {l:List lE} {i:Int} (h0:0≤i) (h1:i<l.length) (hk:sQ Tryz.prog T=some k) (vM:0<k) (ho:off+k≤34):uC Tryz.prog T (some (.row 100 34 n (cV l))) (i.toNat * 34+off)=fD Tryz.prog T (lV (gx rT l i)) off:=QD rA h0 h1 hk vM ho
theorem XC {T n k:Nat} {l:List lE} {i:Int} (h0:0≤i) (h1:i<l.length) (hk:sQ Tryz.prog T=some k) (vM:0<k) (ho:k≤34):uC Tryz.prog T (some (.row 100 34 n (cV l))) (i.toNat * 34)=fD Tryz.prog T (lV (gx rT l i)) 0:=by
 have h:=YK (n:=n) (off:=0) h0 h1 hk vM (by omega)
 rw[Nat.add_zero] at h;exact h
theorem FB (l:List lE) (i:Int) (x:lE) (h:i.toNat<l.length):dJ (cV l) (i.toNat * 34) (lV x) (i.toNat * 34+34)=cV (l.set i.toNat x):=by
 generalize i.toNat=k at h ⊢
 have:=JG (c:=lV) (sz:=34) rA l k x h
 exact this
theorem VX (st:St) (o:Option (List rQ)):aQ st (ov dC o)=some ((ol o).length,dC (ol o)):=by cases o<;>rfl
theorem Vt (o:Option (List rQ)) (h:∀y∈ol o,Flat y.eK):Flat (ov dC o):=by
 cases o with
 | none=>exact .v _
 | some l=>exact .sl _ _ (sI l h)
theorem aAr (st:St) {l:List rQ} {kk:IntKind} {i:Int} (h0:0≤i) (h1:i<l.length):bB Tryz.prog st 44 (.sl l.length (dC l)) (.v (.int kk i))=some (.ip (iF (gx Ku l i)) 0):=by
 have hl:i.toNat<l.length:=by omega
 have h2:i.toNat * 67+67≤(l.flatMap iF).length:=by rw[iD gX,← Nat.succ_mul];exact Nat.mul_le_mul_right _ hl
 have h3:((dC l).drop (i.toNat * 67)).take 67=iF (gx Ku l i):=Kb gX h0 h1
 have h4:(dC l).length=(l.flatMap iF).length:=rfl
 (simp only[bB,aLU,Y7,h0,h1,h4,h2,and_self,if_true,h3])<;>rfl
theorem aHp (st:St) {o:Option (List rQ)} {kk:IntKind} {i:Int} (h0:0≤i) (h1:i<(ol o).length):bB Tryz.prog st 44 (ov dC o) (.v (.int kk i))=some (.ip (iF (gx Ku (ol o) i)) 0):=by
 cases o with
 | none=>simp[ol] at h1;omega
 | some l=>exact aAr st h0 h1
theorem FR (x:rQ):wH 87 67 104 (some (1,iF x))=some (none,.row 87 67 [x].length (dC [x])):=by
 simp[wH,maxLen,dC]
theorem XF (l:List rQ) (h:(l.length:Int)<1000000):wH 87 67 104 (some (l.length,dC l))=some (none,.row 87 67 l.length (dC l)):=by
 unfold wH;simp only
 rw[if_pos ⟨iD gX l,by omega,by simp only[maxLen];omega⟩]
theorem Uh (l:List rQ) (x:rQ) (s g:Nat) (h:(l.length:Int)<1000000):wS 87 67 104 (some (.row 87 67 l.length (dC l))) s g (some (1,iF x))=some (some (s,g),.row 87 67 (l++[x]).length (dC (l++[x]))):=by
 simp only[wS];rw[if_pos ⟨by simp,trivial,trivial,by omega,by simp only[maxLen];omega⟩]
 simp[dC,List.flatMap_append]
theorem L4 (n:Nat) (l:List rQ) (h:∀y∈l,Flat y.eK):iX (some (.row 87 67 n (dC l)))=some (.sl n (dC l)):=by
 unfold iX;simp only;rw[if_pos (sI l h)]
theorem JI (st:St) (o:Option (List Table)):aQ st (ov aR o)=some ((ol o).length,aR (ol o)):=by cases o<;>rfl
theorem oQ (o:Option (List Table)) (h:∀y∈ol o,Flat y.jH):Flat (ov aR o):=by
 cases o with
 | none=>exact .v _
 | some l=>exact .sl _ _ (lF l h)
theorem mN (st:St) (o:Option (List Table)) (h:∀y∈ol o,Flat y.jH):eT st (ov aR o)=some (ov aR o):=dL (oQ o h)
theorem JJ (o:Option (List Table)):(ov aR o).jG=true:=by cases o<;>rfl
theorem QH (o:Option (List Table)):(ov aR o).cells=[ov aR o]:=by cases o<;>rfl
theorem aAs (st:St) {l:List Table} {kk:IntKind} {i:Int} (h0:0≤i) (h1:i<l.length):bB Tryz.prog st 51 (.sl l.length (aR l)) (.v (.int kk i))=some (.ip (cN (gx iS l i)) 0):=by
 have hl:i.toNat<l.length:=by omega
 have h2:i.toNat * 34+34≤(l.flatMap cN).length:=by rw[iD fJ,← Nat.succ_mul];exact Nat.mul_le_mul_right _ hl
 have h3:((aR l).drop (i.toNat * 34)).take 34=cN (gx iS l i):=Kb fJ h0 h1
 have h4:(aR l).length=(l.flatMap cN).length:=rfl
 (simp only[bB,aLV,JD,h0,h1,h4,h2,and_self,if_true,h3])<;>rfl
theorem aHq (st:St) {o:Option (List Table)} {kk:IntKind} {i:Int} (h0:0≤i) (h1:i<(ol o).length):bB Tryz.prog st 51 (ov aR o) (.v (.int kk i))=some (.ip (cN (gx iS (ol o) i)) 0):=by
 cases o with
 | none=>simp[ol] at h1;omega
 | some l=>exact aAs st h0 h1
theorem DP (x:Table):wH 118 34 64 (some (1,cN x))=some (none,.row 118 34 [x].length (aR [x])):=by
 simp[wH,maxLen,aR]
theorem DC (l:List Table) (h:(l.length:Int)<1000000):wH 118 34 64 (some (l.length,aR l))=some (none,.row 118 34 l.length (aR l)):=by
 unfold wH;simp only
 rw[if_pos ⟨iD fJ l,by omega,by simp only[maxLen];omega⟩]
theorem Px (l:List Table) (x:Table) (s g:Nat) (h:(l.length:Int)<1000000):wS 118 34 64 (some (.row 118 34 l.length (aR l))) s g (some (1,cN x))=some (some (s,g),.row 118 34 (l++[x]).length (aR (l++[x]))):=by
 simp only[wS];rw[if_pos ⟨by simp,trivial,trivial,by omega,by simp only[maxLen];omega⟩]
 simp[aR,List.flatMap_append]
theorem DD (l m:List Table) (s g:Nat) (h:(l.length:Int)<1000000) (h2:(m.length:Int)<1000000):wS 118 34 64 (some (.row 118 34 l.length (aR l))) s g (some (m.length,aR m))=some (some (s,g),.row 118 34 (l++m).length (aR (l++m))):=by
 simp only[wS];rw[if_pos ⟨iD fJ m,trivial,trivial,by omega,by simp only[maxLen];omega⟩]
 simp[aR,List.flatMap_append]
theorem Mz (n:Nat) (l:List Table) (h:∀y∈l,Flat y.jH):iX (some (.row 118 34 n (aR l)))=some (.sl n (aR l)):=by
 unfold iX;simp only;rw[if_pos (lF l h)]
theorem aMs (st:St) (o:Option (List Table)) (hi:Operand):cU Tryz.prog st 51 (ov aR o) none (some hi)=Kh (st.ev hi) (fun j=>if 0≤j∧j≤(ol o).length then some (ov aR (o.map (·.take j.toNat))) else cU Tryz.prog st 51 (ov aR o) none (some hi)) (cU Tryz.prog st 51 (ov aR o) none (some hi)):=by
 unfold Kh;split
 ·rename_i j hj;dsimp only
  split
  ·rename_i hc;obtain⟨j0,j1⟩:=hc
   cases o with
   | none =>
     have:j=0:=by simp[ol] at j1;omega
     subst this;simp[cU,JD,ov,hj]
   | some l =>
     have j1:j≤l.length:=j1
     have hn:j.toNat≤l.length:=by omega
     simp only[cU,JD,ov,hj];rw[if_pos ⟨Int.le_refl _,j0,j1,iD fJ l⟩];simp only[Int.toNat_zero,Nat.zero_mul,List.drop_zero,Int.sub_zero,Option.map_some];rw[show (aR l).take (j.toNat * 34)=aR (l.take j.toNat) from wZ fJ l j.toNat,List.length_take,Nat.min_eq_left hn]
  ·rfl
 ·rfl
theorem aDn (st:St) (o:Option (List Table)) (lo:Operand):cU Tryz.prog st 51 (ov aR o) (some lo) none=Kh (st.ev lo) (fun j=>if 0≤j∧j≤(ol o).length then some (ov aR (o.map (·.drop j.toNat))) else cU Tryz.prog st 51 (ov aR o) (some lo) none) (cU Tryz.prog st 51 (ov aR o) (some lo) none):=by
 unfold Kh;split
 ·rename_i j hj;dsimp only
  split
  ·rename_i hc;obtain⟨j0,j1⟩:=hc
   cases o with
   | none =>
     have:j=0:=by simp[ol] at j1;omega
     subst this;simp[cU,JD,ov,hj]
   | some l =>
     have j1:j≤l.length:=j1
     have hn:j.toNat≤l.length:=by omega
     have e1:((l.length:Int)-j).toNat=l.length-j.toNat:=by omega
     simp only[cU,JD,ov,hj];rw[if_pos ⟨j0,j1,Int.le_refl _,iD fJ l⟩];simp only[Option.map_some,e1];rw[show (aR l).drop (j.toNat * 34)=aR (l.drop j.toNat) from xA fJ l j.toNat,List.length_drop,List.take_of_length_le];rw[show aR (l.drop j.toNat)=(l.drop j.toNat).flatMap cN from rfl,iD fJ,List.length_drop];exact Nat.le_refl _
  ·rfl
 ·rfl
theorem JK (st:St) (o:Option (List Block)):aQ st (ov aH o)=some ((ol o).length,aH (ol o)):=by cases o<;>rfl
theorem Du (o:Option (List Block)):Flat (ov aH o):=by
 cases o with
 | none=>exact .v _
 | some l=>exact .sl _ _ (oO l)
theorem aAt (st:St) {l:List Block} {kk:IntKind} {i:Int} (h0:0≤i) (h1:i<l.length):bB Tryz.prog st 45 (.sl l.length (aH l)) (.v (.int kk i))=some (.ip (aT (gx eQ l i)) 0):=by
 have hl:i.toNat<l.length:=by omega
 have h2:i.toNat * 238+238≤(l.flatMap aT).length:=by rw[iD bN,← Nat.succ_mul];exact Nat.mul_le_mul_right _ hl
 have h3:((aH l).drop (i.toNat * 238)).take 238=aT (gx eQ l i):=Kb bN h0 h1
 have h4:(aH l).length=(l.flatMap aT).length:=rfl
 (simp only[bB,aHb,oB,h0,h1,h4,h2,and_self,if_true,h3])<;>rfl
theorem aHr (st:St) {o:Option (List Block)} {kk:IntKind} {i:Int} (h0:0≤i) (h1:i<(ol o).length):bB Tryz.prog st 45 (ov aH o) (.v (.int kk i))=some (.ip (aT (gx eQ (ol o) i)) 0):=by
 cases o with
 | none=>simp[ol] at h1;omega
 | some l=>exact aAt st h0 h1
theorem E3 (x:Block):wH 74 238 336 (some (1,aT x))=some (none,.row 74 238 [x].length (aH [x])):=by
 simp[wH,maxLen,aH]
theorem iL (l:List Block) (h:(l.length:Int)<1000000):wH 74 238 336 (some (l.length,aH l))=some (none,.row 74 238 l.length (aH l)):=by
 unfold wH;simp only
 rw[if_pos ⟨iD bN l,by omega,by simp only[maxLen];omega⟩]
theorem DM (l:List Block) (x:Block) (s g:Nat) (h:(l.length:Int)<1000000):wS 74 238 336 (some (.row 74 238 l.length (aH l))) s g (some (1,aT x))=some (some (s,g),.row 74 238 (l++[x]).length (aH (l++[x]))):=by
 simp only[wS];rw[if_pos ⟨by simp,trivial,trivial,by omega,by simp only[maxLen];omega⟩]
 simp[aH,List.flatMap_append]
theorem qY (l m:List Block) (s g:Nat) (h:(l.length:Int)<1000000) (h2:(m.length:Int)<1000000):wS 74 238 336 (some (.row 74 238 l.length (aH l))) s g (some (m.length,aH m))=some (some (s,g),.row 74 238 (l++m).length (aH (l++m))):=by
 simp only[wS];rw[if_pos ⟨iD bN m,trivial,trivial,by omega,by simp only[maxLen];omega⟩]
 simp[aH,List.flatMap_append]
theorem tK (n:Nat) (l:List Block):iX (some (.row 74 238 n (aH l)))=some (.sl n (aH l)):=by
 unfold iX;simp only;rw[if_pos (oO l)]
theorem QI {T n k off:Nat} {l:List Block} {i:Int} (h0:0≤i) (h1:i<l.length) (hk:sQ Tryz.prog T=some k) (vM:0<k) (ho:off+k≤238):uC Tryz.prog T (some (.row 74 238 n (aH l))) (i.toNat * 238+off)=fD Tryz.prog T (aT (gx eQ l i)) off:=QD bN h0 h1 hk vM ho
theorem yP {T n k:Nat} {l:List Block} {i:Int} (h0:0≤i) (h1:i<l.length) (hk:sQ Tryz.prog T=some k) (vM:0<k) (ho:k≤238):uC Tryz.prog T (some (.row 74 238 n (aH l))) (i.toNat * 238)=fD Tryz.prog T (aT (gx eQ l i)) 0:=by
 have h:=QI (n:=n) (off:=0) h0 h1 hk vM (by omega)
 rw[Nat.add_zero] at h;exact h
theorem aMt (st:St) (o:Option (List Block)) (hi:Operand):cU Tryz.prog st 45 (ov aH o) none (some hi)=Kh (st.ev hi) (fun j=>if 0≤j∧j≤(ol o).length then some (ov aH (o.map (·.take j.toNat))) else cU Tryz.prog st 45 (ov aH o) none (some hi)) (cU Tryz.prog st 45 (ov aH o) none (some hi)):=by
 unfold Kh;split
 ·rename_i j hj;dsimp only
  split
  ·rename_i hc;obtain⟨j0,j1⟩:=hc
   cases o with
   | none =>
     have:j=0:=by simp[ol] at j1;omega
     subst this;simp[cU,oB,ov,hj]
   | some l =>
     have j1:j≤l.length:=j1
     have hn:j.toNat≤l.length:=by omega
     simp only[cU,oB,ov,hj];rw[if_pos ⟨Int.le_refl _,j0,j1,iD bN l⟩];simp only[Int.toNat_zero,Nat.zero_mul,List.drop_zero,Int.sub_zero,Option.map_some];rw[show (aH l).take (j.toNat * 238)=aH (l.take j.toNat) from wZ bN l j.toNat,List.length_take,Nat.min_eq_left hn]
  ·rfl
 ·rfl
theorem aDo (st:St) (o:Option (List Block)) (lo:Operand):cU Tryz.prog st 45 (ov aH o) (some lo) none=Kh (st.ev lo) (fun j=>if 0≤j∧j≤(ol o).length then some (ov aH (o.map (·.drop j.toNat))) else cU Tryz.prog st 45 (ov aH o) (some lo) none) (cU Tryz.prog st 45 (ov aH o) (some lo) none):=by
 unfold Kh;split
 ·rename_i j hj;dsimp only
  split
  ·rename_i hc;obtain⟨j0,j1⟩:=hc
   cases o with
   | none =>
     have:j=0:=by simp[ol] at j1;omega
     subst this;simp[cU,oB,ov,hj]
   | some l =>
     have j1:j≤l.length:=j1
     have hn:j.toNat≤l.length:=by omega
     have e1:((l.length:Int)-j).toNat=l.length-j.toNat:=by omega
     simp only[cU,oB,ov,hj];rw[if_pos ⟨j0,j1,Int.le_refl _,iD bN l⟩];simp only[Option.map_some,e1];rw[show (aH l).drop (j.toNat * 238)=aH (l.drop j.toNat) from xA bN l j.toNat,List.length_drop,List.take_of_length_le];rw[show aH (l.drop j.toNat)=(l.drop j.toNat).flatMap aT from rfl,iD bN,List.length_drop];exact Nat.le_refl _
  ·rfl
 ·rfl
theorem Zq (st:St) (o:Option (List Request)):aQ st (ov aA o)=some ((ol o).length,aA (ol o)):=by cases o<;>rfl
theorem fO (o:Option (List Request)):Flat (ov aA o):=by
 cases o with
 | none=>exact .v _
 | some l=>exact .sl _ _ (gM l)
theorem Zr (st:St) (o:Option (List Request)):eT st (ov aA o)=some (ov aA o):=dL (fO o)
theorem aAu (st:St) {l:List Request} {kk:IntKind} {i:Int} (h0:0≤i) (h1:i<l.length):bB Tryz.prog st 54 (.sl l.length (aA l)) (.v (.int kk i))=some (.ip (bM (gx bJ l i)) 0):=by
 have hl:i.toNat<l.length:=by omega
 have h2:i.toNat * 35+35≤(l.flatMap bM).length:=by rw[iD fP,← Nat.succ_mul];exact Nat.mul_le_mul_right _ hl
 have h3:((aA l).drop (i.toNat * 35)).take 35=bM (gx bJ l i):=Kb fP h0 h1
 have h4:(aA l).length=(l.flatMap bM).length:=rfl
 (simp only[bB,aHd,Bj,h0,h1,h4,h2,and_self,if_true,h3])<;>rfl
theorem aHs (st:St) {o:Option (List Request)} {kk:IntKind} {i:Int} (h0:0≤i) (h1:i<(ol o).length):bB Tryz.prog st 54 (ov aA o) (.v (.int kk i))=some (.ip (bM (gx bJ (ol o) i)) 0):=by
 cases o with
 | none=>simp[ol] at h1;omega
 | some l=>exact aAu st h0 h1
theorem QJ (x:Request):wH 63 35 56 (some (1,bM x))=some (none,.row 63 35 [x].length (aA [x])):=by
 simp[wH,maxLen,aA]
theorem qM (l:List Request) (h:(l.length:Int)<1000000):wH 63 35 56 (some (l.length,aA l))=some (none,.row 63 35 l.length (aA l)):=by
 unfold wH;simp only
 rw[if_pos ⟨iD fP l,by omega,by simp only[maxLen];omega⟩]
theorem oG (l:List Request) (x:Request) (s g:Nat) (h:(l.length:Int)<1000000):wS 63 35 56 (some (.row 63 35 l.length (aA l))) s g (some (1,bM x))=some (some (s,g),.row 63 35 (l++[x]).length (aA (l++[x]))):=by
 simp only[wS];rw[if_pos ⟨by simp,trivial,trivial,by omega,by simp only[maxLen];omega⟩]
 simp[aA,List.flatMap_append]
theorem Se (l m:List Request) (s g:Nat) (h:(l.length:Int)<1000000) (h2:(m.length:Int)<1000000):wS 63 35 56 (some (.row 63 35 l.length (aA l))) s g (some (m.length,aA m))=some (some (s,g),.row 63 35 (l++m).length (aA (l++m))):=by
 simp only[wS];rw[if_pos ⟨iD fP m,trivial,trivial,by omega,by simp only[maxLen];omega⟩]
 simp[aA,List.flatMap_append]
theorem oU (n:Nat) (l:List Request):iX (some (.row 63 35 n (aA l)))=some (.sl n (aA l)):=by
 unfold iX;simp only;rw[if_pos (gM l)]
theorem Eb {T n k off:Nat} {l:List Request} {i:Int} (h0:0≤i) (h1:i<l.length) (hk:sQ Tryz.prog T=some k) (vM:0<k) (ho:off+k≤35):uC Tryz.prog T (some (.row 63 35 n (aA l))) (i.toNat * 35+off)=fD Tryz.prog T (bM (gx bJ l i)) off:=QD fP h0 h1 hk vM ho
theorem yR {T n k:Nat} {l:List Request} {i:Int} (h0:0≤i) (h1:i<l.length) (hk:sQ Tryz.prog T=some k) (vM:0<k) (ho:k≤35):uC Tryz.prog T (some (.row 63 35 n (aA l))) (i.toNat * 35)=fD Tryz.prog T (bM (gx bJ l i)) 0:=by
 have h:=Eb (n:=n) (off:=0) h0 h1 hk vM (by omega)
 rw[Nat.add_zero] at h;exact h
theorem Ky (l:List Request) (i:Int) (x:Request) (h:i.toNat<l.length):dJ (aA l) (i.toNat * 35) (bM x) (i.toNat * 35+35)=aA (l.set i.toNat x):=by
 generalize i.toNat=k at h ⊢
 have:=JG (c:=bM) (sz:=35) fP l k x h
 exact this
theorem aMu (st:St) (o:Option (List Request)) (hi:Operand):cU Tryz.prog st 54 (ov aA o) none (some hi)=Kh (st.ev hi) (fun j=>if 0≤j∧j≤(ol o).length then some (ov aA (o.map (·.take j.toNat))) else cU Tryz.prog st 54 (ov aA o) none (some hi)) (cU Tryz.prog st 54 (ov aA o) none (some hi)):=by
 unfold Kh;split
 ·rename_i j hj;dsimp only
  split
  ·rename_i hc;obtain⟨j0,j1⟩:=hc
   cases o with
   | none =>
     have:j=0:=by simp[ol] at j1;omega
     subst this;simp[cU,Bj,ov,hj]
   | some l =>
     have j1:j≤l.length:=j1
     have hn:j.toNat≤l.length:=by omega
     simp only[cU,Bj,ov,hj];rw[if_pos ⟨Int.le_refl _,j0,j1,iD fP l⟩];simp only[Int.toNat_zero,Nat.zero_mul,List.drop_zero,Int.sub_zero,Option.map_some];rw[show (aA l).take (j.toNat * 35)=aA (l.take j.toNat) from wZ fP l j.toNat,List.length_take,Nat.min_eq_left hn]
  ·rfl
 ·rfl
theorem aDp (st:St) (o:Option (List Request)) (lo:Operand):cU Tryz.prog st 54 (ov aA o) (some lo) none=Kh (st.ev lo) (fun j=>if 0≤j∧j≤(ol o).length then some (ov aA (o.map (·.drop j.toNat))) else cU Tryz.prog st 54 (ov aA o) (some lo) none) (cU Tryz.prog st 54 (ov aA o) (some lo) none):=by
 unfold Kh;split
 ·rename_i j hj;dsimp only
  split
  ·rename_i hc;obtain⟨j0,j1⟩:=hc
   cases o with
   | none =>
     have:j=0:=by simp[ol] at j1;omega
     subst this;simp[cU,Bj,ov,hj]
   | some l =>
     have j1:j≤l.length:=j1
     have hn:j.toNat≤l.length:=by omega
     have e1:((l.length:Int)-j).toNat=l.length-j.toNat:=by omega
     simp only[cU,Bj,ov,hj];rw[if_pos ⟨j0,j1,Int.le_refl _,iD fP l⟩];simp only[Option.map_some,e1];rw[show (aA l).drop (j.toNat * 35)=aA (l.drop j.toNat) from xA fP l j.toNat,List.length_drop,List.take_of_length_le];rw[show aA (l.drop j.toNat)=(l.drop j.toNat).flatMap bM from rfl,iD fP,List.length_drop];exact Nat.le_refl _
  ·rfl
 ·rfl
theorem QK (st:St) (o:Option (List cC)):aQ st (ov eH o)=some ((ol o).length,eH (ol o)):=by cases o<;>rfl
theorem Gr (o:Option (List cC)):Flat (ov eH o):=by
 cases o with
 | none=>exact .v _
 | some l=>exact .sl _ _ (Gw l)
theorem aAv (st:St) {l:List cC} {kk:IntKind} {i:Int} (h0:0≤i) (h1:i<l.length):bB Tryz.prog st 70 (.sl l.length (eH l)) (.v (.int kk i))=some (.ip (aV (gx dI l i)) 0):=by
 have hl:i.toNat<l.length:=by omega
 have h2:i.toNat * 32+32≤(l.flatMap aV).length:=by rw[iD aL,← Nat.succ_mul];exact Nat.mul_le_mul_right _ hl
 have h3:((eH l).drop (i.toNat * 32)).take 32=aV (gx dI l i):=Kb aL h0 h1
 have h4:(eH l).length=(l.flatMap aV).length:=rfl
 (simp only[bB,aLW,Y8,h0,h1,h4,h2,and_self,if_true,h3])<;>rfl
theorem aHt (st:St) {o:Option (List cC)} {kk:IntKind} {i:Int} (h0:0≤i) (h1:i<(ol o).length):bB Tryz.prog st 70 (ov eH o) (.v (.int kk i))=some (.ip (aV (gx dI (ol o) i)) 0):=by
 cases o with
 | none=>simp[ol] at h1;omega
 | some l=>exact aAv st h0 h1
theorem aAw (x:cC):wH 27 32 32 (some (1,aV x))=some (none,.row 27 32 [x].length (eH [x])):=by
 simp[wH,maxLen,eH]
theorem nN (l:List cC) (x:cC) (s g:Nat) (h:(l.length:Int)<1000000):wS 27 32 32 (some (.row 27 32 l.length (eH l))) s g (some (1,aV x))=some (some (s,g),.row 27 32 (l++[x]).length (eH (l++[x]))):=by
 simp only[wS];rw[if_pos ⟨by simp,trivial,trivial,by omega,by simp only[maxLen];omega⟩]
 simp[eH,List.flatMap_append]
theorem vG (n:Nat) (l:List cC):iX (some (.row 27 32 n (eH l)))=some (.sl n (eH l)):=by
 unfold iX;simp only;rw[if_pos (Gw l)]
theorem aDq (st:St) {l:List Bool} {kk:IntKind} {i:Int} (h0:0≤i) (h1:i<l.length):bB Tryz.prog st 262 (.sl l.length (mG l)) (.v (.int kk i))=some (.ip ([.v (.bool (gx false l i))]) 0):=by
 have hl:i.toNat<l.length:=by omega
 have h2:i.toNat * 1+1≤(l.flatMap uF).length:=by rw[iD gS,← Nat.succ_mul];exact Nat.mul_le_mul_right _ hl
 have h3:((mG l).drop (i.toNat * 1)).take 1=uF (gx false l i):=Kb gS h0 h1
 have h4:(mG l).length=(l.flatMap uF).length:=rfl
 (simp only[bB,aEq,PW,h0,h1,h4,h2,and_self,if_true,h3])<;>rfl
theorem aAx (x:Bool):wH 4 1 1 (some (1,[.v (.bool x)]))=some (none,.row 4 1 [x].length (mG [x])):=by
 simp[wH,maxLen,mG,uF]
theorem LB (l:List Bool) (x:Bool) (s g:Nat) (h:(l.length:Int)<1000000):wS 4 1 1 (some (.row 4 1 l.length (mG l))) s g (some (1,[.v (.bool x)]))=some (some (s,g),.row 4 1 (l++[x]).length (mG (l++[x]))):=by
 simp only[wS];rw[if_pos ⟨by simp,trivial,trivial,by omega,by simp only[maxLen];omega⟩]
 simp[mG,List.flatMap_append,uF]
theorem XG (n:Nat) (l:List Bool):iX (some (.row 4 1 n (mG l)))=some (.sl n (mG l)):=by
 unfold iX;simp only;rw[if_pos (Sb l)]
theorem xS (o:Option (List Int)):Flat (ov jS o):=by
 cases o with
 | none=>exact .v _
 | some l=>exact .sl _ _ (uU l)
theorem qW (st:St) (o:Option (List Int)):eT st (ov jS o)=some (ov jS o):=dL (xS o)
theorem SM (x:Int):wH 5 1 1 (some (1,[.v (.int .u8 x)]))=some (none,.row 5 1 [x].length (jS [x])):=by
 simp[wH,maxLen,jS,cU8]
theorem Kq (l:List Int) (x:Int) (s g:Nat) (h:(l.length:Int)<1000000):wS 5 1 1 (some (.row 5 1 l.length (jS l))) s g (some (1,[.v (.int .u8 x)]))=some (some (s,g),.row 5 1 (l++[x]).length (jS (l++[x]))):=by
 simp only[wS];rw[if_pos ⟨by simp,trivial,trivial,by omega,by simp only[maxLen];omega⟩]
 simp[jS,List.flatMap_append,cU8]
theorem SN (l m:List Int) (s g:Nat) (h:(l.length:Int)<1000000) (h2:(m.length:Int)<1000000):wS 5 1 1 (some (.row 5 1 l.length (jS l))) s g (some (m.length,jS m))=some (some (s,g),.row 5 1 (l++m).length (jS (l++m))):=by
 simp only[wS];rw[if_pos ⟨iD aDm m,trivial,trivial,by omega,by simp only[maxLen];omega⟩]
 simp[jS,List.flatMap_append]
theorem Cf (n:Nat) (l:List Int):iX (some (.row 5 1 n (jS l)))=some (.sl n (jS l)):=by
 unfold iX;simp only;rw[if_pos (uU l)]
theorem VY (st:St) (o:Option (List Int)):aQ st (ov aJ o)=some ((ol o).length,aJ (ol o)):=by cases o<;>rfl
theorem bQ (o:Option (List Int)):Flat (ov aJ o):=by
 cases o with
 | none=>exact .v _
 | some l=>exact .sl _ _ (fG l)
theorem Ea (st:St) (o:Option (List Int)):eT st (ov aJ o)=some (ov aJ o):=dL (bQ o)
theorem VZ (o:Option (List Int)):(ov aJ o).jG=true:=by cases o<;>rfl
theorem E4 (o:Option (List Int)):(ov aJ o).cells=[ov aJ o]:=by cases o<;>rfl
theorem aAy (st:St) {l:List Int} {kk:IntKind} {i:Int} (h0:0≤i) (h1:i<l.length):bB Tryz.prog st 22 (.sl l.length (aJ l)) (.v (.int kk i))=some (.ip ([.v (.int .i64 (gx (0:Int) l i))]) 0):=by
 have hl:i.toNat<l.length:=by omega
 have h2:i.toNat * 1+1≤(l.flatMap pK).length:=by rw[iD aZ,← Nat.succ_mul];exact Nat.mul_le_mul_right _ hl
 have h3:((aJ l).drop (i.toNat * 1)).take 1=pK (gx (0:Int) l i):=Kb aZ h0 h1
 have h4:(aJ l).length=(l.flatMap pK).length:=rfl
 (simp only[bB,aCU,Kg,h0,h1,h4,h2,and_self,if_true,h3])<;>rfl
theorem aHu (st:St) {o:Option (List Int)} {kk:IntKind} {i:Int} (h0:0≤i) (h1:i<(ol o).length):bB Tryz.prog st 22 (ov aJ o) (.v (.int kk i))=some (.ip ([.v (.int .i64 (gx (0:Int) (ol o) i))]) 0):=by
 cases o with
 | none=>simp[ol] at h1;omega
 | some l=>exact aAy st h0 h1
theorem Nc (l:List Int) (h:(l.length:Int)<1000000):wH 3 1 8 (some (l.length,aJ l))=some (none,.row 3 1 l.length (aJ l)):=by
 unfold wH;simp only
 rw[if_pos ⟨iD aZ l,by omega,by simp only[maxLen];omega⟩]
theorem Dy (l:List Int) (x:Int) (s g:Nat) (h:(l.length:Int)<1000000):wS 3 1 8 (some (.row 3 1 l.length (aJ l))) s g (some (1,[.v (.int .i64 x)]))=some (some (s,g),.row 3 1 (l++[x]).length (aJ (l++[x]))):=by
 simp only[wS];rw[if_pos ⟨by simp,trivial,trivial,by omega,by simp only[maxLen];omega⟩]
 simp[aJ,List.flatMap_append,pK]
theorem FE (l m:List Int) (s g:Nat) (h:(l.length:Int)<1000000) (h2:(m.length:Int)<1000000):wS 3 1 8 (some (.row 3 1 l.length (aJ l))) s g (some (m.length,aJ m))=some (some (s,g),.row 3 1 (l++m).length (aJ (l++m))):=by
 simp only[wS];rw[if_pos ⟨iD aZ m,trivial,trivial,by omega,by simp only[maxLen];omega⟩]
 simp[aJ,List.flatMap_append]
theorem jL (n:Nat) (l:List Int):iX (some (.row 3 1 n (aJ l)))=some (.sl n (aJ l)):=by
 unfold iX;simp only;rw[if_pos (fG l)]
theorem aMv (st:St) (o:Option (List Int)) (hi:Operand):cU Tryz.prog st 22 (ov aJ o) none (some hi)=Kh (st.ev hi) (fun j=>if 0≤j∧j≤(ol o).length then some (ov aJ (o.map (·.take j.toNat))) else cU Tryz.prog st 22 (ov aJ o) none (some hi)) (cU Tryz.prog st 22 (ov aJ o) none (some hi)):=by
 unfold Kh;split
 ·rename_i j hj;dsimp only
  split
  ·rename_i hc;obtain⟨j0,j1⟩:=hc
   cases o with
   | none =>
     have:j=0:=by simp[ol] at j1;omega
     subst this;simp[cU,Kg,ov,hj]
   | some l =>
     have j1:j≤l.length:=j1
     have hn:j.toNat≤l.length:=by omega
     simp only[cU,Kg,ov,hj];rw[if_pos ⟨Int.le_refl _,j0,j1,iD aZ l⟩];simp only[Int.toNat_zero,Nat.zero_mul,List.drop_zero,Int.sub_zero,Option.map_some];rw[show (aJ l).take (j.toNat * 1)=aJ (l.take j.toNat) from wZ aZ l j.toNat,List.length_take,Nat.min_eq_left hn]
  ·rfl
 ·rfl
theorem aDr (st:St) (o:Option (List Int)) (lo:Operand):cU Tryz.prog st 22 (ov aJ o) (some lo) none=Kh (st.ev lo) (fun j=>if 0≤j∧j≤(ol o).length then some (ov aJ (o.map (·.drop j.toNat))) else cU Tryz.prog st 22 (ov aJ o) (some lo) none) (cU Tryz.prog st 22 (ov aJ o) (some lo) none):=by
 unfold Kh;split
 ·rename_i j hj;dsimp only
  split
  ·rename_i hc;obtain⟨j0,j1⟩:=hc
   cases o with
   | none =>
     have:j=0:=by simp[ol] at j1;omega
     subst this;simp[cU,Kg,ov,hj]
   | some l =>
     have j1:j≤l.length:=j1
     have hn:j.toNat≤l.length:=by omega
     have e1:((l.length:Int)-j).toNat=l.length-j.toNat:=by omega
     simp only[cU,Kg,ov,hj];rw[if_pos ⟨j0,j1,Int.le_refl _,iD aZ l⟩];simp only[Option.map_some,e1];rw[show (aJ l).drop (j.toNat * 1)=aJ (l.drop j.toNat) from xA aZ l j.toNat,List.length_drop,List.take_of_length_le];rw[show aJ (l.drop j.toNat)=(l.drop j.toNat).flatMap pK from rfl,iD aZ,List.length_drop];exact Nat.le_refl _
  ·rfl
 ·rfl
theorem WA (st:St) (o:Option (List Int)):aQ st (ov bD o)=some ((ol o).length,bD (ol o)):=by cases o<;>rfl
theorem dX (o:Option (List Int)):Flat (ov bD o):=by
 cases o with
 | none=>exact .v _
 | some l=>exact .sl _ _ (gV l)
theorem WB (o:Option (List Int)):(ov bD o).jG=true:=by cases o<;>rfl
theorem E5 (o:Option (List Int)):(ov bD o).cells=[ov bD o]:=by cases o<;>rfl
theorem aAz (st:St) {l:List Int} {kk:IntKind} {i:Int} (h0:0≤i) (h1:i<l.length):bB Tryz.prog st 34 (.sl l.length (bD l)) (.v (.int kk i))=some (.ip ([.v (.int .u64 (gx (0:Int) l i))]) 0):=by
 have hl:i.toNat<l.length:=by omega
 have h2:i.toNat * 1+1≤(l.flatMap rV).length:=by rw[iD aW,← Nat.succ_mul];exact Nat.mul_le_mul_right _ hl
 have h3:((bD l).drop (i.toNat * 1)).take 1=rV (gx (0:Int) l i):=Kb aW h0 h1
 have h4:(bD l).length=(l.flatMap rV).length:=rfl
 (simp only[bB,aG9,VR,h0,h1,h4,h2,and_self,if_true,h3])<;>rfl
theorem aHv (st:St) {o:Option (List Int)} {kk:IntKind} {i:Int} (h0:0≤i) (h1:i<(ol o).length):bB Tryz.prog st 34 (ov bD o) (.v (.int kk i))=some (.ip ([.v (.int .u64 (gx (0:Int) (ol o) i))]) 0):=by
 cases o with
 | none=>simp[ol] at h1;omega
 | some l=>exact aAz st h0 h1
theorem aDs (x:Int):wH 23 1 8 (some (1,[.v (.int .u64 x)]))=some (none,.row 23 1 [x].length (bD [x])):=by
 simp[wH,maxLen,bD,rV]
theorem Dx (l:List Int) (h:(l.length:Int)<1000000):wH 23 1 8 (some (l.length,bD l))=some (none,.row 23 1 l.length (bD l)):=by
 unfold wH;simp only
 rw[if_pos ⟨iD aW l,by omega,by simp only[maxLen];omega⟩]
theorem xB (l:List Int) (x:Int) (s g:Nat) (h:(l.length:Int)<1000000):wS 23 1 8 (some (.row 23 1 l.length (bD l))) s g (some (1,[.v (.int .u64 x)]))=some (some (s,g),.row 23 1 (l++[x]).length (bD (l++[x]))):=by
 simp only[wS];rw[if_pos ⟨by simp,trivial,trivial,by omega,by simp only[maxLen];omega⟩]
 simp[bD,List.flatMap_append,rV]
theorem uS (n:Nat) (l:List Int):iX (some (.row 23 1 n (bD l)))=some (.sl n (bD l)):=by
 unfold iX;simp only;rw[if_pos (gV l)]
theorem aAA {T n k off:Nat} {l:List Int} {i:Int} (h0:0≤i) (h1:i<l.length) (hk:sQ Tryz.prog T=some k) (vM:0<k) (ho:off+k≤1):uC Tryz.prog T (some (.row 23 1 n (bD l))) (i.toNat * 1+off)=fD Tryz.prog T ([.v (.int .u64 (gx (0:Int) l i))]) off:=QD aW h0 h1 hk vM ho
theorem J0 {T n k:Nat} {l:List Int} {i:Int} (h0:0≤i) (h1:i<l.length) (hk:sQ Tryz.prog T=some k) (vM:0<k) (ho:k≤1):uC Tryz.prog T (some (.row 23 1 n (bD l))) (i.toNat * 1)=fD Tryz.prog T ([.v (.int .u64 (gx (0:Int) l i))]) 0:=by
 have h:=aAA (n:=n) (off:=0) h0 h1 hk vM (by omega)
 rw[Nat.add_zero] at h;exact h
theorem I9 (l:List Int) (i:Int) (x:Int) (h:i.toNat<l.length):dJ (bD l) (i.toNat * 1) ([.v (.int .u64 x)]) (i.toNat * 1+1)=bD (l.set i.toNat x):=by
 generalize i.toNat=k at h ⊢
 have:=JG (c:=rV) (sz:=1) aW l k x h
 exact this
end Tryz
end Go.Ab
end
section
namespace Go.Ab.Tryz
open Classical Go.Proofs Go.Ab
theorem aj {a b:Prop} (x:a) (y:b):a∧b:=⟨x,y⟩
def EN:=aj (aj (aj (aj (aj (aj (aj @cT (aj @LD @mH)) (aj @S8 (aj @z4 @UF))) (aj (aj @A8 (aj @decide_true @decide_false)) (aj (aj @Int.cast_ofNat_Int @Bool.not_true) (aj @Bool.not_false @Bool.false_eq_true)))) (aj (aj (aj @Bool.true_eq_false (aj @aB8 @aB9)) (aj @aCa (aj @aCb @aCc))) (aj (aj @aCd (aj @aCe @aCf)) (aj (aj @aCg @aCh) (aj @aCk @aCl))))) (aj (aj (aj (aj @aCi (aj @aCj @not_false_eq_true)) (aj @ne_eq.{1} (aj @V7 @A7))) (aj (aj @UP (aj @UQ @Option.bind_some.{0,0})) (aj (aj @aBY @z5) (aj @aBZ @S9)))) (aj (aj (aj @aB0 (aj @UG @HH)) (aj @HI (aj @aB1 @UI))) (aj (aj @T4 (aj @T5 @T6)) (aj (aj @aFG @T7) (aj @Z0 @Bool.or_false)))))) (aj (aj (aj (aj (aj @Bool.false_or (aj @Bool.false_and @Bool.or_true)) (aj @aB3 (aj @aCX @z6))) (aj (aj @z7 (aj @UK @HJ)) (aj (aj @NQ @uT) (aj @QB @D4)))) (aj (aj (aj @D5 (aj @aC2 @aAb)) (aj @oR (aj @C6 @C7))) (aj (aj @VT (aj @PY @Option.map_some.{0,0})) (aj (aj @Pw @Ii) (aj @Qb @Kr))))) (aj (aj (aj (aj @Z2 (aj @Z3 @aCY)) (aj @gC (aj @bK @aAe))) (aj (aj @aAf (aj @CF @D8)) (aj (aj @aC1 @C8) (aj @C9 @aCo)))) (aj (aj (aj @V9 (aj @aCp @aCm)) (aj (aj @D0 @D1) (aj @D2 @D3))) (aj (aj @aAa (aj @D6 @aC3)) (aj (aj @aCZ @aC0) (aj @Z4 @Z5))))))) (aj (aj (aj (aj (aj (aj @Z6 (aj @Z7 @Z9)) (aj @A0 (aj @HM @aCV))) (aj (aj @Y9 (aj @aMo @aDB)) (aj (aj @U2 @aFI) (aj @aB4 @HL)))) (aj (aj (aj @aB5 (aj @U3 @aB6)) (aj @aB7 (aj @U4
 @U5))) (aj (aj @Xc (aj @Qj @U6)) (aj (aj @U7 @z8) (aj @U8 @NR))))) (aj (aj (aj (aj @z9 (aj @List.toList_toArray.{0} @List.map_cons.{0,0})) (aj @List.map_nil.{0,0} (aj @aBX @UE))) (aj (aj @y9 (aj @S4 @S5)) (aj (aj @aBW @HN) (aj @A9 @UR)))) (aj (aj (aj @List.getElem?_cons_zero.{0} (aj @List.getElem?_cons_succ.{0} @List.getElem?_nil.{0})) (aj @Option.getD_some.{0} (aj @Option.getD_none.{0} @and_true))) (aj (aj @true_and (aj @and_self @false_and)) (aj (aj @and_false @if_true.{1}) (aj @if_false.{1} @Nat.succ_ne_zero)))))) (aj (aj (aj (aj (aj @JE (aj @JF @Nat.add_zero)) (aj @Nat.zero_add (aj @VU @T3))) (aj (aj @aFR (aj @aFS @W7)) (aj (aj @W8 @C5) (aj @UZ @MH)))) (aj (aj (aj @aC6 (aj @aC7 @aC8)) (aj @VV (aj @D9 @aC9))) (aj (aj @aHi (aj @QC @E0)) (aj (aj @aDa @aAh) (aj @aHj @aAi))))) (aj (aj (aj (aj @aDb (aj @aDc @aDd)) (aj @aAj (aj @aAk @aDe))) (aj (aj @aAl (aj @aMr @aDf)) (aj (aj @aHk @aHl) (aj @aHm @aDg)))) (aj (aj (aj @aDh (aj @aHn @aDi)) (aj (aj @aDj @aAm) (aj @E1 @VW))) (aj (aj @aDk (aj @aAn @aDl)) (aj (aj @gei @gti) (aj @aS0 @gtn)))))))
def EV:=aj EN @A6
def LE:=aj (aj (aj (aj (aj (aj @aHg @aHh) (aj @aAc (aj @aAd @Kl))) (aj (aj @Iq @Qg) (aj @aHe (aj @aHf @aCW)))) (aj (aj (aj @aW @aZ) (aj @gS (aj @aL @dP))) (aj (aj @bP @cJ) (aj @bN (aj @uN @Qz))))) (aj (aj (aj (aj @Nat.sub_zero @Nat.le_refl) (aj @KS (aj @DB @Option.map_some.{0,0}))) (aj (aj @List.all_cons.{0} @List.all_nil.{0}) (aj @Bool.and_true (aj @Bool.true_and @Bool.and_self)))) (aj (aj (aj @A3 @List.length_cons.{0}) (aj @List.length_nil.{0} (aj @jC @jD))) (aj (aj @Ol (aj @Ae @Qv)) (aj @HS (aj @Nat.zero_le @Nat.mul_one)))))) (aj (aj (aj (aj (aj @Vy @Aj) (aj @gF (aj @lL @fZ))) (aj (aj @bL @rA) (aj @gX (aj @iH @fC)))) (aj (aj (aj @fJ @fP) (aj @mQ (aj @dE @cY))) (aj (aj @gY (aj @lY @cK)) (aj @Lu (aj @Zk @VQ))))) (aj (aj (aj (aj @kJ @Iv) (aj @Ln (aj @Rf @Ri))) (aj (aj @YH @VG) (aj @Yq (aj @Hn @Ys)))) (aj (aj (aj @Yu @Lt) (aj @Zc (aj @Hq @EG))) (aj (aj @PR (aj @Zg @PS)) (aj @Y6 (aj @xF @aCz))))))
def RD:=aj (aj (aj (aj (aj (aj (aj (aj @NX @NY) (aj @NZ @OA)) (aj (aj @jO @Bm) (aj @tS (aj @Ek @OB)))) (aj (aj (aj @OC @Oe) (aj @Of (aj @wU @yX))) (aj (aj @Og @Oh) (aj @wV (aj @BD @BE))))) (aj (aj (aj (aj @Fa @Th) (aj @yY @Lj)) (aj (aj @rG @Bn) (aj @yZ (aj @Lk @rH)))) (aj (aj (aj @Hi @BF) (aj @Jt (aj @BG @Ti))) (aj (aj @Tj @Cs) (aj @Qw (aj @BH @BI)))))) (aj (aj (aj (aj (aj @Yj @Yk) (aj @Ju @BJ)) (aj (aj @Hj @Oj) (aj @HP (aj @Ja @Ok)))) (aj (aj (aj @Qx @Tk) (aj @HQ (aj @HR @BK))) (aj (aj @BL @Hk) (aj @Ct (aj @vA @Cu))))) (aj (aj (aj (aj @vB @Jb) (aj @Ll @Fp)) (aj (aj @Lm @Om) (aj @OE (aj @UU @Et)))) (aj (aj (aj @Gf @OF) (aj @OG (aj @Ym @OH))) (aj (aj @OI @zA) (aj @Jv (aj @Oq @Em))))))) (aj (aj (aj (aj (aj (aj @Fq @Rb) (aj @Tl @Ot)) (aj (aj @Ou @Yn) (aj @Yo (aj @Cv @Tm)))) (aj (aj (aj @Cw @Tn) (aj
 @Ar (aj @Rc @As))) (aj (aj @Rd @At) (aj @Re (aj @zB @Ov))))) (aj (aj (aj (aj @BO @vZ) (aj @wA @uG)) (aj (aj @uH @uI) (aj @tT (aj @Hl @BP)))) (aj (aj (aj @Ox @Rh) (aj @Jw (aj @BR @Au))) (aj (aj @Oy @yD) (aj @Jx (aj @BS @BT)))))) (aj (aj (aj (aj (aj @IA @PF) (aj @Yp @BU)) (aj (aj @IB @IC) (aj @PG (aj @PH @ID)))) (aj (aj (aj @PI @PJ) (aj @PK (aj @BV @BW))) (aj (aj @Hm @Jc) (aj @Lo (aj @Lp @Dt))))) (aj (aj (aj (aj @PL @VI) (aj @VJ @vC)) (aj (aj @Fb @vD) (aj @Fc (aj @BX @Jy)))) (aj (aj (aj @tJ @BY) (aj @Pa (aj @Pb @zM))) (aj (aj @zN @nI) (aj @Lq (aj @Lr @zC)))))))) (aj (aj (aj (aj (aj (aj (aj @zO @zD) (aj @zP @Cx)) (aj (aj @mV @To) (aj @Tp (aj @PM @PN)))) (aj (aj (aj @Ls @Rl) (aj @Bb (aj @IF @IG))) (aj (aj @II @Pc) (aj @Pd (aj @En @Rm))))) (aj (aj (aj (aj @Rn @Pe) (aj @Ro
 @Tq)) (aj (aj @Yt @Yv) (aj @Yw (aj @Tr @Ts)))) (aj (aj (aj @Yx @Yz) (aj @Za (aj @uP @Fe))) (aj (aj @wJ @Hp) (aj @IL (aj @IM @Cz)))))) (aj (aj (aj (aj (aj @Da @sW) (aj @uJ @Ff)) (aj (aj @Fg @tU) (aj @wB (aj @uQ @Fh)))) (aj (aj (aj @sF @Av) (aj @wK (aj @Hr @Tt))) (aj (aj @Tv @zF) (aj @zG (aj @xJ @xK))))) (aj (aj (aj (aj @pT @pD) (aj @Hs @Jd)) (aj (aj @sX @qB) (aj @Je (aj @Zd @Ze)))) (aj (aj (aj @oL @Fs) (aj @pL (aj @Ht @Pf))) (aj (aj @Eo @Ep) (aj @wC (aj @pU @uK))))))) (aj (aj (aj (aj (aj (aj @Ft @wP) (aj @qQ @oM)) (aj (aj @Fu @mU) (aj @Dc (aj @Jz @Bo)))) (aj (aj (aj @qC @Jf) (aj @Ka (aj @Pg @Hu))) (aj (aj @Hv @uR) (aj @Tw (aj @IN @IP))))) (aj (aj (aj (aj @Zh @Zi) (aj @sZ @sM)) (aj (aj @wD
 @qE) (aj @oX (aj @pR @tA)))) (aj (aj (aj @xL @tV) (aj @oY (aj @nH @Jg))) (aj (aj @wW @qF) (aj @Jh (aj @Lv @Hw)))))) (aj (aj (aj (aj (aj @Hx @tI) (aj @yF @Ph)) (aj (aj @Aa @Rq) (aj @Pj (aj @Rr @Zj)))) (aj (aj (aj @CB @CC) (aj @CD (aj @Pk @Rs))) (aj (aj @Tx @IS) (aj @IT (aj @IU @PT))))) (aj (aj (aj (aj @IV @IW) (aj @VM (aj @VN @Ca))) (aj (aj @IX @IY) (aj @rR (aj @rC @IZ)))) (aj (aj (aj @JA @Ac) (aj @Zl (aj @Zm @CE))) (aj (aj @JB @JC) (aj @PU (aj @VO @VP))))))))
def FA:=aj (aj (aj (aj (aj (aj (aj (aj @ld3 @ik3) (aj @lk3 (aj @ze3 @aQB))) (aj (aj @aQC @RX) (aj @aFY (aj @aQD @aQE)))) (aj (aj (aj @aQF @ld5) (aj @ik5 (aj @lk5 @ze5))) (aj (aj @ik2 @lk2) (aj @ze2 (aj @aQG @aQH))))) (aj (aj (aj (aj @aQI @ld4) (aj @lk4 (aj @ze4 @aQJ))) (aj (aj @aI9 @aLx) (aj @aFZ (aj @aQK @aQL)))) (aj (aj (aj @aEJ @aQM) (aj @aQN (aj @aQO @aQP))) (aj (aj @aIS (aj @aQQ @aQR)) (aj @aQS (aj @aF0 @aF1)))))) (aj (aj (aj (aj (aj @aI8 @aF2) (aj @aQT (aj @aQU @aQV))) (aj (aj @aQW @aQX) (aj @aF3 (aj @aF4 @aQY)))) (aj (aj (aj @aQZ @aQ0) (aj @SU (aj @aF5 @aF6))) (aj (aj @aF7 (aj @aF8 @aF9)) (aj @aGa (aj @aGb @aGc))))) (aj (aj (aj (aj @aGd @aGe) (aj @aGf (aj @aLy @aQ1))) (aj (aj @aQ2 @aQ3) (aj @aQ4 (aj @aGg @aGh)))) (aj (aj (aj @aGi @aGj) (aj @aQ5 (aj @aQ6 @aQ7))) (aj (aj @aGk (aj @aQ8 @aQ9)) (aj @aRa (aj @aRb @aGl))))))) (aj (aj (aj (aj (aj (aj @aRc @aRd) (aj @aRe (aj @aRf @aGm))) (aj (aj @aGn @aGo) (aj @aRg (aj @aLz @aRh)))) (aj (aj (aj @aRi @aRj) (aj @aGp (aj @aGq @aGr))) (aj (aj @aGs (aj @aGt @aGu)) (aj @aRk (aj @aRl @aRm))))) (aj (aj (aj (aj @aRn @aGv) (aj @aGw (aj @aGx @aGy))) (aj (aj @aGz @aGA) (aj @aRo (aj @aRp @aLA)))) (aj (aj (aj @aDJ @aCB) (aj @aCC (aj @aCD @aEl))) (aj (aj @aLB (aj @aRq @aRr)) (aj @aGB (aj @aGC @aGD)))))) (aj (aj (aj (aj (aj @aGE @aLC) (aj @aRs (aj @aLD @aLE))) (aj (aj @aCE @aCF) (aj @aCG (aj @aCH @aLF)))) (aj (aj (aj @aLG @aLH) (aj @aLI (aj @aCI @aCJ))) (aj (aj @aLJ (aj @aLK @aLL)) (aj @aLM (aj @aCK @aCL))))) (aj (aj (aj (aj @aEm @aLN) (aj @aRt (aj @aFf @aGF))) (aj (aj @aGG @aGH) (aj @aGI (aj @aBA @aLO)))) (aj (aj (aj @aRu @aRv) (aj @aRw (aj @aRx @aGJ))) (aj (aj @aGK (aj @aGL @aLP)) (aj @aLQ (aj @aRy @aRz)))))))) (aj (aj (aj (aj (aj (aj (aj
 @aRA @aRB) (aj @aGM (aj @aGN @aRC))) (aj (aj @aRD @aRE) (aj @aGO (aj @aGP @aRF)))) (aj (aj (aj @aRG @aRH) (aj @aGQ (aj @aGR @aRI))) (aj (aj @aRJ (aj @aRK @aGS)) (aj @aGT (aj @aGU @aGV))))) (aj (aj (aj (aj @aGW @aGX) (aj @aGY (aj @aGZ @aRL))) (aj (aj @aRM @aRN) (aj @aRO (aj @aG0 @aG1)))) (aj (aj (aj @aG2 @aG3) (aj @aG4 (aj @aG5 @aG6))) (aj (aj @aG7 (aj @aRP @aRQ)) (aj @aLR (aj @aLS @aCM)))))) (aj (aj (aj (aj (aj @aCN @aCO) (aj @aCP (aj @aCQ @aCR))) (aj (aj @aCS @aCT) (aj @aEn (aj @aLT @aG8)))) (aj (aj (aj @Kg @aCU) (aj @aRR (aj @aRS @aRT))) (aj (aj @aRU (aj @aRV @VR)) (aj @aG9 (aj @aRW @aRX))))) (aj (aj (aj (aj @aRY @aRZ) (aj @aR0 (aj @C2 @aHa))) (aj (aj @aR1 @aR2) (aj @aR3 (aj @aR4 @aR5)))) (aj (aj (aj @Y7 @aLU) (aj @aR6 (aj @aR7 @aR8))) (aj (aj @oB (aj @aHb @aR9)) (aj @aSa (aj @aSb @aSc))))))) (aj (aj (aj (aj (aj (aj @aSd @PV) (aj @aHc (aj @aSe @aSf))) (aj (aj @aSg @aSh) (aj @JD (aj @aLV @aSi)))) (aj (aj (aj @aSj @aSk) (aj @Bj (aj @aHd @aSl))) (aj (aj @aSm (aj @aSn @aSo)) (aj @aSp (aj @Y8 @aLW))))) (aj (aj (aj (aj @aSq @aSr) (aj @I0 (aj @aEo @aLX))) (aj (aj @aLY @YI) (aj @aLZ (aj @aL0 @aL1)))) (aj (aj (aj @aEp @aL2) (aj @aL3 (aj @aL4 @YJ))) (aj (aj @aL5 (aj @aL6 @aL7)) (aj @PW (aj @aEq @aL8)))))) (aj (aj (aj (aj (aj @aL9 @aSs) (aj @aSt (aj @aSu @aSv))) (aj (aj @aSw @aSx) (aj @aSy (aj @aSz @aSA)))) (aj (aj (aj @aSB @aSC) (aj @aSD (aj @aSE @aSF))) (aj (aj @aSG (aj @aSH @aSI)) (aj @aSJ (aj @aSK @aSL))))) (aj (aj (aj (aj @aSM @aSN) (aj @aSO (aj @aSP @aSQ))) (aj (aj @aSR @aSS) (aj @aST (aj @aSU @aSV)))) (aj (aj (aj @aMa @aMb) (aj @aMc (aj @aMd @aMe))) (aj (aj @aMf (aj @aMg @aMh)) (aj @aMi (aj @aMj @aMk))))))))
def ZZ:=aj (aj EV LE) (aj RD FA)
section
variable {f:Nat} {fn:Func} {st:St} {x y z:AV}
theorem bX {t:Nat} (hr:fn.results.toList=[.tmp t]) (hx:st.env t=x) (hf:Flat x:=by exact .v _) (hk:Ext.pW f=false:=by exact aI (by decide)):zK Tryz.prog f fn (.ret,st)=some x:=V5 hk (.inl rfl) hr hx hf
theorem eU {t T:Nat} (hr:fn.results.toList=[.cell t T]) (hy:st.env t=y) (hx:Ez Tryz.prog st T y=some x) (hf:Flat x) (hk:Ext.pW f=false:=by exact aI (by decide)):zK Tryz.prog f fn (.ret,st)=some x:=A4 hk (.inl rfl) hr hy hx hf
theorem rP {t s g e' sz n:Nat} {cs:List AV} (hr:fn.results.toList=[.tmp t]) (hx:st.env t=.own s g) (hh:st.heap s g=some (.row e' sz n cs)) (hf:∀c∈cs,Flat c) (hk:Ext.pW f=false:=by exact aI (by decide)):zK Tryz.prog f fn (.ret,st)=some (.uniq e' sz n cs):=Wj hk (.inl rfl) hr hx hh hf
theorem dY {t T:Nat} {cs:List AV} (hr:fn.results.toList=[.cell t T]) (hz:st.env t=z) (hx:Ez Tryz.prog st T z=some (.agg cs)) (hy:eT st (.agg cs)=some y) (hk:Ext.pW f=false:=by exact aI (by decide)):zK Tryz.prog f fn (.ret,st)=some y:=UM hk (.inl rfl) hr hz hx hy
theorem dM {r1 r2:ResultVar} {x1 x2 y1 y2:AV} (hr:fn.results.toList=[r1,r2]) (h1:bS Tryz.prog st r1=some x1) (h2:bS Tryz.prog st r2=some x2) (e1:eT st x1=some y1) (e2:eT st x2=some y2) (hk:Ext.pW f=false:=by exact aI (by decide)):zK Tryz.prog f fn (.ret,st)=some (.eB [y1,y2]):=V6 hk (.inl rfl) hr h1 h2 e1 e2
theorem aJO {r1 r2:ResultVar} {x1 x2 y1 y2:AV} (hr:fn.results.toList=[r1,r2]) (h1:bS Tryz.prog st r1=some x1) (h2:bS Tryz.prog st r2=some x2) (e0:eT st x1=none) (e1:Mb st x1=some y1) (e2:eT st x2=some y2) (hk:Ext.pW f=false:=by exact aI (by decide)):zK Tryz.prog f fn (.ret,st)=some (.eB [y1,y2]):=A5 hk (.inl rfl) hr h1 h2 e0 e1 e2
theorem gD {r1 r2 r3:ResultVar} {x1 x2 x3 y1 y2 y3:AV} (hr:fn.results.toList=[r1,r2,r3]) (h1:bS Tryz.prog st r1=some x1) (h2:bS Tryz.prog st r2=some x2) (h3:bS Tryz.prog st r3=some x3) (e1:eT st x1=some y1) (e2:eT st x2=some y2) (e3:eT st x3=some y3) (hk:Ext.pW f=false:=by exact aI (by decide)):zK Tryz.prog f fn (.ret,st)=some (.eB [y1,y2,y3]):=UN hk (.inl rfl) hr h1 h2 h3 e1 e2 e3
theorem cL {c:Code} (hf:Tryz.prog.funcs[f]? = some fn) (hb:fn.body=some c) (rK:bG fn=true) {xs:List AV} (hu:xs.any tE=false):aD Tryz.prog f xs=cH (yB Tryz.prog c (St.init xs)) (zK Tryz.prog f fn):=S7 _ hf hb rK xs (rU _ _) hu
theorem cG {c:Code} (hf:Tryz.prog.funcs[f]? = some fn) (hb:fn.body=some c) (rK:tY fn=true) (hc:mY c=true) {xs:List AV} (hu:xs.any tE=false):aD Tryz.prog f xs=cH (vT Tryz.prog true c (St.init xs)) (zK Tryz.prog f fn):=by
 rw[NO Tryz.prog hf hb rK xs (rU _ _) hu,hc]
end
section
variable {b:Code} {st st':St} {n:Nat} {I:Nat→St→Prop} {Q:Ex→St→Prop}
theorem oN (m:Nat) (h:yB Tryz.prog b st=some (.normal,st')) (hi:I m st') (hm:m<n:=by omega):∃e st',yB Tryz.prog b st=some (e,st')∧((e=.normal∧∃m,m<n∧I m st')∨(e≠.normal∧Q e st')):=oF h m hm hi
theorem oT (e:Ex) (h:yB Tryz.prog b st=some (e,st')) (hq:Q e st') (he:e≠.normal:=by simp):∃e st',yB Tryz.prog b st=some (e,st')∧((e=.normal∧∃m,m<n∧I m st')∨(e≠.normal∧Q e st')):=aFK h he hq
theorem Fl {bi:Bool} (m:Nat) (h:vT Tryz.prog bi b st=some (.normal,st')) (hi:I m st') (hm:m<n:=by omega):∃e st',vT Tryz.prog bi b st=some (e,st')∧((e=.normal∧∃m,m<n∧I m st')∨(e≠.normal∧Q e st')):=aFO h m hm hi
theorem QN {bi:Bool} (e:Ex) (h:vT Tryz.prog bi b st=some (e,st')) (hq:Q e st') (he:e≠.normal:=by simp):∃e st',vT Tryz.prog bi b st=some (e,st')∧((e=.normal∧∃m,m<n∧I m st')∨(e≠.normal∧Q e st')):=aCq h he hq
end
end Go.Ab.Tryz
end
namespace Go.Ab.Tryz
open Classical Go.Proofs Go.Ab
def FT:=aj (aj (aj (aj (aj (aj @E2 (aj @JH @aAp)) (aj @Zo (aj @Zp @QE))) (aj (aj @QF (aj @EU @XA)) (aj @Mx (aj @QG @aAq)))) (aj (aj (aj @aHo (aj @KW @Uf)) (aj @YK (aj @XC @FB))) (aj (aj @VX (aj @aAr @aHp)) (aj (aj @FR @XF) (aj @Uh @L4))))) (aj (aj (aj (aj @JI (aj @mN @JJ)) (aj @QH (aj @aAs @aHq))) (aj (aj @DP (aj @DC @Px)) (aj (aj @DD @Mz) (aj @aMs @aDn)))) (aj (aj (aj @JK (aj @aAt @aHr)) (aj @E3 (aj @iL @DM))) (aj (aj @qY (aj @tK @QI)) (aj (aj @yP @aMt) (aj @aDo @Zq)))))) (aj (aj (aj (aj (aj @Zr (aj @aAu @aHs)) (aj @QJ (aj @qM @oG))) (aj (aj @Se (aj @oU @Eb)) (aj (aj @yR @Ky) (aj @aMu @aDp)))) (aj (aj (aj @QK (aj @aAv @aHt)) (aj @aAw (aj @nN @vG))) (aj (aj @aDq (aj @aAx @LB)) (aj (aj @XG @qW) (aj @SM @Kq))))) (aj (aj (aj (aj @SN (aj @Cf @VY)) (aj @Ea (aj @VZ @E4))) (aj (aj @aAy (aj @aHu @Nc)) (aj (aj @Dy @FE) (aj @jL @aMv)))) (aj (aj (aj @aDr (aj @WA @WB)) (aj @E5 (aj @aAz @aHv))) (aj (aj @aDs (aj @Dx @xB)) (aj (aj @uS @aAA) (aj @J0 @I9))))))
def E8:=EV
def L8:=LE
def R8:=RD
def F8:=aj FA FT
def EGn:=aj (aj (aj (aj (aj (aj @List.size_toArray.{0} @iT) (aj @lP @iU)) (aj (aj @jW @lR) (aj @NK @NL))) (aj (aj (aj @XY @FM) (aj @EB @PB)) (aj (aj @VA @UW) (aj @OK (aj @eY @dG))))) (aj (aj (aj (aj @cA @B6) (aj @UY @B7)) (aj (aj @W1 @W3) (aj @ON (aj @OO @OP)))) (aj (aj (aj @OQ @OR) (aj @OS @OT)) (aj (aj @OU @OV) (aj @OW (aj @OX @OY)))))) (aj (aj (aj (aj (aj @OZ @PA) (aj @aFW @Y3)) (aj (aj @Wq @YF) (aj @aCr (aj @B8 @aCs)))) (aj (aj (aj @W9 @aFT) (aj @X0 @BM)) (aj (aj @HU @PC) (aj @aCt (aj @X3 @X4))))) (aj (aj (aj (aj @aCu @HV) (aj @X5 @HW)) (aj (aj @VB @VC) (aj @X6 (aj @VD @aFU)))) (aj (aj (aj @aCv @SW) (aj @aCw @X7)) (aj (aj @X8 @X9) (aj @aFV (aj @B9 @Y0))))))
def ZC:=aj (aj L8 R8) F8
def Z8:=aj EV ZC
def ZG:=aj (aj EGn @B4) Z8
end Go.Ab.Tryz
namespace Go.Ab.Tryz
open Go.Ab
theorem Fo:(((aE 0 2 (some 2)=[])∧((aE 1 13 (some 11)=[])∧(aE 2 17 (some 22)=[])))∧(((aE 3 4 (some 37)=[])∧(aE 4 8 (some 40)=[]))∧((aE 5 10 (some 48)=[])∧(aE 6 9 (some 56)=[(4,7)]))))∧(((aE 7 6 (some 63)=[])∧((aE 8 6 (some 68)=[])∧(aE 9 9 (some 73)=[])))∧(((aE 10 18 (some 82)=[])∧(aE 11 4 (some 99)=[]))∧((aE 12 3 (some 103)=[])∧(aE 13 2 (some 105)=[])))):=⟨⟨⟨rfl,⟨rfl,rfl⟩⟩,⟨⟨rfl,rfl⟩,⟨rfl,rfl⟩⟩⟩,⟨⟨rfl,⟨rfl,rfl⟩⟩,⟨⟨rfl,rfl⟩,⟨rfl,rfl⟩⟩⟩⟩
theorem aFo:((aE 0 5 (some 2)=[])∧((aE 1 5 (some 9)=[])∧(aE 2 2 (some 13)=[])))∧(((aE 3 5 (some 15)=[])∧(aE 4 4 (some 17)=[]))∧((aE 5 8 (some 19)=[])∧(aE 6 9 (some 26)=[(5,6)]))):=⟨⟨rfl,⟨rfl,rfl⟩⟩,⟨⟨rfl,rfl⟩,⟨rfl,rfl⟩⟩⟩
theorem FY:(((aE 0 5 (some 2)=[])∧(aE 1 1 (some 7)=[]))∧((aE 2 5 (some 9)=[])∧(aE 4 11 (some 16)=[])))∧(((aE 5 7 (some 27)=[])∧(aE 6 13 (some 32)=[]))∧((aE 7 5 (some 44)=[(1,2)])∧((aE 3 3 (some 14)=[])∧(aE 8 5 (some 46)=[])))):=⟨⟨⟨rfl,rfl⟩,⟨rfl,rfl⟩⟩,⟨⟨rfl,rfl⟩,⟨rfl,⟨rfl,rfl⟩⟩⟩⟩
theorem rW:(((((aE 0 2 (some 3)=[])∧(aE 1 7 (some 12)=[]))∧((aE 2 4 (some 18)=[])∧(aE 3 14 (some 22)=[])))∧(((aE 4 8 (some 35)=[])∧(aE 5 23 (some 41)=[]))∧((aE 6 9 (some 62)=[])∧((aE 7 5 (some 71)=[])∧(aE 8 4 (some 75)=[])))))∧((((aE 9 9 (some 79)=[])∧(aE 10 7 (some 87)=[]))∧((aE 11 6 (some 93)=[])∧((aE 12 13 (some 97)=[])∧(aE 13 4 (some 110)=[]))))∧(((aE 14 6 (some 114)=[])∧(aE 15 4 (some 119)=[]))∧((aE 16 15 (some 122)=[])∧((aE 17 12 (some 137)=[(7,9)])∧(aE 18 11 (some 147)=[]))))))∧(((((aE 19 5 (some 158)=[])∧(aE 20 8 (some 162)=[(3,5)]))∧((aE 21 3 (some 168)=[])∧((aE 22 2 (some 172)=[])∧(aE 23 6 (some 173)=[]))))∧(((aE 24 2 (some 179)=[])∧(aE 25 5 (some 180)=[]))∧((aE 26 2 (some 185)=[])∧((aE 27 5 (some 186)=[])∧(aE 28 2 (some 191)=[])))))∧((((aE 29 9 (some 192)=[])∧(aE 30 2 (some 201)=[]))∧((aE 31 5 (some 202)=[])∧((aE 32 2 (some 207)=[])∧(aE 33 16 (some 208)=[]))))∧(((aE 34 2 (some 224)=[])∧(aE 35 5 (some 225)=[]))∧((aE 36 2 (some 230)=[])∧((aE 37 3 (some 231)=[])∧(aE 38 2 (some 233)=[])))))):=⟨⟨⟨⟨⟨rfl,rfl⟩,⟨rfl,rfl⟩⟩,⟨⟨rfl,rfl⟩,⟨rfl,⟨rfl,rfl⟩⟩⟩⟩,⟨⟨⟨rfl,rfl⟩,⟨rfl,⟨rfl,rfl⟩⟩⟩,⟨⟨rfl,rfl⟩,⟨rfl,⟨rfl,rfl⟩⟩⟩⟩⟩,⟨⟨⟨⟨rfl,rfl⟩,⟨rfl,⟨rfl,rfl⟩⟩⟩,⟨⟨rfl,rfl⟩,⟨rfl,⟨rfl,rfl⟩⟩⟩⟩,⟨⟨⟨rfl,rfl⟩,⟨rfl,⟨rfl,rfl⟩⟩⟩,⟨⟨rfl,rfl⟩,⟨rfl,⟨rfl,rfl⟩⟩⟩⟩⟩⟩
theorem Pv:(((aE 0 6 (some 3)=[])∧(aE 1 10 (some 13)=[(5,8)]))∧((aE 2 5 (some 19)=[])∧((aE 3 2 (some 24)=[])∧(aE 4 5 (some 25)=[]))))∧(((aE 5 2 (some 30)=[])∧(aE 6 12 (some 31)=[]))∧((aE 7 36 (some 41)=[])∧((aE 8 5 (some 114)=[])∧(aE 9 5 (some 116)=[(1,2)])))):=⟨⟨⟨rfl,rfl⟩,⟨rfl,⟨rfl,rfl⟩⟩⟩,⟨⟨rfl,rfl⟩,⟨rfl,⟨rfl,rfl⟩⟩⟩⟩
theorem sG:((((aE 0 4 (some 3)=[])∧(aE 1 13 (some 16)=[]))∧((aE 2 2 (some 23)=[])∧((aE 3 2 (some 25)=[])∧(aE 4 7 (some 26)=[]))))∧(((aE 5 6 (some 32)=[])∧(aE 6 8 (some 37)=[(1,4)]))∧((aE 7 2 (some 43)=[])∧((aE 8 2 (some 45)=[])∧(aE 9 14 (some 47)=[])))))∧((((aE 10 6 (some 59)=[])∧(aE 11 3 (some 65)=[]))∧((aE 12 9 (some 68)=[])∧((aE 13 1 (some 13)=[])∧(aE 14 1 (some 14)=[]))))∧(((aE 15 6 (some 74)=[])∧((aE 17 9 (some 82)=[])∧(aE 18 10 (some 91)=[])))∧((aE 16 3 (some 80)=[])∧((aE 19 4 (some 100)=[])∧(aE 20 2 (some 103)=[]))))):=⟨⟨⟨⟨rfl,rfl⟩,⟨rfl,⟨rfl,rfl⟩⟩⟩,⟨⟨rfl,rfl⟩,⟨rfl,⟨rfl,rfl⟩⟩⟩⟩,⟨⟨⟨rfl,rfl⟩,⟨rfl,⟨rfl,rfl⟩⟩⟩,⟨⟨rfl,⟨rfl,rfl⟩⟩,⟨rfl,⟨rfl,rfl⟩⟩⟩⟩⟩
theorem Iz:(((aE 0 2 (some 1)=[])∧(aE 1 3 (some 5)=[]))∧((aE 2 2 (some 7)=[])∧((aE 3 1 (some 4)=[])∧(aE 4 4 (some 8)=[]))))∧(((aE 6 9 (some 14)=[])∧((aE 7 10 (some 23)=[])∧(aE 8 7 (some 32)=[])))∧((aE 9 13 (some 39)=[])∧((aE 5 3 (some 12)=[])∧(aE 10 2 (some 51)=[])))):=⟨⟨⟨rfl,rfl⟩,⟨rfl,⟨rfl,rfl⟩⟩⟩,⟨⟨rfl,⟨rfl,rfl⟩⟩,⟨rfl,⟨rfl,rfl⟩⟩⟩⟩
theorem Wv:((((aE 0 3 (some 2)=[])∧(aE 1 4 (some 14)=[]))∧((aE 2 10 (some 17)=[])∧(aE 3 1 (some 9)=[])))∧(((aE 4 4 (some 22)=[])∧(aE 5 4 (some 25)=[]))∧((aE 6 1 (some 10)=[])∧(aE 7 1 (some 11)=[]))))∧((((aE 8 3 (some 29)=[])∧(aE 10 5 (some 34)=[]))∧((aE 11 2 (some 38)=[])∧(aE 12 1 (some 12)=[])))∧(((aE 13 7 (some 40)=[])∧(aE 14 5 (some 45)=[]))∧((aE 15 8 (some 50)=[])∧((aE 9 3 (some 32)=[])∧(aE 16 6 (some 56)=[(2,3)]))))):=⟨⟨⟨⟨rfl,rfl⟩,⟨rfl,rfl⟩⟩,⟨⟨rfl,rfl⟩,⟨rfl,rfl⟩⟩⟩,⟨⟨⟨rfl,rfl⟩,⟨rfl,rfl⟩⟩,⟨⟨rfl,rfl⟩,⟨rfl,⟨rfl,rfl⟩⟩⟩⟩⟩
theorem K3:((aE 0 3 (some 1)=[])∧((aE 1 5 (some 5)=[])∧(aE 2 8 (some 8)=[])))∧((aE 3 3 (some 16)=[])∧((aE 4 5 (some 17)=[(0,2)])∧(aE 5 5 (some 20)=[(1,3)]))):=⟨⟨rfl,⟨rfl,rfl⟩⟩,⟨rfl,⟨rfl,rfl⟩⟩⟩
theorem Jm:((((aE 0 2 (some 1)=[])∧(aE 1 8 (some 6)=[]))∧((aE 2 1 (some 2)=[])∧((aE 3 7 (some 15)=[])∧(aE 4 2 (some 19)=[]))))∧(((aE 5 2 (some 21)=[])∧((aE 6 5 (some 22)=[])∧(aE 7 2 (some 25)=[])))∧((aE 8 2 (some 28)=[])∧((aE 9 4 (some 29)=[])∧(aE 10 2 (some 33)=[])))))∧((((aE 11 4 (some 34)=[])∧((aE 12 2 (some 38)=[])∧(aE 13 4 (some 39)=[])))∧((aE 14 2 (some 43)=[])∧((aE 15 4 (some 44)=[])∧(aE 16 2 (some 48)=[]))))∧(((aE 17 4 (some 49)=[])∧((aE 18 2 (some 53)=[])∧(aE 19 8 (some 54)=[(3,5)])))∧((aE 20 4 (some 60)=[])∧((aE 21 1 (some 2)=[])∧(aE 22 1 (some 2)=[]))))):=⟨⟨⟨⟨rfl,rfl⟩,⟨rfl,⟨rfl,rfl⟩⟩⟩,⟨⟨rfl,⟨rfl,rfl⟩⟩,⟨rfl,⟨rfl,rfl⟩⟩⟩⟩,⟨⟨⟨rfl,⟨rfl,rfl⟩⟩,⟨rfl,⟨rfl,rfl⟩⟩⟩,⟨⟨rfl,⟨rfl,rfl⟩⟩,⟨rfl,⟨rfl,rfl⟩⟩⟩⟩⟩
theorem KU:((aE 0 2 (some 3)=[])∧(aE 1 1 (some 5)=[]))∧((aE 2 15 (some 6)=[])∧((aE 3 3 (some 21)=[])∧(aE 4 13 (some 23)=[(7,10)]))):=⟨⟨rfl,rfl⟩,⟨rfl,⟨rfl,rfl⟩⟩⟩
theorem Am:((((aE 0 3 (some 1)=[])∧(aE 1 3 (some 9)=[]))∧((aE 2 3 (some 12)=[])∧(aE 3 5 (some 13)=[])))∧(((aE 4 3 (some 17)=[])∧(aE 5 7 (some 19)=[]))∧((aE 6 4 (some 26)=[])∧((aE 7 7 (some 28)=[])∧(aE 8 4 (some 34)=[])))))∧((((aE 9 3 (some 37)=[])∧(aE 10 1 (some 6)=[]))∧((aE 11 4 (some 39)=[])∧((aE 13 8 (some 45)=[])∧(aE 14 12 (some 53)=[]))))∧(((aE 15 11 (some 65)=[])∧(aE 16 2 (some 73)=[]))∧((aE 17 7 (some 75)=[])∧((aE 12 3 (some 43)=[])∧(aE 18 3 (some 81)=[]))))):=⟨⟨⟨⟨rfl,rfl⟩,⟨rfl,rfl⟩⟩,⟨⟨rfl,rfl⟩,⟨rfl,⟨rfl,rfl⟩⟩⟩⟩,⟨⟨⟨rfl,rfl⟩,⟨rfl,⟨rfl,rfl⟩⟩⟩,⟨⟨rfl,rfl⟩,⟨rfl,⟨rfl,rfl⟩⟩⟩⟩⟩
theorem aKo:((aE 0 2 (some 3)=[])∧(aE 1 14 (some 5)=[(3,5),(3,8),(6,8),(3,11),(6,11),(9,11)]))∧((aE 2 8 (some 18)=[(3,5)])∧((aE 3 8 (some 25)=[(3,5)])∧(aE 4 13 (some 32)=[(4,7),(4,10),(8,10)]))):=⟨⟨rfl,rfl⟩,⟨rfl,⟨rfl,rfl⟩⟩⟩
theorem aDU:((aE 0 3 (some 1)=[])∧(aE 1 4 (some 5)=[]))∧((aE 2 2 (some 8)=[])∧((aE 3 3 (some 10)=[])∧(aE 4 14 (some 11)=[(5,7),(5,10),(8,10)]))):=⟨⟨rfl,rfl⟩,⟨rfl,⟨rfl,rfl⟩⟩⟩
theorem LK:(((aE 0 3 (some 1)=[])∧(aE 1 4 (some 6)=[]))∧((aE 2 2 (some 2)=[])∧(aE 3 14 (some 10)=[(7,9),(7,10)])))∧(((aE 4 1 (some 5)=[])∧(aE 5 5 (some 23)=[]))∧((aE 7 8 (some 30)=[])∧((aE 6 3 (some 28)=[])∧(aE 8 3 (some 37)=[])))):=⟨⟨⟨rfl,rfl⟩,⟨rfl,rfl⟩⟩,⟨⟨rfl,rfl⟩,⟨rfl,⟨rfl,rfl⟩⟩⟩⟩
theorem K9:((aE 0 3 (some 1)=[])∧(aE 1 8 (some 4)=[]))∧((aE 2 2 (some 2)=[])∧(aE 3 13 (some 12)=[(7,9)])):=⟨⟨rfl,rfl⟩,⟨rfl,rfl⟩⟩
theorem aJ4:(aE 0 2 (some 3)=[])∧(aE 1 8 (some 5)=[(3,5)]):=⟨rfl,rfl⟩
theorem aDT:(aE 0 2 (some 3)=[])∧(aE 1 14 (some 5)=[(3,5),(3,8),(6,8),(3,11),(6,11),(9,11)]):=⟨rfl,rfl⟩
theorem We:((aE 0 1 (some 4)=[])∧((aE 1 1 (some 5)=[])∧(aE 2 12 (some 6)=[])))∧(((aE 3 3 (some 18)=[])∧(aE 4 12 (some 20)=[]))∧((aE 5 2 (some 32)=[])∧(aE 6 12 (some 33)=[(6,9)]))):=⟨⟨rfl,⟨rfl,rfl⟩⟩,⟨⟨rfl,rfl⟩,⟨rfl,rfl⟩⟩⟩
end Go.Ab.Tryz
namespace Go.Ab.Tryz
open Classical Go.Proofs Go.Ab
theorem Gc (x:Int) (h1:-9223372036854775808≤x) (h2:x≤9223372036854775807):IntKind.i64.wrap x=x:=wrap_i64 x h1 h2
theorem c87 (ns:List Node) (i:Int):aD Tryz.prog 87 [.agg (cP ⟨ns⟩),.v (.int .i64 i)]=some (.v (.bool (decide (0≤i) && decide (i<ns.length)))):=by
 rw[cL Tryz.func87 rfl aSY rfl];by_cases h:0≤i
 all_goals
  simp only[ZZ,seval,h,decide_true,decide_false,Bool.false_eq_true,Bool.true_and,Bool.false_and];exact bX rfl (by simp only[EV,seval]) (.v _)
theorem QM (ns:List Node) (i:Int) (st:St) (d:Option Nat):aP (aD Tryz.prog) 87 [.agg (cP ⟨ns⟩),.v (.int .i64 i)] st d=some { dst:=d,val:=.v (.bool (decide (0≤i) && decide (i<ns.length)))}:=bT (bI (nG _) (.v _)) (c87 ns i) (.v _)
def RC (n:Int):Bool:=decide (0≤n) && decide (n≤2)
theorem aM4 (i:Int):aD Tryz.prog 186 [.v (.int .i64 i)]=some (.v (.bool (RC i))):=by
 rw[cL Tryz.func186 rfl aMn rfl];by_cases h:0≤i
 all_goals
  simp only[ZZ,seval,h,decide_true,decide_false,Bool.false_eq_true,Bool.true_and,Bool.false_and];exact bX rfl (by simp only[EV,seval,RC,h,decide_true,decide_false,Bool.false_and,Bool.true_and]) (.v _)
noncomputable def aM (ns:List Node) (r:cC):Int:=match ns.findIdx? (fun n=>decide (n.block.root=r)) with
 | some k=>(k:Int)
 | none=>-1
theorem Vj {ns:List Node} {r:cC} {i:Int} (h0:0≤i) (h1:i<ns.length) (hr:(nd ns i).block.root=r) (hb:∀j,0≤j→j<i→(nd ns j).block.root≠r):aM ns r=i:=by
 obtain⟨hi,e⟩:=Ge h0 h1
 have:ns.findIdx? (fun n=>decide (n.block.root=r))=some i.toNat:=by
  rw[List.findIdx?_eq_some_iff_getElem];refine⟨hi,by simp[← e,hr],fun j hj=>?_⟩
  have h:=hb j (by omega) (by omega)
  have E9:j<ns.length:=by omega
  simp[nd,E9] at h
  simpa using h
 unfold aM;rw[this];simp;omega
theorem Vk {ns:List Node} {r:cC} (hb:∀j,0≤j→j<(ns.length:Int)→(nd ns j).block.root≠r):aM ns r=-1:=by
 have:ns.findIdx? (fun n=>decide (n.block.root=r))=none:=by
  rw[List.findIdx?_eq_none_iff];intro n hn;obtain⟨j,hj,rfl⟩:=List.getElem_of_mem hn
  have h:=hb j (by omega) (by omega)
  simp[nd,hj] at h
  simpa using h
 unfold aM;rw[this]
theorem c46 (ns:List Node) (r:cC) (hn:(ns.length:Int)<1000000):aD Tryz.prog 46 [.agg (cP ⟨ns⟩),.agg (aV r)]=some (.v (.int .i64 (aM ns r))):=by
 rw[cL Tryz.func46 rfl aSW rfl];simp only[ZZ,seval];refine lB (fun n st=>∃i:Int,st.env 2=.ptr 2 0 0∧st.env 3=.ptr 3 0 0∧st.heap 2 0=some (.cells (cP ⟨ns⟩))∧st.heap 3 0=some (.cells (aV r))∧st.env 5=.v (.int .i64 i)∧0≤i∧i≤ns.length∧n=(ns.length-i).toNat ∧
  ∀j,0≤j→j<i→(nd ns j).block.root≠r)
  (fun e st=>(e=.ret∧st.env 4=.v (.int .i64 (aM ns r)))∨(e=.exit 0∧aM ns r=-1)) ns.length ?step ?start ?rest
 case step =>
  rintro n st ⟨i,h2,h3,wF,hh3,h5,i0,i1,Hz,hb⟩
  by_cases bA:i<ns.length
  ·have hw:IntKind.i64.wrap (i+1)=i+1:=Gc _ (by omega) (by omega)
   by_cases hr:(nd ns i).block.root=r
   ·apply oT (.ret)
    ·simp only[ZZ,seval,h2,h3,wF,hh3,h5,bA,i0,hr];rfl
    ·exact .inl ⟨rfl,by simp only[EV,seval,Vj i0 bA hr hb]⟩
   ·apply oN ((ns.length-(i+1)).toNat)
    ·simp only[ZZ,seval,h2,h3,wF,hh3,h5,bA,i0,hr,hw];rfl
    ·exact⟨i+1,by simp only[EV,seval,h2],by simp only[EV,seval,h3],by simp only[EV,seval,wF],by simp only[EV,seval,hh3],(by simp only[EV,seval]),by omega,by omega,rfl,fun j j0 j1=>by
     rcases Int.lt_or_eq_of_le (show j≤i by omega) with h|rfl
     ·exact hb j j0 h
     ·exact hr⟩
  ·apply oT (.exit 0)
   ·simp only[ZZ,seval,h2,h3,wF,hh3,h5,bA,i0];rfl
   ·exact .inr ⟨rfl,Vk fun j j0 j1=>hb j j0 (by omega)⟩
 case start=>exact⟨0,(by simp only[EV,seval]),(by simp only[EV,seval]),(by simp only[EV,seval]),(by simp only[EV,seval]),(by simp only[EV,seval]),by omega,by omega,by omega,fun j _ _=>by omega⟩
 case rest =>
  rintro e st (⟨rfl,h⟩|⟨rfl,h⟩)
  ·simp only[ZZ,seval];exact bX rfl h (.v _)
  ·simp only[ZZ,seval];exact bX rfl (by simp only[EV,seval,h]) (.v _)
theorem q49 (args:List AV) (st:St) (d:Option Nat):aP (aD Tryz.prog) 49 args st d=rO (aD Tryz.prog) 49 (cF (args.map (eT st))) (decide (∀x∈args,Flat x)) st d:=lC _ _ _ _ _
theorem c49 (l:List Int) (a:Int) (hn:(l.length:Int)<1000000):aD Tryz.prog 49 [.sl l.length (aJ l),.v (.int .i64 a)]=some (.v (.bool (decide (a∈l)))):=by
 rw[cL Tryz.func49 rfl aMl rfl];simp only[ZZ,seval];refine lB (fun n st=>∃i:Int,st.env 0=.sl l.length (aJ l)∧st.env 1=.v (.int .i64 a)∧st.env 5=.v (.int .i64 i)∧0≤i∧i≤l.length∧n=(l.length-i).toNat∧∀j,0≤j→j<i→it l j≠a)
  (fun e st=>(e=.ret∧st.env 4=.v (.bool (decide (a∈l))))∨(e=.exit 0∧decide (a∈l)=false)) l.length ?step ?start ?rest
 case step =>
  rintro n st ⟨i,h0,h1,h5,i0,i1,Hz,hb⟩
  by_cases bA:i<l.length
  ·have hw:IntKind.i64.wrap (i+1)=i+1:=Gc _ (by omega) (by omega)
   obtain⟨hi,he⟩:=wI i0 bA
   by_cases hr:it l i=a
   ·have hm:decide (a∈l)=true:=by rw[decide_eq_true_eq,← hr,he];exact List.getElem_mem hi
    have hbq:(it l i == a)=true:=by simp[hr]
    apply oT (.ret)
    ·simp only[ZZ,seval,h0,h1,h5,bA,i0,hbq];rfl
    ·exact .inl ⟨rfl,by simp only[EV,seval,hm]⟩
   ·have hbq:(it l i == a)=false:=by simp[hr]
    apply oN ((l.length-(i+1)).toNat)
    ·simp only[ZZ,seval,h0,h1,h5,bA,i0,hbq,hw];rfl
    ·exact⟨i+1,by simp only[EV,seval,h0],by simp only[EV,seval,h1],(by simp only[EV,seval]),by omega,by omega,rfl,fun j j0 j1=>by
     rcases Int.lt_or_eq_of_le (show j≤i by omega) with h|rfl
     ·exact hb j j0 h
     ·exact hr⟩
  ·apply oT (.exit 0)
   ·simp only[ZZ,seval,h0,h1,h5,bA,i0];rfl
   ·exact .inr ⟨rfl,by
    rw[decide_eq_false_iff_not];intro hm;obtain⟨j,hj,rfl⟩:=List.getElem_of_mem hm
    exact hb j (by omega) (by omega) (by simp[it,hj])⟩
 case start=>exact⟨0,(by simp only[EV,seval]),(by simp only[EV,seval]),(by simp only[EV,seval]),by omega,by omega,by omega,fun j _ _=>by omega⟩
 case rest =>
  rintro e st (⟨rfl,h⟩|⟨rfl,h⟩)
  ·simp only[ZZ,seval];exact bX rfl h (.v _)
  ·simp only[ZZ,seval];exact bX rfl (by simp only[EV,seval,h]) (.v _)
theorem aJt (a:Int):aD Tryz.prog 49 [.v (.slice none 0 0),.v (.int .i64 a)]=some (.v (.bool false)):=by
 rw[cL Tryz.func49 rfl aMl rfl];simp only[ZZ,seval,Gd,Int.natCast_zero,Int.lt_irrefl,decide_false];exact bX rfl (by simp only[EV,seval]) (.v _)
theorem k49 (l:List Int) (a:Int) (hn:(l.length:Int)<1000000) (fl:Bool) (st:St) (d:Option Nat):rO (aD Tryz.prog) 49 (some [.sl l.length (aJ l),.v (.int .i64 a)]) fl st d=some { dst:=d,val:=.v (.bool (decide (a∈l)))}:=FU (c49 l a hn)
theorem aS2 (a:Int) (fl:Bool) (st:St) (d:Option Nat):rO (aD Tryz.prog) 49 (some [.v (.slice none 0 0),.v (.int .i64 a)]) fl st d=some { dst:=d,val:=.v (.bool false)}:=FU (aJt a)
def gU (ns:List Node):Prop:=∀i:Int,0<i→i<ns.length→0≤(nd ns i).up∧(nd ns i).up<i
def Zs (ns:List Node):Nat→Int→List Int
 | 0,_=>[]
 | f+1,i=>if i=0 then [0] else Zs ns f (nd ns i).up++[i]
def path (ns:List Node) (i:Int):List Int:=if 0≤i∧i<ns.length then Zs ns (i.toNat+1) i else []
theorem Zt {ns:List Node} (h:gU ns):∀(f g:Nat) (i:Int),0≤i→i<ns.length→i.toNat<f→i.toNat<g→Zs ns f i=Zs ns g i
 | 0,_,i,_,_,h1,_=>by omega
 | f+1,0,i,_,_,_,h2=>by omega
 | f+1,g+1,i,i0,i1,h1,h2=>by
   simp only[Zs];by_cases hi:i=0
   ·rw[if_pos hi,if_pos hi]
   ·obtain⟨u0,u1⟩:=h i (by omega) i1
    rw[if_neg hi,if_neg hi,Zt h f g (nd ns i).up u0 (by omega) (by omega) (by omega)]
theorem qT {ns:List Node} (h:0<ns.length):path ns 0=[0]:=by
 unfold path;rw[if_pos ⟨by omega,by omega⟩]
 rfl
theorem qU {ns:List Node} (h:gU ns) {i:Int} (i0:0<i) (i1:i<ns.length):path ns i=path ns (nd ns i).up++[i]:=by
 obtain⟨u0,u1⟩:=h i i0 i1
 unfold path;rw[if_pos ⟨by omega,i1⟩,if_pos ⟨u0,by omega⟩]
 show Zs ns (i.toNat+1) i=_
 rw[Zs,if_neg (by omega)]
 rw[Zt h i.toNat ((nd ns i).up.toNat+1) (nd ns i).up u0 (by omega) (by omega) (by omega)]
theorem xN {ns:List Node} {i:Int} (h:¬(0≤i∧i<ns.length)):path ns i=[]:=if_neg h
theorem aAB {ns:List Node} (h:gU ns):∀(k:Nat) (i:Int),i.toNat=k→0≤i→i<ns.length→(path ns i).length≤i+1:=by
 intro k;induction k using Nat.strongRecOn with
 | _ k ih =>
   intro i hk i0 i1;by_cases hi:i=0
   ·subst hi;rw[qT (by omega)];simp
   ·obtain⟨u0,u1⟩:=h i (by omega) i1
    rw[qU h (by omega) i1]
    have:=ih (nd ns i).up.toNat (by omega) _ rfl u0 (by omega)
    simp only[List.length_append,List.length_singleton];omega
theorem zX {ns:List Node} (h:gU ns) (i:Int):((path ns i).length:Int)≤ns.length:=by
 by_cases hi:0≤i∧i<ns.length
 ·have:=aAB h _ i rfl hi.1 hi.2;omega
 ·rw[xN hi];simp
theorem aS3 (ns:List Node) (i:Int) (h:¬(0≤i∧i<ns.length)):aD Tryz.prog 76 [.agg (cP ⟨ns⟩),.v (.int .i64 i)]=some (.v (.slice none 0 0)):=by
 rw[cL Tryz.func76 rfl aMm rfl];have hd:(decide (0≤i) && decide (i<ns.length))=false:=by
  rw[← Bool.not_eq_true];simpa using h
 simp only[ZZ,seval,QM,hd];exact bX rfl (by simp only[EV,seval]) (.v _)
theorem c76 (ns:List Node) (hu:gU ns) (hn:(ns.length:Int)<1000000):∀(k:Nat) (i:Int),i.toNat=k→0≤i→i<ns.length→aD Tryz.prog 76 [.agg (cP ⟨ns⟩),.v (.int .i64 i)]=some (.uniq 3 1 (path ns i).length (aJ (path ns i))):=by
 intro k;induction k using Nat.strongRecOn with
 | _ k ih =>
   intro i hk i0 i1;have hd:(decide (0≤i) && decide (i<ns.length))=true:=by simp[i0,i1]
   rw[cL Tryz.func76 rfl aMm rfl];by_cases hi:i=0
   ·subst hi;simp only[ZZ,seval,QM,hd,i1,beq_self_eq_true];exact rP rfl (by simp only[EV,seval];rfl) (by simp only[EV,seval,qT (show 0<ns.length by omega)];rfl) (fG _)
   ·obtain⟨u0,u1⟩:=hu i (by omega) i1
    have hq:(i == 0)=false:=by simp[hi]
    have hr:=ih (nd ns i).up.toNat (by omega) _ rfl u0 (by omega)
    have hc:∀(st:St) (d:Nat),aP (aD Tryz.prog) 76 [.agg (cP ⟨ns⟩),.v (.int .i64 (nd ns i).up)] st (some d)=some { dst:=some d,val:=.own d (st.aO d),new:=some (d,[.row 3 1 (path ns (nd ns i).up).length (aJ (path ns (nd ns i).up))])}:=fun st d=>iW (bI (nG _) (.v _)) hr
    have hl:((path ns (nd ns i).up).length:Int)<1000000:=by have:=zX hu (nd ns i).up;omega
    simp only[ZZ,seval,QM,hd,hq,i0,i1,hc,hl];exact rP rfl (by simp only[EV,seval];rfl) (by simp only[EV,seval,qU hu (show 0<i by omega) i1]) (fG _)
theorem k76 (ns:List Node) (hu:gU ns) (hn:(ns.length:Int)<1000000) (i:Int) (i0:0≤i) (i1:i<ns.length) (st:St) (d:Nat):aP (aD Tryz.prog) 76 [.agg (cP ⟨ns⟩),.v (.int .i64 i)] st (some d)=some { dst:=some d,val:=.own d (st.aO d),new:=some (d,[.row 3 1 (path ns i).length (aJ (path ns i))])}:=iW (bI (nG _) (.v _)) (c76 ns hu hn _ i rfl i0 i1)
theorem YT (ns:List Node) (i:Int) (h:¬(0≤i∧i<ns.length)) (st:St) (d:Option Nat):aP (aD Tryz.prog) 76 [.agg (cP ⟨ns⟩),.v (.int .i64 i)] st d=some { dst:=d,val:=.v (.slice none 0 0)}:=bT (bI (nG _) (.v _)) (aS3 ns i h) (.v _)
def zY (ns:List Node) (a b:Int):Bool:=decide (a∈path ns b)
theorem c47 (ns:List Node) (hu:gU ns) (hn:(ns.length:Int)<1000000) (a b:Int):aD Tryz.prog 47 [.agg (cP ⟨ns⟩),.v (.int .i64 a),.v (.int .i64 b)]=some (.v (.bool (zY ns a b))):=by
 rw[cL Tryz.func47 rfl aSX rfl];by_cases hb:0≤b∧b<ns.length
 ·have hl:((path ns b).length:Int)<1000000:=by have:=zX hu b;omega
  simp only[ZZ,seval,k76 ns hu hn b hb.1 hb.2,q49,k49,hl];exact bX rfl (by simp only[EV,seval,zY]) (.v _)
 ·simp only[ZZ,seval,YT ns b hb,q49,aS2];exact bX rfl (by simp only[EV,seval,zY,xN hb,List.not_mem_nil,decide_false]) (.v _)
theorem Mm (ns:List Node) (hu:gU ns) (hn:(ns.length:Int)<1000000) (a b:Int) (st:St) (d:Option Nat):aP (aD Tryz.prog) 47 [.agg (cP ⟨ns⟩),.v (.int .i64 a),.v (.int .i64 b)] st d=some { dst:=d,val:=.v (.bool (zY ns a b))}:=bT (mC (nG _) (.v _) (.v _)) (c47 ns hu hn a b) (.v _)
end Go.Ab.Tryz
