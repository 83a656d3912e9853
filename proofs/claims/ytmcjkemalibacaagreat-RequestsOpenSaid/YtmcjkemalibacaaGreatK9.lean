/-
  Part 9 of the proof: an evaluator of programs, its soundness, and what functions of this program compute.
-/
import Derived.Test.YtmcjkemalibacaaGreatK8
import Derived.Test.YtmcjkemalibacaaGreatK5
set_option linter.all false
set_option maxRecDepth 20000
set_option maxHeartbeats 40000000
section
namespace Go.Ab
open Classical
instance:Inhabited Node:=⟨y8⟩
def nd (ns:List Node) (i:Int):Node:=ns.getD i.toNat y8
def it (l:List Int) (i:Int):Int:=l.getD i.toNat 0
theorem Mz {ns:List Node} {i:Int} (h0:0≤i) (h1:i<ns.length):∃h:i.toNat<ns.length,nd ns i=ns[i.toNat]:=by
 have h:i.toNat<ns.length:=by omega
 exact⟨h,by simp[nd,h]⟩
theorem xN {l:List Int} {i:Int} (h0:0≤i) (h1:i<l.length):∃h:i.toNat<l.length,it l i=l[i.toNat]:=by
 have h:i.toNat<l.length:=by omega
 exact⟨h,by simp[it,h]⟩
theorem TL (l:List Int):aJ l=l.map fun x=>.v (.int .i64 x):=by
 induction l with
 | nil=>rfl
 | cons a l ih=>simp only[aJ,List.flatMap_cons,List.map_cons,pX] at *;rw[ih];rfl
theorem NF (l:List Int):bE l=l.map fun x=>.v (.int .u64 x):=by
 induction l with
 | nil=>rfl
 | cons a l ih=>simp only[bE,List.flatMap_cons,List.map_cons,sS] at *;rw[ih];rfl
theorem K7 (a b:List Int):aJ (a++b)=aJ a++aJ b:=by simp[aJ]
theorem CV (a b:List Node):cB (a++b)=cB a++cB b:=by simp[cB]
theorem F1 (l:List Int):∀c∈aJ l,fR c:=by rw[TL];intro c hc;obtain⟨x,_,rfl⟩:=List.mem_map.1 hc;exact .v _
theorem K8 {l:List Int} {i:Int} (h0:0≤i) (h1:i<l.length):(aJ l)[i.toNat]? = some (.v (.int .i64 (it l i))):=by
 obtain⟨h,e⟩:=xN h0 h1
 rw[TL,List.getElem?_map,List.getElem?_eq_getElem h,e];rfl
theorem F0 {l:List Int} {i:Int} (h0:0≤i) (h1:i<l.length):(bE l)[i.toNat]? = some (.v (.int .u64 (it l i))):=by
 obtain⟨h,e⟩:=xN h0 h1
 rw[NF,List.getElem?_map,List.getElem?_eq_getElem h,e];rfl
theorem YY {ns:List Node} {i:Int} (h0:0≤i) (h1:i<ns.length):((cB ns).drop (i.toNat * 240)).take 240=fF (nd ns i):=by
 obtain⟨h,e⟩:=Mz h0 h1
 rw[e,← J3 ns i.toNat h];rfl
theorem MO:((1:Nat)=0)=False:=by simp
theorem MP:((0:Nat)=1)=False:=by simp
theorem cU {x:AV} (h:Flat x):∀y∈[x],Flat y:=by simpa using h
theorem bG {x y:AV} (h:Flat x) (h':Flat y):∀z∈[x,y],Flat z:=by simp[h,h']
theorem nA {x y u:AV} (h:Flat x) (h':Flat y) (h2:Flat u):∀z∈[x,y,u],Flat z:=by simp[h,h',h2]
theorem mZ (t:Tree):Flat (.agg (cT t)):=.agg _ (YA t)
theorem vC (t:Block):Flat (.agg (aT t)):=.agg _ (Cd t)
theorem qP (t:cA):Flat (.agg (aV t)):=.agg _ (dF t)
theorem Sl (l:List Int):Flat (.sl l.length (aJ l)):=.sl _ _ (gD l)
theorem aDE (st:St) (n:Nat) (cs:List AV):aQ st (.sl n cs)=some (n,cs):=rfl
theorem aA0 (st:St):aQ st (.v (.slice none 0 0))=some (0,[]):=rfl
theorem aIa (x:Int):pX x=[.v (.int .i64 x)]:=rfl
theorem aIb (x:Int):sS x=[.v (.int .u64 x)]:=rfl
theorem aDF (x:Bool):vF x=[.v (.bool x)]:=rfl
namespace Tryz
open Go.Proofs
theorem aNt (st:St) {ns:List Node} {k:IntKind} {i:Int} (h0:0≤i) (h1:i<ns.length):bD Tryz.prog st 48 (.sl ns.length (cB ns)) (.v (.int k i))=some (.ip (fF (nd ns i)) 0):=by
 have hl:i.toNat<ns.length:=by omega
 have:i.toNat * 240+240≤ns.length * 240:=by rw[← Nat.succ_mul];exact Nat.mul_le_mul_right _ hl
 simp only[bD,aH7,TJ,h0,h1,Ng,this,and_self,if_true,YY h0 h1]
theorem aEj (st:St) {l:List Int} {k:IntKind} {i:Int} (h0:0≤i) (h1:i<l.length):bD Tryz.prog st 22 (.sl l.length (aJ l)) (.v (.int k i))=some (.ip (pX (it l i)) 0):=by
 obtain⟨h,e⟩:=xN h0 h1
 have:i.toNat * 1+1≤l.length * 1:=by omega
 have hr:=aAB l i.toNat h
 simp only[bD,aDD,Na,h0,h1,Ki,this,and_self,if_true,e,← hr];rfl
theorem aA1 {call:Nat→List AV→Option AV} {ops:Array Oper} {st:St} {d:Option Nat} {T:Nat} {pos:String} {eH:Array Edge} (g:Nat) (args:Array Operand) (rZ:Array Nat) (h:(g == 215 || g == 226 || g == 227 || g == 229 || g == 228 || g == 230 || g == 231 || g == 210 || g == 81 || g == 217 || g == 222 || g == 235 || g == 220 || g == 101 || g == 57 || g == 32 || (g == 43 && d == some 72) || (g == 31 && d == some 40) || (g == 31 && d == some 56))=false) :
 cD Tryz.prog call ops ⟨d,.call ⟨.value (.func g),args,rZ⟩,T,pos,eH,none⟩ st=cH (aM call g (args.toList.map st.ev) st d) fun e=>some (e.apply st):=by
 simp only[Bool.or_eq_false_iff] at h;exact aCX g args rZ (aDg (by simp only[h,Bool.or_self])) (aAT (by simp only[h,Bool.or_self])) (K1 (by simp only[h]))
theorem K9 {call:Nat→List AV→Option AV} {ops:Array Oper} {st:St} {d:Option Nat} {T:Nat} {pos:String} {eH:Array Edge} (g:Nat) (args:Array Operand) (rZ:Array Nat) (h:(g == 215 || g == 226 || g == 227 || g == 229 || g == 228 || g == 230 || g == 231 || g == 210 || g == 81)=true) :
 cD Tryz.prog call ops ⟨d,.call ⟨.value (.func g),args,rZ⟩,T,pos,eH,none⟩ st=cH (lI call g (args.toList.map st.ev) st d) fun e=>some (e.apply st):=aAu g args rZ (z5 h)
theorem aA2 {call:Nat→List AV→Option AV} {ops:Array Oper} {st:St} {d:Option Nat} {T:Nat} {pos:String} {eH:Array Edge} (g:Nat) (args:Array Operand) (rZ:Array Nat) (h:(g == 217 || g == 222 || g == 235 || g == 220 || g == 101 || g == 57 || g == 32 || (g == 43 && d == some 72) || (g == 31 && d == some 40))=true) :
 cD Tryz.prog call ops ⟨d,.call ⟨.value (.func g),args,rZ⟩,T,pos,eH,none⟩ st=cH (eI call g (args.toList.map st.ev) st d) fun e=>some (e.apply st):=by
 refine XT g args rZ ?_ (aAU h)
 simp only[Bool.or_eq_true,Bool.and_eq_true,beq_iff_eq] at h;rcases h with (((((((h|h)|h)|h)|h)|h)|h)|⟨h,_⟩)|⟨h,_⟩<;>(subst h;rfl)
theorem aNu {S d:Nat} (h:((S == 54 && (d == 36 || d == 42 || d == 26)) || (S == 45 && (d == 84 || d == 91)))=false):Ext.va S d=false:=y9 (by
 simp only[Bool.or_eq_false_iff,Bool.and_eq_false_iff] at h ⊢;exact h.1.imp id fun h=>h.2)
theorem aNv {S d:Nat} (h:((S == 54 && (d == 36 || d == 42 || d == 26)) || (S == 45 && (d == 84 || d == 91)))=false):Ext.pa S d=false:=aDf (by
 simp only[Bool.or_eq_false_iff,Bool.and_eq_false_iff] at h ⊢;exact⟨h.1.imp id fun h=>h.1,h.2⟩)
theorem aA3 {S d:Nat} (h:((S == 54 && (d == 36 || d == 42)) || (S == 45 && (d == 84 || d == 91)))=true):Ext.va S d=false:=y9 (by
 by_cases h2:d=26
 ·subst h2;simp at h
 ·simp[h2])
theorem aDG {call:Nat→List AV→Option AV} {ops:Array Oper} {st:St} {T:Nat} {pos:String} {eH:Array Edge} (s x:Operand) (S d:Nat) (h:((S == 54 && (d == 36 || d == 42 || d == 26)) || (S == 45 && (d == 84 || d == 91)))=false):cD Tryz.prog call ops ⟨some d,.call ⟨.builtin .append,#[s,x],#[S,S]⟩,T,pos,eH,none⟩ st=cH (cZ Tryz.prog st S (st.ev s) (st.ev x)) fun ur =>
 some (((match ur.1 with|some p=>st.jA p.1 p.2 none|none=>st).new d ur.2).put (some d) (.own d (st.aP d))):=BM s x S d (aNu h) (aNv h)
theorem iJ {call:Nat→List AV→Option AV} {ops:Array Oper} {st:St} {T:Nat} {pos:String} {eH:Array Edge} (s x:Operand) (S d:Nat) (h:((S == 54 && (d == 36 || d == 42)) || (S == 45 && (d == 84 || d == 91)))=true) (hn:¬(st.ev s=.v (.slice none 0 0)∧(aQ st (st.ev x)).map Prod.fst=some 0)):cD Tryz.prog call ops ⟨some d,.call ⟨.builtin .append,#[s,x],#[S,S]⟩,T,pos,eH,none⟩ st=cH (cZ Tryz.prog st S (st.ev s) (st.ev x)) fun ur =>
 some (((match ur.1 with|some p=>st.jA p.1 p.2 none|none=>st).new d ur.2).put (some d) (.own d (st.aP d))):=aAw s x S d (aA3 h) (z4 h) hn
theorem iI {call:Nat→List AV→Option AV} {ops:Array Oper} {st:St} {T:Nat} {pos:String} {eH:Array Edge} (s x:Operand) (S d:Nat) (h:((S == 54 && (d == 36 || d == 42)) || (S == 45 && (d == 84 || d == 91)))=true) (hi:(dL Tryz.prog S).isSome=true) (h1:st.ev s=.v (.slice none 0 0)) (h2:(aQ st (st.ev x)).map Prod.fst=some 0):cD Tryz.prog call ops ⟨some d,.call ⟨.builtin .append,#[s,x],#[S,S]⟩,T,pos,eH,none⟩ st=some (st.put (some d) (.v (.slice none 0 0))):=aAx s x S d (aA3 h) (z4 h) hi h1 h2
end Tryz
end Go.Ab
end
section
namespace Go.Ab
open Classical
noncomputable def sN (call:Nat→List AV→Option AV) (g:Nat) (xs:Option (List AV)) (fl:Bool) (st:St) (d:Option Nat):Option qE :=
 cH xs fun xs=>cH (call g xs) fun r=>if fl=true∨Xr r then iU r st d else none
theorem Dp {st:St}:∀(args:List AV),(∀x∈args,Flat x)→cM (args.map (fG st))=some args
 | [],_=>rfl
 | x :: xs,h=>by
   simp only[List.map_cons,dM (h x (by simp)),cM,Dp xs fun y hy=>h y (by simp[hy]),Option.map_some]
theorem lN (call:Nat→List AV→Option AV) (g:Nat) (args:List AV) (st:St) (d:Option Nat):aM call g args st d=sN call g (cM (args.map (fG st))) (decide (∀x∈args,Flat x)) st d:=by
 unfold aM sN;by_cases h:∀x∈args,Flat x
 ·rw[if_pos h,Dp args h];have hd:decide (∀x∈args,Flat x)=true:=decide_eq_true h
  rw[hd];simp only[cK,true_or,if_true]
 ·rw[if_neg h];cases cM (args.map (fG st)) with
  | none=>rfl
  | some xs =>
    have hd:decide (∀x∈args,Flat x)=false:=decide_eq_false h
    rw[hd];simp only[cK,Bool.false_eq_true,false_or]
theorem C7 {call:Nat→List AV→Option AV} {g:Nat} {xs:List AV} {r:AV} {fl:Bool} {st:St} {d:Option Nat} (h:call g xs=some r) (hr:Xr r) (hf:Flat r):sN call g (some xs) fl st d=some { dst:=d,val:=r }:=by
 unfold sN;simp only[cK,h,hr,or_true,if_true,iU,if_pos hf]
theorem IC {call:Nat→List AV→Option AV} {g:Nat} {xs:List AV} {b:Bool} {fl:Bool} {st:St} {d:Option Nat} (h:call g xs=some (.v (.bool b))):sN call g (some xs) fl st d=some { dst:=d,val:=.v (.bool b)}:=C7 h (.v _) (.v _)
theorem Yl {call:Nat→List AV→Option AV} {g:Nat} {xs:List AV} {k:IntKind} {b:Int} {fl:Bool} {st:St} {d:Option Nat} (h:call g xs=some (.v (.int k b))):sN call g (some xs) fl st d=some { dst:=d,val:=.v (.int k b)}:=C7 h (.v _) (.v _)
theorem R6 {call:Nat→List AV→Option AV} {g:Nat} {xs:List AV} {e sz n:Nat} {cs:List AV} {fl:Bool} {st:St} {d:Nat} (h:call g xs=some (.uniq e sz n cs)) (hr:∀c∈cs,fR c):sN call g (some xs) fl st (some d)=some { dst:=some d,val:=.own d (st.aP d),new:=some (d,[.row e sz n cs])}:=by
 have UE:Xr (.uniq e sz n cs):=hr
 have hnf:¬Flat (.uniq e sz n cs):=by intro h;cases h
 unfold sN;simp only[cK,h,UE,or_true,if_true,iU,if_neg hnf];rfl
noncomputable def jH (o:Option mV):Option AV :=
 match o with
 | some (.row _ _ n cs)=>if ∀c∈cs,Flat c then some (.sl n cs) else none
 | _=>none
theorem vW (st:St) (s g:Nat):fG st (.own s g)=jH (st.heap s g):=by
 unfold fG cF jH;rw[if_neg (nC s g)];simp only[if_neg (nC s g)];cases st.heap s g with
 | none=>rfl
 | some e=>cases e<;>rfl
theorem L1 (e sz n:Nat) (l:List Int):jH (some (.row e sz n (aJ l)))=some (.sl n (aJ l)):=by
 unfold jH;simp only;rw[if_pos (gD l)]
theorem L3 (e sz n:Nat) (l:List Int):jH (some (.row e sz n (bE l)))=some (.sl n (bE l)):=by
 unfold jH;simp only;rw[if_pos (iC l)]
theorem YZ (e sz n:Nat) (l:List Node):jH (some (.row e sz n (cB l)))=some (.sl n (cB l)):=by
 unfold jH;simp only;rw[if_pos (jZ l)]
theorem TM (e sz:Nat) (x:Node):jH (some (.row e sz 1 (fF x)))=some (.sl [x].length (cB [x])):=by
 unfold jH;simp only;rw[if_pos (Nf x)];simp[cB]
theorem Sr (st:St) (x:Value):fG st (.v x)=some (.v x):=dM (.v x)
theorem Kb (st:St) (t:Tree):fG st (.agg (cT t))=some (.agg (cT t)):=dM (mZ t)
theorem Sx (st:St) (t:cA):fG st (.agg (aV t))=some (.agg (aV t)):=dM (qP t)
theorem Nk (st:St) (t:Block):fG st (.agg (aT t))=some (.agg (aT t)):=dM (vC t)
theorem aA4 (st:St) (n:Nat) (l:List Int):fG st (.sl n (aJ l))=some (.sl n (aJ l)):=dM (.sl _ _ (gD l))
theorem aA5 (st:St) (n:Nat) (l:List Int):fG st (.sl n (bE l))=some (.sl n (bE l)):=dM (.sl _ _ (iC l))
theorem aDH (st:St):fG st (.agg [.v (.slice none 0 0)])=some (.agg [.v (.slice none 0 0)]):=dM (.agg _ (by simp;exact .v _))
theorem gK {α:Type}:cM ([]:List (Option α))=some []:=rfl
theorem bL {α:Type} (x:α) (r:List (Option α)):cM (some x :: r)=(cM r).map (x :: ·):=rfl
theorem aDI (x:Int):xM 3 1 8 (some (1,[.v (.int .i64 x)]))=some (none,.row 3 1 [x].length (aJ [x])):=by
 simp[xM,maxLen];rfl
theorem aDJ (l:List Int) (x:Int) (s g:Nat) (h:(l.length:Int)<1000000):xY 3 1 8 (some (.row 3 1 l.length (aJ l))) s g (some (1,[.v (.int .i64 x)]))=some (some (s,g),.row 3 1 (l++[x]).length (aJ (l++[x]))):=by
 simp only[xY];rw[if_pos ⟨by simp,by simp,by simp,by omega,by simp only[maxLen];omega⟩,K7]
 simp[aJ,pX]
theorem aA6 (x:Node):xM 76 240 352 (some (1,fF x))=some (none,.row 76 240 [x].length (cB [x])):=by
 simp[xM,maxLen,cB]
theorem aA7 (l:List Node) (x:Node) (s g:Nat) (h:(l.length:Int)<1000000):xY 76 240 352 (some (.row 76 240 l.length (cB l))) s g (some (1,fF x))=some (some (s,g),.row 76 240 (l++[x]).length (cB (l++[x]))):=by
 simp only[xY];rw[if_pos ⟨by simp,by simp,by simp,by omega,by simp only[maxLen];omega⟩,CV]
 simp[cB]
theorem aA8 (l:List Node) (h:(l.length:Int)<1000000):xM 76 240 352 (some (l.length,cB l))=some (none,.row 76 240 l.length (cB l)):=by
 simp only[xM];rw[if_pos (by refine⟨by simp, ?_, ?_⟩<;>(try simp only[maxLen])<;>omega)]
theorem aA9 (l:List Node) (h:(l.length:Int)<1000000):acE 76 240 352 0 [] (some (l.length,cB l))=some (none,.row 76 240 l.length (cB l)):=by
 simp only[acE];rw[if_pos ⟨by simp,by simp,by simp,by omega,by simp only[maxLen];omega⟩]
 simp
theorem aBa (l:List Node) (x:Node) (h:(l.length:Int)<1000000):acE 76 240 352 l.length (cB l) (some (1,fF x))=some (none,.row 76 240 (l++[x]).length (cB (l++[x]))):=by
 simp only[acE];rw[if_pos (by refine⟨by simp,by simp,.inr (by omega), ?_, ?_⟩<;>(try simp only[maxLen])<;>omega),CV]
 simp[cB]
def onI {α:Type} (x:AV) (k:Int→Option α):Option α :=
 match x with
 | .v (.int .i64 v)=>k v
 | _=>none
def aFh {α:Type} (z:Nat) (x:AV) (k:List AV→Option α):Option α :=
 match x with
 | .agg cs=>if cs.length=z then k cs else none
 | _=>none
@[congr] theorem aI2 {α:Type} {x y:AV} {k:Int→Option α} (h:x=y):onI x k=onI y k:=by rw[h]
@[congr] theorem aFi {α:Type} {z:Nat} {x y:AV} {k:List AV→Option α} (h:x=y):aFh z x k=aFh z y k:=by rw[h]
def Nb {α:Type} (x:AV) (k:Int→Option α) (fb:Option α):Option α :=
 match x with
 | .v (.int .i64 v)=>k v
 | _=>fb
def TN {α:Type} (z:Nat) (x:AV) (k:List AV→Option α) (fb:Option α):Option α :=
 match x with
 | .agg cs=>if cs.length=z then k cs else fb
 | _=>fb
def TO {α:Type} (x:AV) (k:Nat→List AV→Option α) (fb:Option α):Option α :=
 match x with
 | .Da g cs=>k g cs
 | _=>fb
theorem aDK {α:Type} (v:Int) (k:Int→Option α) (fb:Option α):Nb (.v (.int .i64 v)) k fb=k v:=rfl
theorem L4 {α:Type} (z:Nat) (cs:List AV) (k:List AV→Option α) (fb:Option α) (h:cs.length=z):TN z (.agg cs) k fb=k cs:=if_pos h
theorem L5 {α:Type} (g:Nat) (cs:List AV) (k:Nat→List AV→Option α) (fb:Option α):TO (.Da g cs) k fb=k g cs:=rfl
@[congr] theorem aI3 {α:Type} {x y:AV} {k:Int→Option α} {fb:Option α} (h:x=y):Nb x k fb=Nb y k fb:=by rw[h]
@[congr] theorem aFj {α:Type} {z:Nat} {x y:AV} {k:List AV→Option α} {fb:Option α} (h:x=y):TN z x k fb=TN z y k fb:=by rw[h]
@[congr] theorem aFk {α:Type} {x y:AV} {k:Nat→List AV→Option α} {fb:Option α} (h:x=y):TO x k fb=TO y k fb:=by rw[h]
namespace Tryz
open Go.Proofs
theorem L6 (st:St) (x:AV):cZ Tryz.prog st 22 (.v (.slice none 0 0)) x=xM 3 1 8 (aQ st x):=tA Na x
theorem L7 (st:St) (s g:Nat) (x:AV):cZ Tryz.prog st 22 (.own s g) x=xY 3 1 8 (st.heap s g) s g (aQ st x):=rV Na s g x
theorem L9 (st:St) (x:AV):cZ Tryz.prog st 48 (.v (.slice none 0 0)) x=xM 76 240 352 (aQ st x):=tA TJ x
theorem M0 (st:St) (s g:Nat) (x:AV):cZ Tryz.prog st 48 (.own s g) x=xY 76 240 352 (st.heap s g) s g (aQ st x):=rV TJ s g x
theorem aBb (st:St) (n:Nat) (cs:List AV) (x:AV):cZ Tryz.prog st 48 (.cl n cs) x=acE 76 240 352 n cs (aQ st x):=aGK TJ n cs x
theorem M1 (st:St) (s g:Nat) (k:IntKind) (i:Int):bD Tryz.prog st 22 (.own s g) (.v (.int k i))=DQ 3 1 (st.heap s g) s g i:=by
 simp only[bD,aDD,Na,DQ];cases st.heap s g with
 | none=>rfl
 | some e=>cases e<;>rfl
theorem M3 (st:St) (s g:Nat) (k:IntKind) (i:Int):bD Tryz.prog st 48 (.own s g) (.v (.int k i))=DQ 76 240 (st.heap s g) s g i:=by
 simp only[bD,aH7,TJ,DQ];cases st.heap s g with
 | none=>rfl
 | some e=>cases e<;>rfl
theorem aDL (l:List Int) (s g:Nat) (i:Int) (h0:0≤i) (h1:i<l.length):DQ 3 1 (some (.row 3 1 l.length (aJ l))) s g i=some (.ptr s g i.toNat):=by
 simp[DQ,h0,h1]
theorem aBc (l:List Node) (s g:Nat) (i:Int) (h0:0≤i) (h1:i<l.length):DQ 76 240 (some (.row 76 240 l.length (cB l))) s g i=some (.ptr s g (i.toNat * 240)):=by
 simp[DQ,h0,h1]
theorem TP (st:St) (s g:Nat):fG st (.agg [.own s g])=(jH (st.heap s g)).map fun y=>.agg [y]:=by
 have hn:¬Flat (.agg [.own s g]):=by intro h;cases h with|agg _ h=>exact nC s g (h _ (by simp))
 unfold fG jH;rw[if_neg hn];simp only[List.map_cons,List.map_nil];unfold cF;rw[if_neg (nC s g)];simp only
 cases st.heap s g with
 | none=>rfl
 | some e=>cases e with
   | row a b n cs =>
     by_cases h:∀c∈cs,Flat c
     ·simp only[if_pos h,cM,Option.map_some]
     ·simp only[if_neg h,cM,Option.map_none]
   | _=>rfl
theorem aIc (x:AV):rd [x] 0 1=[x]:=rfl
theorem aId (x y:AV):dJ [x] 0 [y] 1=[y]:=rfl
theorem aBd (x:AV) (t:Tree):dJ [x] 0 (cT t) 1=cT t:=rfl
theorem aBe (x:AV) (t:Tree):dJ (cT t) 0 [x] 1=[x]:=rfl
theorem pF {l:List Int} {i:Int} (h0:0≤i) (h1:i<l.length):(aJ l)[i.toNat]? = some (.v (.int .i64 (it l i))):=K8 h0 h1
def vow (o:Option mV):Option (Nat × List AV) :=
 match o with
 | some (.row _ _ n cs)=>some (n,cs)
 | some (.yD _ _ n cs)=>some (n,cs)
 | _=>none
theorem X6 (e sz n:Nat) (cs:List AV):vow (some (.yD e sz n cs))=some (n,cs):=rfl
theorem aDM (e sz n:Nat) (cs:List AV):vow (some (.row e sz n cs))=some (n,cs):=rfl
theorem HG (st:St) (s g:Nat):aQ st (.own s g)=vow (st.heap s g):=by
 simp only[aQ,vow];cases st.heap s g with
 | none=>rfl
 | some o=>cases o<;>rfl
section
variable {call:Nat→List AV→Option AV} {ops:Array Oper} {st:St} {T:Nat} {pos:String} {eH:Array Edge}
theorem aDN (d:Nat) (x:Operand) {v:Int} (h:st.ev x=.v (.int .i64 v)):cD Tryz.prog call ops ⟨some d,.buildSlice 22 1 #[(0,x)],T,pos,eH,none⟩ st=some ((st.new d (.row 3 1 1 [.v (.int .i64 v)])).put (some d) (.own d (st.aP d))):=by
 rw[kX];simp[Na,ze3,cH,h,AV.jQ,Value.oneCell',gR,AV.cells]
theorem aDO (d:Nat) (x:Operand) {cs:List AV} (h:st.ev x=.agg cs) (hl:cs.length=240):cD Tryz.prog call ops ⟨some d,.buildSlice 48 1 #[(0,x)],T,pos,eH,none⟩ st=some ((st.new d (.row 76 240 1 cs)).put (some d) (.own d (st.aP d))):=by
 rw[kX];have hz:(BS.map AV.v).length=240:=by rw[LB];simp
 simp only[TJ,aHe,cH,List.toList_toArray,List.all_cons,List.all_nil,h,AV.jQ,Bool.and_self,List.map_cons,List.map_nil,gR,AV.cells,hl,Nat.zero_mul,Nat.zero_add,true_and,List.take_zero,List.nil_append];have h2:((List.range 1).flatMap fun _=>BS.map AV.v)=BS.map AV.v:=by simp[List.range,List.range.loop]
 rw[h2,if_pos (by simp),if_pos (by rw[hz];exact Nat.le_refl _)]
 rw[List.drop_of_length_le (by rw[hz];exact Nat.le_refl _),List.append_nil]
theorem aBf (d:Nat) (x:Operand):cD Tryz.prog call ops ⟨some d,.buildSlice 22 1 #[(0,x)],T,pos,eH,none⟩ st =
 Nb (st.ev x) (fun v=>some ((st.new d (.row 3 1 1 [.v (.int .i64 v)])).put (some d) (.own d (st.aP d)))) (cD Tryz.prog call ops ⟨some d,.buildSlice 22 1 #[(0,x)],T,pos,eH,none⟩ st):=by
 unfold Nb;split
 ·rename_i v h;exact aDN d x h
 ·rfl
theorem M4 (d:Nat) (x y z:Operand) {a b c:Int} (h1:st.ev x=.v (.int .i64 a)) (h2:st.ev y=.v (.int .i64 b)) (h3:st.ev z=.v (.int .i64 c)):cD Tryz.prog call ops ⟨some d,.buildSlice 22 3 #[(0,x),(1,y),(2,z)],T,pos,eH,none⟩ st =
 some ((st.new d (.row 3 1 [a,b,c].length (aJ [a,b,c]))).put (some d) (.own d (st.aP d))):=by
 rw[kX];simp[Na,ze3,cH,h1,h2,h3,AV.jQ,Value.oneCell',gR,AV.cells,List.range,List.range.loop,aJ,pX]
theorem ZA (d:Nat) (x y z:Operand):cD Tryz.prog call ops ⟨some d,.buildSlice 22 3 #[(0,x),(1,y),(2,z)],T,pos,eH,none⟩ st =
 Nb (st.ev x) (fun a=>Nb (st.ev y) (fun b=>Nb (st.ev z) (fun c=>some ((st.new d (.row 3 1 [a,b,c].length (aJ [a,b,c]))).put (some d) (.own d (st.aP d)))) (cD Tryz.prog call ops ⟨some d,.buildSlice 22 3 #[(0,x),(1,y),(2,z)],T,pos,eH,none⟩ st))
  (cD Tryz.prog call ops ⟨some d,.buildSlice 22 3 #[(0,x),(1,y),(2,z)],T,pos,eH,none⟩ st)) (cD Tryz.prog call ops ⟨some d,.buildSlice 22 3 #[(0,x),(1,y),(2,z)],T,pos,eH,none⟩ st):=by
 unfold Nb;split
 ·rename_i a h1;try dsimp only
  split
  ·rename_i b h2;try dsimp only
   split
   ·rename_i c h3;exact M4 d x y z h1 h2 h3
   ·rfl
  ·rfl
 ·rfl
theorem aBg (d:Nat) (x:Operand):cD Tryz.prog call ops ⟨some d,.buildSlice 48 1 #[(0,x)],T,pos,eH,none⟩ st =
 TN 240 (st.ev x) (fun cs=>some ((st.new d (.row 76 240 1 cs)).put (some d) (.own d (st.aP d)))) (cD Tryz.prog call ops ⟨some d,.buildSlice 48 1 #[(0,x)],T,pos,eH,none⟩ st):=by
 unfold TN;split
 ·rename_i cs h;split
  ·rename_i hl;exact aDO d x h hl
  ·rfl
 ·rfl
theorem FP (S d:Nat) (l c:Operand):cD Tryz.prog call ops ⟨some d,.makeSlice S l c,T,pos,eH,none⟩ st =
 Nb (st.ev l) (fun n=>Nb (st.ev c) (fun m=>if 0≤n∧n=m then (cH (dL Tryz.prog S) fun t=>cH (dW Tryz.prog t.1) fun z =>
  if n * t.2.2≤140737488355328∧n≤maxLen then some ((st.new d (.row t.1 t.2.1 n.toNat ((List.range n.toNat).flatMap fun _=>z.map .v))).put (some d) (.own d (st.aP d))) else none)
  else cD Tryz.prog call ops ⟨some d,.makeSlice S l c,T,pos,eH,none⟩ st) (cD Tryz.prog call ops ⟨some d,.makeSlice S l c,T,pos,eH,none⟩ st)) (cD Tryz.prog call ops ⟨some d,.makeSlice S l c,T,pos,eH,none⟩ st):=by
 unfold Nb;split
 ·rename_i n hl;split
  ·rename_i m hc;dsimp only
   split
   ·rename_i hnm;obtain⟨h0,rfl⟩:=hnm
    have hn:n=(n.toNat:Int):=by omega
    rw[KV S d l c (n:=n.toNat) (by rw[hl,← hn]) (by rw[hc,← hn]),← hn]
   ·rfl
  ·rfl
 ·rfl
theorem M5 (t:Nat) (args:Array Operand) (rZ:Array Nat) (d:Option Nat):cD Tryz.prog call ops ⟨d,.call ⟨.value (.tmp t),args,rZ⟩,T,pos,eH,none⟩ st =
 TO (st.env t) (fun g oY=>cH (aM call g (args.toList.map st.ev++oY) st d) fun e=>some (e.apply st)) (cD Tryz.prog call ops ⟨d,.call ⟨.value (.tmp t),args,rZ⟩,T,pos,eH,none⟩ st):=by
 unfold TO;split
 ·rename_i g oY h;exact aAv t args rZ h
 ·rfl
end
end Tryz
end Go.Ab
end
namespace Go.Ab
open Classical
theorem Ou {h0:Nat→Obj→Prop} {w w':World} {v:Value} {p:Option Addr} {cap:Nat} (h:v=.slice p 0 cap):AH h0 w w' (.sl 0 []) v:=by
 subst h;exact Tj (.sl 0 [] (fun x hx=>by cases hx)) (.IB 0 cap p (Nat.zero_le _))
theorem TS [Ext] {P:Program} (hm:P.follows .mixedOrders=true) (hx:HH P) {f:Nat} (h:∀p cap,∃r,aC P f [.v (.slice p 0 cap)]=some r∧(r=.v (.slice none 0 0)∨∃e sz,r=.uniq e sz 0 [])):xU P f∧Tg P f [.sl 0 []] (.sl 0 []):=by
 have XA:xU P f:=by
  obtain⟨r,hr,_⟩:=h none 0
  obtain⟨n,hn⟩:=(rS P).1 hr
  exact (aAm hm hx n f _ r hn).1
 refine⟨XA,fun w h0 vs hh eY=>?_⟩
 have hl:=eY.len
 obtain⟨v,hv⟩:∃v,vs.toList=[v]:=by
  cases e:vs.toList with
  | nil=>rw[e] at hl;simp at hl
  | cons v r=>cases r with
    | nil=>exact⟨v,rfl⟩
    | cons _ _=>rw[e] at hl;simp at hl
 have Y5:vs=#[v]:=Array.ext' hv
 subst Y5;have h1:cS (bare h0) (.sl 0 []) v:=eY.rel 0 _ v rfl rfl
 obtain⟨p,cap,rfl⟩:=UQ h1
 obtain⟨r,hr,hc⟩:=h p cap
 have hC:Tg P f [.v (.slice p 0 cap)] r:=AF (P:=P) hm hx hr
 refine (hC w h0 #[.slice p 0 cap] hh ⟨rfl,fun i x y hx hy=>?_⟩).mono fun e w' ⟨v,he,hv,hg⟩=>⟨v,he, ?_,hg⟩
 ·cases i with
  | zero=>cases hx;cases hy;exact .v _
  | succ i=>cases hx
 obtain⟨us,_,_,_,h4,h5⟩:=hv
 rcases hc with rfl|⟨e,sz,rfl⟩
 ·have hl:us=[]:=List.length_eq_zero_iff.1 (h4 0 0).symm
  subst hl;have:=(h5 (bare (newHs h0 w w' [])) 0 0 (fun _ _ h=>h) (by simp)).1
  exact Ou (iH this)
 ·have hl:us.length=1:=(h4 0 0).symm
  obtain⟨u,rfl⟩:=List.length_eq_one_iff.1 hl
  have h6:=h5 ⟨newHs h0 w w' [u],fun _ _=>u,fun _=>1⟩ 0 0 (fun _ _ h=>h) (fun i x hx=>by
   cases i with
   | zero=>cases hx;exact⟨Nat.zero_lt_one,rfl⟩
   | succ i=>cases hx)
  have h7:v=u:=by
   have:=h6.1
   cases this
   rfl
  subst h7;obtain⟨xs,ho,_⟩:=h6.2 0 _ v rfl rfl
  rcases ho.2 with ⟨q,hq,_⟩|⟨b,c,cur,hq,_⟩
  ·exact Ou hq
  ·exact Ou hq
end Go.Ab
section
namespace Go.Ab.Tryz
open Classical Go.Proofs Go.Ab
theorem aIe:@bF aDe Tryz.f164=true:=by kernel_rfl
section
variable [E:Ext]
theorem aNw (p:Option Addr) (cap:Nat):gB Tryz.prog .eql 45 (.v (.slice p 0 cap)) (.v (.slice none 0 0))=some (.v (.bool p.isNone)):=by
 have h:sD Tryz.prog .eql 45 p.isNone=some (.v (.bool p.isNone)):=by cases p<;>kernel_rfl
 exact h
theorem sv0 (st:St) (p:Option Addr) (cap:Nat):aQ st (.v (.slice p 0 cap))=some (0,[]):=rfl
theorem aUp (hx:∀xs,E.ext 164 xs=none) (hk:E.qM 164=false) (hv:E.va 45 7=false) (hp:E.pa 45 7=false) (oR:bF Tryz.f164=true) (p:Option Addr) (cap:Nat):∃r,aC Tryz.prog 164 [.v (.slice p 0 cap)]=some r∧(r=.v (.slice none 0 0)∨∃e sz,r=.uniq e sz 0 []):=by
 rw[Qk Tryz.prog Tryz.func164 rfl oR _ (hx _) rfl];cases p with
 | none =>
   have h:=aNw none cap
   refine⟨.v (.slice none 0 0), ?_,.inl rfl⟩
   simp -implicitDefEqProofs only [Tryz.f164,cK,zW,jJ,zB,wD,zH,Kq,zC,Kr,Ee,wE,Kx,Ky,Kz,La,Lb,Lc,Ld,Lf,Lg,Lh,Mn,Eo,zG,wF,wG,Ed,Rd,Eg,Ts,Kt,rT,Em,Ek,tT,Ko,wC,zA,Eb,Ec,Km,zF,Ej,sV,pU,Kv,Kw,Ei,Ku,Eh,El,zD,rU,zI,wH,Ef,Tz,Ua,Et,Eu,Ex.inBlock,ge_iff_le,gt_iff_lt,Bool.or_false,Bool.false_or,Bool.false_and,Bool.or_true,Bool.not_true,Bool.not_false,Bool.false_eq_true,Bool.true_eq_false,List.getElem?_toArray,List.toList_toArray,Option.bind_some,Option.map_some,Option.getD_some,Option.getD_none,List.map_cons,List.map_nil,List.getElem?_cons_zero,List.getElem?_cons_succ,List.getElem?_nil,and_true,true_and,and_self,false_and,and_false,↓reduceIte,reduceCtorEq,if_true,if_false,decide_true,decide_false,not_false_eq_true,ne_eq,Nat.reduceEqDiff,Nat.reduceBEq,Nat.succ_ne_zero,Nat.add_zero,Nat.zero_add,seval,h,Option.isNone_none]
   exact RJ hk (.inl rfl) rfl (by simp only[cK,zW,jJ,zB,wD,zH,Kq,zC,Kr,Ee,wE,Kx,Ky,Kz,La,Lb,Lc,Ld,Lf,Lg,Lh,Mn,Eo,zG,wF,wG,Ed,Rd,Eg,Ts,Kt,rT,Em,Ek,tT,Ko,wC,zA,Eb,Ec,Km,zF,Ej,sV,pU,Kv,Kw,Ei,Ku,Eh,El,zD,rU,zI,wH,Ef,Tz,Ua,Et,Eu,Ex.inBlock,ge_iff_le,gt_iff_lt,Bool.or_false,Bool.false_or,Bool.false_and,Bool.or_true,Bool.not_true,Bool.not_false,Bool.false_eq_true,Bool.true_eq_false,List.getElem?_toArray,List.toList_toArray,Option.bind_some,Option.map_some,Option.getD_some,Option.getD_none,List.map_cons,List.map_nil,List.getElem?_cons_zero,List.getElem?_cons_succ,List.getElem?_nil,and_true,true_and,and_self,false_and,and_false,↓reduceIte,reduceCtorEq,if_true,if_false,decide_true,decide_false,not_false_eq_true,ne_eq,Nat.reduceEqDiff,Nat.reduceBEq,Nat.succ_ne_zero,Nat.add_zero,Nat.zero_add,seval]) (.v _)
 | some a =>
   have h:=aNw (some a) cap
   have ha:=fun s g=>Fv (e:=74) (sz:=238) (by_:=336) (s:=s) (g:=g) (n:=0) (cs:=[]) rfl (by decide) (by decide)
   refine⟨.uniq 74 238 0 [], ?_,.inr ⟨74,238,rfl⟩⟩
   simp -implicitDefEqProofs only [Tryz.f164,cK,zW,jJ,zB,wD,zH,Kq,zC,Kr,Ee,wE,Kx,Ky,Kz,La,Lb,Lc,Ld,Lf,Lg,Lh,Mn,Eo,zG,wF,wG,Ed,Rd,Eg,Ts,Kt,rT,Em,Ek,tT,Ko,wC,zA,Eb,Ec,Km,zF,Ej,sV,pU,Kv,Kw,Ei,Ku,Eh,El,zD,rU,zI,wH,Ef,Tz,Ua,Et,Eu,Ex.inBlock,ge_iff_le,gt_iff_lt,Bool.or_false,Bool.false_or,Bool.false_and,Bool.or_true,Bool.not_true,Bool.not_false,Bool.false_eq_true,Bool.true_eq_false,List.getElem?_toArray,List.toList_toArray,Option.bind_some,Option.map_some,Option.getD_some,Option.getD_none,List.map_cons,List.map_nil,List.getElem?_cons_zero,List.getElem?_cons_succ,List.getElem?_nil,and_true,true_and,and_self,false_and,and_false,↓reduceIte,reduceCtorEq,if_true,if_false,decide_true,decide_false,not_false_eq_true,ne_eq,Nat.reduceEqDiff,Nat.reduceBEq,Nat.succ_ne_zero,Nat.add_zero,Nat.zero_add,seval,h,Option.isNone_some,Og oB aDj,BM _ _ 45 7 hv hp,rV oB,sv0,ha]
   exact Qf (s:=7) (g:=0) hk (.inl rfl) rfl (by simp only[cK,zW,jJ,zB,wD,zH,Kq,zC,Kr,Ee,wE,Kx,Ky,Kz,La,Lb,Lc,Ld,Lf,Lg,Lh,Mn,Eo,zG,wF,wG,Ed,Rd,Eg,Ts,Kt,rT,Em,Ek,tT,Ko,wC,zA,Eb,Ec,Km,zF,Ej,sV,pU,Kv,Kw,Ei,Ku,Eh,El,zD,rU,zI,wH,Ef,Tz,Ua,Et,Eu,Ex.inBlock,ge_iff_le,gt_iff_lt,Bool.or_false,Bool.false_or,Bool.false_and,Bool.or_true,Bool.not_true,Bool.not_false,Bool.false_eq_true,Bool.true_eq_false,List.getElem?_toArray,List.toList_toArray,Option.bind_some,Option.map_some,Option.getD_some,Option.getD_none,List.map_cons,List.map_nil,List.getElem?_cons_zero,List.getElem?_cons_succ,List.getElem?_nil,and_true,true_and,and_self,false_and,and_false,↓reduceIte,reduceCtorEq,if_true,if_false,decide_true,decide_false,not_false_eq_true,ne_eq,Nat.reduceEqDiff,Nat.reduceBEq,Nat.succ_ne_zero,Nat.add_zero,Nat.zero_add,seval]) (by simp only[cK,zW,jJ,zB,wD,zH,Kq,zC,Kr,Ee,wE,Kx,Ky,Kz,La,Lb,Lc,Ld,Lf,Lg,Lh,Mn,Eo,zG,wF,wG,Ed,Rd,Eg,Ts,Kt,rT,Em,Ek,tT,Ko,wC,zA,Eb,Ec,Km,zF,Ej,sV,pU,Kv,Kw,Ei,Ku,Eh,El,zD,rU,zI,wH,Ef,Tz,Ua,Et,Eu,Ex.inBlock,ge_iff_le,gt_iff_lt,Bool.or_false,Bool.false_or,Bool.false_and,Bool.or_true,Bool.not_true,Bool.not_false,Bool.false_eq_true,Bool.true_eq_false,List.getElem?_toArray,List.toList_toArray,Option.bind_some,Option.map_some,Option.getD_some,Option.getD_none,List.map_cons,List.map_nil,List.getElem?_cons_zero,List.getElem?_cons_succ,List.getElem?_nil,and_true,true_and,and_self,false_and,and_false,↓reduceIte,reduceCtorEq,if_true,if_false,decide_true,decide_false,not_false_eq_true,ne_eq,Nat.reduceEqDiff,Nat.reduceBEq,Nat.succ_ne_zero,Nat.add_zero,Nat.zero_add,seval]<;>rfl) (fun c h=>by cases h)
end
theorem aIf:HH Tryz.prog:=fun g xs r h=>by
 have h:(bif g == 164 then clE xs else none)=some r:=h
 cases hg:g == 164 with
 | false=>rw[hg] at h;cases h
 | true =>
   rw[hg] at h;have hg:g=164:=by simpa using hg
   subst hg;have h:clE xs=some r:=h
   unfold clE at h;split at h
   ·cases h
    exact @TS aDe Tryz.prog mixed (fun _ _ _ h=>by cases h) 164 (@aUp aDe (fun _=>rfl) rfl rfl rfl aIe)
   ·cases h
end Go.Ab.Tryz
end
namespace Go.Ab
open Classical
theorem aDP (b:Bool):unA .not (.v (.bool b))=some (.v (.bool (!b))):=rfl
theorem aDQ (k:IntKind) (n:Int):unA .neg (.v (.int k n))=some (.v (.int k (k.wrap (0-n)))):=rfl
theorem aDR (k:IntKind) (n:Int):unA .xor (.v (.int k n))=some (.v (.int k (k.wrap (BitVec.ofInt k.bits (if k.signed then -1 else k.max) ^^^ BitVec.ofInt k.bits n).toNat))):=rfl
def aBh (a b:Option IntKind) (n:Int):Option AV :=
 match a,b with
 | some k,some _=>some (.v (.int k (k.wrap n)))
 | _,_=>none
theorem ZB (k k':IntKind) (n:Int):aBh (some k) (some k') n=some (.v (.int k (k.wrap n))):=rfl
theorem M6 (P:Program) (s d:Nat) (k:IntKind) (n:Int):Mn P s d (.v (.int k n))=aBh (intKind P d) (intKind P s) n:=by
 simp only[Mn,aBh];cases intKind P d with
 | none=>rfl
 | some a=>cases intKind P s<;>rfl
theorem aDS (s g o k:Nat):vL (.ptr s g o) k=some (.ptr s g (o+k)):=rfl
theorem aIg (cs:List AV) (o k:Nat):vL (.ip cs o) k=if o+k≤cs.length then some (.ip cs (o+k)) else none:=rfl
def sQ (P:Program) (T:Nat) (e:Option mV) (o:Nat):Option AV :=
 match e with
 | some (.cells cs)=>eK P T cs o
 | some (.row _ _ _ cs)=>eK P T cs o
 | some (.yD _ _ _ cs)=>eK P T cs o
 | _=>none
theorem TT (P:Program) (T o:Nat) (cs:List AV):sQ P T (some (.cells cs)) o=eK P T cs o:=rfl
theorem M7 (P:Program) (T o e sz n:Nat) (cs:List AV):sQ P T (some (.row e sz n cs)) o=eK P T cs o:=rfl
theorem aDT (P:Program) (st:St) (T o:Nat) (cs:List AV):Ha P st T (.ip cs o)=eK P T cs o:=rfl
theorem aBi (P:Program) (st:St) (T s g o:Nat):Ha P st T (.ptr s g o)=sQ P T (st.heap s g) o:=by
 simp only[Ha,sQ];cases st.heap s g with
 | none=>rfl
 | some e=>cases e<;>rfl
theorem aIh (x:Value):(AV.v x).jQ=x.oneCell':=rfl
theorem aBj (cs:List AV):(AV.agg cs).jQ=true:=rfl
theorem aDU (n:Nat) (cs:List AV):(AV.sl n cs).jQ=true:=rfl
theorem aDV (n:Nat) (cs:List AV):(AV.cl n cs).jQ=true:=rfl
theorem aDW (n:Nat) (cs:List AV):(AV.ip cs n).jQ=true:=rfl
theorem aBk (s g o:Nat):(AV.ptr s g o).jQ=true:=rfl
theorem aBl (s g:Nat):(AV.own s g).jQ=true:=rfl
theorem aDX (s g:Nat):(AV.mp s g).jQ=true:=rfl
theorem aBm (f:Nat) (cs:List AV):(AV.Da f cs).jQ=true:=rfl
theorem aNx (x:Value):(AV.v x).cells=[.v x]:=rfl
theorem aDY (cs:List AV):(AV.agg cs).cells=cs:=rfl
theorem aIi (n:Nat) (cs:List AV):(AV.sl n cs).cells=[.sl n cs]:=rfl
theorem aIj (n:Nat) (cs:List AV):(AV.cl n cs).cells=[.cl n cs]:=rfl
theorem aIk (n:Nat) (cs:List AV):(AV.ip cs n).cells=[.ip cs n]:=rfl
theorem aDZ (s g o:Nat):(AV.ptr s g o).cells=[.ptr s g o]:=rfl
theorem aD0 (s g:Nat):(AV.own s g).cells=[.own s g]:=rfl
theorem aIl (s g:Nat):(AV.mp s g).cells=[.mp s g]:=rfl
theorem aD1 (f:Nat) (cs:List AV):(AV.Da f cs).cells=[.Da f cs]:=rfl
theorem aD2 (k:IntKind) (n:Int):(Value.int k n).oneCell'=true:=rfl
theorem aBn (b:Bool):(Value.bool b).oneCell'=true:=rfl
theorem M8 (a:Option Addr) (n m:Nat):(Value.slice a n m).oneCell'=true:=rfl
theorem ZD (id:Nat):Ex.normal.inBlock id=.normal:=rfl
theorem aD3 (id:Nat):Ex.ret.inBlock id=.ret:=rfl
theorem aBo (id i:Nat):(Ex.exit i).inBlock id=if i=id then .normal else .exit i:=rfl
theorem aD4 (l:List Oper) (j:Nat):Rd l.toArray j=(l[j]?).bind (·.dst):=by simp[Rd]
theorem gei (a b:Int):(a≥b)=(b≤a):=rfl
theorem gti (a b:Int):(a > b)=(b<a):=rfl
theorem aUq (a b:Nat):(a≥b)=(b≤a):=rfl
theorem gtn (a b:Nat):(a > b)=(b<a):=rfl
end Go.Ab
section
namespace Go.Ab
open Classical
def cU8 (x:Int):List AV:=[.v (.int .u8 x)]
theorem aD5 (x:Int):(cU8 x).length=1:=rfl
theorem aBp (s:Int):∀x∈cU8 s,Flat x:=by intro x hx;simp[cU8] at hx;subst hx;exact .v _
def kD (l:List Int):List AV:=l.flatMap cU8
theorem vX (l:List Int):∀x∈kD l,Flat x:=by
 intro x hx;obtain⟨y,_,hy⟩:=List.mem_flatMap.1 hx
 exact aBp y x hy
section
variable {α:Type} {c:α→List AV} {sz:Nat}
theorem iL (hc:∀x,(c x).length=sz) (l:List α):(l.flatMap c).length=l.length * sz:=by
 induction l with
 | nil=>simp
 | cons x l ih=>simp only[List.flatMap_cons,List.length_append,hc,List.length_cons,ih];rw[Nat.succ_mul];omega
theorem yH (hc:∀x,(c x).length=sz):∀(l:List α) (k:Nat),(l.flatMap c).take (k * sz)=(l.take k).flatMap c
 | [],k=>by simp
 | x :: l,0=>by simp
 | x :: l,k+1=>by
   simp only[List.flatMap_cons,List.take_succ_cons];rw[List.take_append,List.take_of_length_le (by rw[hc,Nat.succ_mul];omega),hc,show (k+1) * sz-sz=k * sz by rw[Nat.succ_mul];omega,yH hc l k]
theorem yI (hc:∀x,(c x).length=sz):∀(l:List α) (k:Nat),(l.flatMap c).drop (k * sz)=(l.drop k).flatMap c
 | [],k=>by simp
 | x :: l,0=>by simp
 | x :: l,k+1=>by
   simp only[List.flatMap_cons,List.drop_succ_cons];rw[List.drop_append,List.drop_of_length_le (by rw[hc,Nat.succ_mul];omega),List.nil_append,hc,show (k+1) * sz-sz=k * sz by rw[Nat.succ_mul];omega,yI hc l k]
theorem Mw (hc:∀x,(c x).length=sz) {z:α} {l:List α} {i:Int} (h0:0≤i) (h1:i<l.length):((l.flatMap c).drop (i.toNat * sz)).take sz=c (gx z l i):=by
 obtain⟨h,e⟩:=YJ (z:=z) h0 h1
 rw[yI hc,e];have h2:=yH hc (l.drop i.toNat) 1
 rw[Nat.one_mul] at h2;rw[h2];have h3:(l.drop i.toNat).take 1=[l[i.toNat]]:=by rw[List.take_one];simp[List.head?_drop,h]
 rw[h3];simp
theorem MQ (hc:∀x,(c x).length=sz) (l:List α) (k:Nat) (x:α) (h:k<l.length):dJ (l.flatMap c) (k * sz) (c x) (k * sz+sz)=(l.set k x).flatMap c:=by
 unfold dJ;rw[yH hc,show k * sz+sz=(k+1) * sz by rw[Nat.succ_mul],yI hc,List.set_eq_take_append_cons_drop,if_pos h]
 simp
theorem HX [Ext] {P:Program} {T e n k off:Nat} (hc:∀x,(c x).length=sz) {z:α} {l:List α} {i:Int} (h0:0≤i) (h1:i<l.length) (hk:sY P T=some k) (uW:0<k) (ho:off+k≤sz) :
 sQ P T (some (.row e sz n (l.flatMap c))) (i.toNat * sz+off)=eK P T (c (gx z l i)) off:=by
 obtain⟨hn,_⟩:=YJ (z:=z) h0 h1
 have hat:=Mw hc (z:=z) h0 h1
 have hle:i.toNat * sz+sz≤(l.flatMap c).length:=by
  rw[iL hc,← Nat.succ_mul];exact Nat.mul_le_mul_right _ hn
 have Ay:=hc (gx z l i)
 simp only[sQ,eK];unfold sY at hk;cases hi:fO P T with
 | none=>rfl
 | some r =>
   obtain⟨b,k'⟩:=r
   rw[hi] at hk;simp only[Option.map_some,Option.some.injEq] at hk;subst hk;have hg:∀j,j<sz→(l.flatMap c)[i.toNat * sz+j]? = (c (gx z l i))[j]?:=fun j hj=>by
    rw[← hat,List.getElem?_take,if_pos hj,List.getElem?_drop]
   cases b with
   | true =>
     simp only
     have e1:rd (l.flatMap c) (i.toNat * sz+off) k'=rd (c (gx z l i)) off k':=by
      unfold rd;rw[← hat,List.drop_take,List.drop_drop,List.take_take,Nat.min_eq_left (by omega)]
     rw[e1];have l1:k'≤(l.flatMap c).length-(i.toNat * sz+off):=by omega
     have l2:k'≤(c (gx z l i)).length-off:=by omega
     rw[if_pos ⟨uW,l1⟩,if_pos ⟨uW,l2⟩]
   | false =>
     simp only
     exact hg off (by omega)
end
theorem aBq (ns:List Node):mT ⟨.sl ns.length (cB ns)⟩=cT ⟨ns⟩:=rfl
theorem CW (s:aN) (l:List Node):dJ (aB s) 115 (cT ⟨l⟩) 116=aB { s with tree:=⟨.sl l.length (cB l)⟩}:=Cz s ⟨.sl l.length (cB l)⟩
theorem CX (s:State) (l:List Node):dJ (aF s) 115 (cT ⟨l⟩) 116=aF { s with store:={ s.store with tree:=⟨.sl l.length (cB l)⟩} }:=yC s ⟨.sl l.length (cB l)⟩
namespace Tryz
open Go.Proofs
theorem M9 (st:St) (t:fV):fG st (.agg (bX t))=some (.agg (bX t)):=dM (.agg _ (dB t))
theorem MR (st:St) (t:Request):fG st (.agg (bN t))=some (.agg (bN t)):=dM (.agg _ (gL t))
theorem TU (st:St) (s:aN) (h:Flat (.agg (aB s))):fG st (.agg (aB s))=some (.agg (aB s)):=dM h
theorem TV (st:St) (s:State) (h:Flat (.agg (aF s))):fG st (.agg (aF s))=some (.agg (aF s)):=dM h
theorem IL {T n k off:Nat} {l:List fV} {i:Int} (h0:0≤i) (h1:i<l.length) (hk:sY Tryz.prog T=some k) (uW:0<k) (ho:off+k≤33):sQ Tryz.prog T (some (.row 41 33 n (zU l))) (i.toNat * 33+off)=eK Tryz.prog T (bX (gx gX l i)) off:=HX bQ h0 h1 hk uW ho
theorem l6 {T n k:Nat} {l:List fV} {i:Int} (h0:0≤i) (h1:i<l.length) (hk:sY Tryz.prog T=some k) (uW:0<k) (ho:k≤33):sQ Tryz.prog T (some (.row 41 33 n (zU l))) (i.toNat * 33)=eK Tryz.prog T (bX (gx gX l i)) 0:=by
 have h:=IL (n:=n) (off:=0) h0 h1 hk uW (by omega)
 rw[Nat.add_zero] at h;exact h
theorem Py (l:List fV) (i:Int) (x:fV) (h:i.toNat<l.length):dJ (zU l) (i.toNat * 33) (bX x) (i.toNat * 33+33)=zU (l.set i.toNat x):=by
 generalize i.toNat=k at h ⊢
 have:=MQ (c:=bX) (sz:=33) bQ l k x h
 exact this
theorem TW (st:St) (o:Option (List kM)):aQ st (ov cP o)=some ((ol o).length,cP (ol o)):=by cases o<;>rfl
theorem qV (o:Option (List kM)):Flat (ov cP o):=by
 cases o with
 | none=>exact .v _
 | some l=>exact .sl _ _ (nF l)
theorem aBr (st:St) {l:List kM} {kk:IntKind} {i:Int} (h0:0≤i) (h1:i<l.length):bD Tryz.prog st 37 (.sl l.length (cP l)) (.v (.int kk i))=some (.ip (jP (gx sR l i)) 0):=by
 have hl:i.toNat<l.length:=by omega
 have h2:i.toNat * 34+34≤(l.flatMap jP).length:=by rw[iL rW,← Nat.succ_mul];exact Nat.mul_le_mul_right _ hl
 have h3:((cP l).drop (i.toNat * 34)).take 34=jP (gx sR l i):=Mw rW h0 h1
 have h4:(cP l).length=(l.flatMap jP).length:=rfl
 (simp only[bD,aH5,K5,h0,h1,h4,h2,and_self,if_true,h3])<;>rfl
theorem aIm (st:St) {o:Option (List kM)} {kk:IntKind} {i:Int} (h0:0≤i) (h1:i<(ol o).length):bD Tryz.prog st 37 (ov cP o) (.v (.int kk i))=some (.ip (jP (gx sR (ol o) i)) 0):=by
 cases o with
 | none=>simp[ol] at h1;omega
 | some l=>exact aBr st h0 h1
theorem OH (l:List kM) (h:(l.length:Int)<1000000):xM 100 34 48 (some (l.length,cP l))=some (none,.row 100 34 l.length (cP l)):=by
 unfold xM;simp only
 rw[if_pos ⟨iL rW l,by omega,by simp only[maxLen];omega⟩]
theorem Xg (n:Nat) (l:List kM):jH (some (.row 100 34 n (cP l)))=some (.sl n (cP l)):=by
 unfold jH;simp only;rw[if_pos (nF l)]
theorem A1 {T n k off:Nat} {l:List kM} {i:Int} (h0:0≤i) (h1:i<l.length) (hk:sY Tryz.prog T=some k) (uW:0<k) (ho:off+k≤34):sQ Tryz.prog T (some (.row 100 34 n (cP l))) (i.toNat * 34+off)=eK Tryz.prog T (jP (gx sR l i)) off:=HX rW h0 h1 hk uW ho
theorem l8 {T n k:Nat} {l:List kM} {i:Int} (h0:0≤i) (h1:i<l.length) (hk:sY Tryz.prog T=some k) (uW:0<k) (ho:k≤34):sQ Tryz.prog T (some (.row 100 34 n (cP l))) (i.toNat * 34)=eK Tryz.prog T (jP (gx sR l i)) 0:=by
 have h:=A1 (n:=n) (off:=0) h0 h1 hk uW (by omega)
 rw[Nat.add_zero] at h;exact h
theorem IT (l:List kM) (i:Int) (x:kM) (h:i.toNat<l.length):dJ (cP l) (i.toNat * 34) (jP x) (i.toNat * 34+34)=cP (l.set i.toNat x):=by
 generalize i.toNat=k at h ⊢
 have:=MQ (c:=jP) (sz:=34) rW l k x h
 exact this
theorem ZE (st:St) (o:Option (List sH)):aQ st (ov dD o)=some ((ol o).length,dD (ol o)):=by cases o<;>rfl
theorem Yv (o:Option (List sH)) (h:∀y∈ol o,Flat y.eU):Flat (ov dD o):=by
 cases o with
 | none=>exact .v _
 | some l=>exact .sl _ _ (tG l h)
theorem aBs (st:St) {l:List sH} {kk:IntKind} {i:Int} (h0:0≤i) (h1:i<l.length):bD Tryz.prog st 44 (.sl l.length (dD l)) (.v (.int kk i))=some (.ip (gY (gx Lo l i)) 0):=by
 have hl:i.toNat<l.length:=by omega
 have h2:i.toNat * 67+67≤(l.flatMap gY).length:=by rw[iL iE,← Nat.succ_mul];exact Nat.mul_le_mul_right _ hl
 have h3:((dD l).drop (i.toNat * 67)).take 67=gY (gx Lo l i):=Mw iE h0 h1
 have h4:(dD l).length=(l.flatMap gY).length:=rfl
 (simp only[bD,aM3,aAZ,h0,h1,h4,h2,and_self,if_true,h3])<;>rfl
theorem aIn (st:St) {o:Option (List sH)} {kk:IntKind} {i:Int} (h0:0≤i) (h1:i<(ol o).length):bD Tryz.prog st 44 (ov dD o) (.v (.int kk i))=some (.ip (gY (gx Lo (ol o) i)) 0):=by
 cases o with
 | none=>simp[ol] at h1;omega
 | some l=>exact aBs st h0 h1
theorem JH (x:sH):xM 87 67 104 (some (1,gY x))=some (none,.row 87 67 [x].length (dD [x])):=by
 simp[xM,maxLen,dD]
theorem n8 (l:List sH) (h:(l.length:Int)<1000000):xM 87 67 104 (some (l.length,dD l))=some (none,.row 87 67 l.length (dD l)):=by
 unfold xM;simp only
 rw[if_pos ⟨iL iE l,by omega,by simp only[maxLen];omega⟩]
theorem Xi (l:List sH) (x:sH) (s g:Nat) (h:(l.length:Int)<1000000):xY 87 67 104 (some (.row 87 67 l.length (dD l))) s g (some (1,gY x))=some (some (s,g),.row 87 67 (l++[x]).length (dD (l++[x]))):=by
 simp only[xY];rw[if_pos ⟨by simp,trivial,trivial,by omega,by simp only[maxLen];omega⟩]
 simp[dD,List.flatMap_append]
theorem U1 (n:Nat) (l:List sH) (h:∀y∈l,Flat y.eU):jH (some (.row 87 67 n (dD l)))=some (.sl n (dD l)):=by
 unfold jH;simp only;rw[if_pos (tG l h)]
theorem MS (st:St) (o:Option (List Table)):aQ st (ov aR o)=some ((ol o).length,aR (ol o)):=by cases o<;>rfl
theorem lR (o:Option (List Table)) (h:∀y∈ol o,Flat y.jO):Flat (ov aR o):=by
 cases o with
 | none=>exact .v _
 | some l=>exact .sl _ _ (lS l h)
theorem nG (st:St) (o:Option (List Table)) (h:∀y∈ol o,Flat y.jO):fG st (ov aR o)=some (ov aR o):=dM (lR o h)
theorem MT (o:Option (List Table)):(ov aR o).jQ=true:=by cases o<;>rfl
theorem TX (o:Option (List Table)):(ov aR o).cells=[ov aR o]:=by cases o<;>rfl
theorem aBt (st:St) {l:List Table} {kk:IntKind} {i:Int} (h0:0≤i) (h1:i<l.length):bD Tryz.prog st 51 (.sl l.length (aR l)) (.v (.int kk i))=some (.ip (cI (gx iV l i)) 0):=by
 have hl:i.toNat<l.length:=by omega
 have h2:i.toNat * 34+34≤(l.flatMap cI).length:=by rw[iL fU,← Nat.succ_mul];exact Nat.mul_le_mul_right _ hl
 have h3:((aR l).drop (i.toNat * 34)).take 34=cI (gx iV l i):=Mw fU h0 h1
 have h4:(aR l).length=(l.flatMap cI).length:=rfl
 (simp only[bD,aM4,MN,h0,h1,h4,h2,and_self,if_true,h3])<;>rfl
theorem aIo (st:St) {o:Option (List Table)} {kk:IntKind} {i:Int} (h0:0≤i) (h1:i<(ol o).length):bD Tryz.prog st 51 (ov aR o) (.v (.int kk i))=some (.ip (cI (gx iV (ol o) i)) 0):=by
 cases o with
 | none=>simp[ol] at h1;omega
 | some l=>exact aBt st h0 h1
theorem HC (x:Table):xM 118 34 64 (some (1,cI x))=some (none,.row 118 34 [x].length (aR [x])):=by
 simp[xM,maxLen,aR]
theorem GP (l:List Table) (h:(l.length:Int)<1000000):xM 118 34 64 (some (l.length,aR l))=some (none,.row 118 34 l.length (aR l)):=by
 unfold xM;simp only
 rw[if_pos ⟨iL fU l,by omega,by simp only[maxLen];omega⟩]
theorem Ss (l:List Table) (x:Table) (s g:Nat) (h:(l.length:Int)<1000000):xY 118 34 64 (some (.row 118 34 l.length (aR l))) s g (some (1,cI x))=some (some (s,g),.row 118 34 (l++[x]).length (aR (l++[x]))):=by
 simp only[xY];rw[if_pos ⟨by simp,trivial,trivial,by omega,by simp only[maxLen];omega⟩]
 simp[aR,List.flatMap_append]
theorem GQ (l m:List Table) (s g:Nat) (h:(l.length:Int)<1000000) (h2:(m.length:Int)<1000000):xY 118 34 64 (some (.row 118 34 l.length (aR l))) s g (some (m.length,aR m))=some (some (s,g),.row 118 34 (l++m).length (aR (l++m))):=by
 simp only[xY];rw[if_pos ⟨iL fU m,trivial,trivial,by omega,by simp only[maxLen];omega⟩]
 simp[aR,List.flatMap_append]
theorem Qa (n:Nat) (l:List Table) (h:∀y∈l,Flat y.jO):jH (some (.row 118 34 n (aR l)))=some (.sl n (aR l)):=by
 unfold jH;simp only;rw[if_pos (lS l h)]
theorem aNy (st:St) (o:Option (List Table)) (hi:Operand):cX Tryz.prog st 51 (ov aR o) none (some hi)=Nb (st.ev hi) (fun j=>if 0≤j∧j≤(ol o).length then some (ov aR (o.map (·.take j.toNat))) else cX Tryz.prog st 51 (ov aR o) none (some hi)) (cX Tryz.prog st 51 (ov aR o) none (some hi)):=by
 unfold Nb;split
 ·rename_i j hj;dsimp only
  split
  ·rename_i hc;obtain⟨j0,j1⟩:=hc
   cases o with
   | none =>
     have:j=0:=by simp[ol] at j1;omega
     subst this;simp[cX,MN,ov,hj]
   | some l =>
     have j1:j≤l.length:=j1
     have hn:j.toNat≤l.length:=by omega
     simp only[cX,MN,ov,hj];rw[if_pos ⟨Int.le_refl _,j0,j1,iL fU l⟩];simp only[Int.toNat_zero,Nat.zero_mul,List.drop_zero,Int.sub_zero,Option.map_some];rw[show (aR l).take (j.toNat * 34)=aR (l.take j.toNat) from yH fU l j.toNat,List.length_take,Nat.min_eq_left hn]
  ·rfl
 ·rfl
theorem aD6 (st:St) (o:Option (List Table)) (lo:Operand):cX Tryz.prog st 51 (ov aR o) (some lo) none=Nb (st.ev lo) (fun j=>if 0≤j∧j≤(ol o).length then some (ov aR (o.map (·.drop j.toNat))) else cX Tryz.prog st 51 (ov aR o) (some lo) none) (cX Tryz.prog st 51 (ov aR o) (some lo) none):=by
 unfold Nb;split
 ·rename_i j hj;dsimp only
  split
  ·rename_i hc;obtain⟨j0,j1⟩:=hc
   cases o with
   | none =>
     have:j=0:=by simp[ol] at j1;omega
     subst this;simp[cX,MN,ov,hj]
   | some l =>
     have j1:j≤l.length:=j1
     have hn:j.toNat≤l.length:=by omega
     have e1:((l.length:Int)-j).toNat=l.length-j.toNat:=by omega
     simp only[cX,MN,ov,hj];rw[if_pos ⟨j0,j1,Int.le_refl _,iL fU l⟩];simp only[Option.map_some,e1];rw[show (aR l).drop (j.toNat * 34)=aR (l.drop j.toNat) from yI fU l j.toNat,List.length_drop,List.take_of_length_le];rw[show aR (l.drop j.toNat)=(l.drop j.toNat).flatMap cI from rfl,iL fU,List.length_drop];exact Nat.le_refl _
  ·rfl
 ·rfl
theorem MU (st:St) (o:Option (List Block)):aQ st (ov aH o)=some ((ol o).length,aH (ol o)):=by cases o<;>rfl
theorem Fx (o:Option (List Block)):Flat (ov aH o):=by
 cases o with
 | none=>exact .v _
 | some l=>exact .sl _ _ (pD l)
theorem aBu (st:St) {l:List Block} {kk:IntKind} {i:Int} (h0:0≤i) (h1:i<l.length):bD Tryz.prog st 45 (.sl l.length (aH l)) (.v (.int kk i))=some (.ip (aT (gx fD l i)) 0):=by
 have hl:i.toNat<l.length:=by omega
 have h2:i.toNat * 238+238≤(l.flatMap aT).length:=by rw[iL bM,← Nat.succ_mul];exact Nat.mul_le_mul_right _ hl
 have h3:((aH l).drop (i.toNat * 238)).take 238=aT (gx fD l i):=Mw bM h0 h1
 have h4:(aH l).length=(l.flatMap aT).length:=rfl
 (simp only[bD,aH6,oB,h0,h1,h4,h2,and_self,if_true,h3])<;>rfl
theorem aIp (st:St) {o:Option (List Block)} {kk:IntKind} {i:Int} (h0:0≤i) (h1:i<(ol o).length):bD Tryz.prog st 45 (ov aH o) (.v (.int kk i))=some (.ip (aT (gx fD (ol o) i)) 0):=by
 cases o with
 | none=>simp[ol] at h1;omega
 | some l=>exact aBu st h0 h1
theorem N0 (x:Block):xM 74 238 336 (some (1,aT x))=some (none,.row 74 238 [x].length (aH [x])):=by
 simp[xM,maxLen,aH]
theorem iQ (l:List Block) (h:(l.length:Int)<1000000):xM 74 238 336 (some (l.length,aH l))=some (none,.row 74 238 l.length (aH l)):=by
 unfold xM;simp only
 rw[if_pos ⟨iL bM l,by omega,by simp only[maxLen];omega⟩]
theorem HA (l:List Block) (x:Block) (s g:Nat) (h:(l.length:Int)<1000000):xY 74 238 336 (some (.row 74 238 l.length (aH l))) s g (some (1,aT x))=some (some (s,g),.row 74 238 (l++[x]).length (aH (l++[x]))):=by
 simp only[xY];rw[if_pos ⟨by simp,trivial,trivial,by omega,by simp only[maxLen];omega⟩]
 simp[aH,List.flatMap_append]
theorem rQ (l m:List Block) (s g:Nat) (h:(l.length:Int)<1000000) (h2:(m.length:Int)<1000000):xY 74 238 336 (some (.row 74 238 l.length (aH l))) s g (some (m.length,aH m))=some (some (s,g),.row 74 238 (l++m).length (aH (l++m))):=by
 simp only[xY];rw[if_pos ⟨iL bM m,trivial,trivial,by omega,by simp only[maxLen];omega⟩]
 simp[aH,List.flatMap_append]
theorem uH (n:Nat) (l:List Block):jH (some (.row 74 238 n (aH l)))=some (.sl n (aH l)):=by
 unfold jH;simp only;rw[if_pos (pD l)]
theorem TY {T n k off:Nat} {l:List Block} {i:Int} (h0:0≤i) (h1:i<l.length) (hk:sY Tryz.prog T=some k) (uW:0<k) (ho:off+k≤238):sQ Tryz.prog T (some (.row 74 238 n (aH l))) (i.toNat * 238+off)=eK Tryz.prog T (aT (gx fD l i)) off:=HX bM h0 h1 hk uW ho
theorem Ac {T n k:Nat} {l:List Block} {i:Int} (h0:0≤i) (h1:i<l.length) (hk:sY Tryz.prog T=some k) (uW:0<k) (ho:k≤238):sQ Tryz.prog T (some (.row 74 238 n (aH l))) (i.toNat * 238)=eK Tryz.prog T (aT (gx fD l i)) 0:=by
 have h:=TY (n:=n) (off:=0) h0 h1 hk uW (by omega)
 rw[Nat.add_zero] at h;exact h
theorem aNz (st:St) (o:Option (List Block)) (hi:Operand):cX Tryz.prog st 45 (ov aH o) none (some hi)=Nb (st.ev hi) (fun j=>if 0≤j∧j≤(ol o).length then some (ov aH (o.map (·.take j.toNat))) else cX Tryz.prog st 45 (ov aH o) none (some hi)) (cX Tryz.prog st 45 (ov aH o) none (some hi)):=by
 unfold Nb;split
 ·rename_i j hj;dsimp only
  split
  ·rename_i hc;obtain⟨j0,j1⟩:=hc
   cases o with
   | none =>
     have:j=0:=by simp[ol] at j1;omega
     subst this;simp[cX,oB,ov,hj]
   | some l =>
     have j1:j≤l.length:=j1
     have hn:j.toNat≤l.length:=by omega
     simp only[cX,oB,ov,hj];rw[if_pos ⟨Int.le_refl _,j0,j1,iL bM l⟩];simp only[Int.toNat_zero,Nat.zero_mul,List.drop_zero,Int.sub_zero,Option.map_some];rw[show (aH l).take (j.toNat * 238)=aH (l.take j.toNat) from yH bM l j.toNat,List.length_take,Nat.min_eq_left hn]
  ·rfl
 ·rfl
theorem aD7 (st:St) (o:Option (List Block)) (lo:Operand):cX Tryz.prog st 45 (ov aH o) (some lo) none=Nb (st.ev lo) (fun j=>if 0≤j∧j≤(ol o).length then some (ov aH (o.map (·.drop j.toNat))) else cX Tryz.prog st 45 (ov aH o) (some lo) none) (cX Tryz.prog st 45 (ov aH o) (some lo) none):=by
 unfold Nb;split
 ·rename_i j hj;dsimp only
  split
  ·rename_i hc;obtain⟨j0,j1⟩:=hc
   cases o with
   | none =>
     have:j=0:=by simp[ol] at j1;omega
     subst this;simp[cX,oB,ov,hj]
   | some l =>
     have j1:j≤l.length:=j1
     have hn:j.toNat≤l.length:=by omega
     have e1:((l.length:Int)-j).toNat=l.length-j.toNat:=by omega
     simp only[cX,oB,ov,hj];rw[if_pos ⟨j0,j1,Int.le_refl _,iL bM l⟩];simp only[Option.map_some,e1];rw[show (aH l).drop (j.toNat * 238)=aH (l.drop j.toNat) from yI bM l j.toNat,List.length_drop,List.take_of_length_le];rw[show aH (l.drop j.toNat)=(l.drop j.toNat).flatMap aT from rfl,iL bM,List.length_drop];exact Nat.le_refl _
  ·rfl
 ·rfl
theorem CY (st:St) (o:Option (List Request)):aQ st (ov aA o)=some ((ol o).length,aA (ol o)):=by cases o<;>rfl
theorem dK (o:Option (List Request)):Flat (ov aA o):=by
 cases o with
 | none=>exact .v _
 | some l=>exact .sl _ _ (fJ l)
theorem CZ (st:St) (o:Option (List Request)):fG st (ov aA o)=some (ov aA o):=dM (dK o)
theorem aBv (st:St) {l:List Request} {kk:IntKind} {i:Int} (h0:0≤i) (h1:i<l.length):bD Tryz.prog st 54 (.sl l.length (aA l)) (.v (.int kk i))=some (.ip (bN (gx bU l i)) 0):=by
 have hl:i.toNat<l.length:=by omega
 have h2:i.toNat * 35+35≤(l.flatMap bN).length:=by rw[iL fZ,← Nat.succ_mul];exact Nat.mul_le_mul_right _ hl
 have h3:((aA l).drop (i.toNat * 35)).take 35=bN (gx bU l i):=Mw fZ h0 h1
 have h4:(aA l).length=(l.flatMap bN).length:=rfl
 (simp only[bD,aH8,Cv,h0,h1,h4,h2,and_self,if_true,h3])<;>rfl
theorem aIq (st:St) {o:Option (List Request)} {kk:IntKind} {i:Int} (h0:0≤i) (h1:i<(ol o).length):bD Tryz.prog st 54 (ov aA o) (.v (.int kk i))=some (.ip (bN (gx bU (ol o) i)) 0):=by
 cases o with
 | none=>simp[ol] at h1;omega
 | some l=>exact aBv st h0 h1
theorem TZ (x:Request):xM 63 35 56 (some (1,bN x))=some (none,.row 63 35 [x].length (aA [x])):=by
 simp[xM,maxLen,aA]
theorem rA (l:List Request) (h:(l.length:Int)<1000000):xM 63 35 56 (some (l.length,aA l))=some (none,.row 63 35 l.length (aA l)):=by
 unfold xM;simp only
 rw[if_pos ⟨iL fZ l,by omega,by simp only[maxLen];omega⟩]
theorem mA (l:List Request) (x:Request) (s g:Nat) (h:(l.length:Int)<1000000):xY 63 35 56 (some (.row 63 35 l.length (aA l))) s g (some (1,bN x))=some (some (s,g),.row 63 35 (l++[x]).length (aA (l++[x]))):=by
 simp only[xY];rw[if_pos ⟨by simp,trivial,trivial,by omega,by simp only[maxLen];omega⟩]
 simp[aA,List.flatMap_append]
theorem Vd (l m:List Request) (s g:Nat) (h:(l.length:Int)<1000000) (h2:(m.length:Int)<1000000):xY 63 35 56 (some (.row 63 35 l.length (aA l))) s g (some (m.length,aA m))=some (some (s,g),.row 63 35 (l++m).length (aA (l++m))):=by
 simp only[xY];rw[if_pos ⟨iL fZ m,trivial,trivial,by omega,by simp only[maxLen];omega⟩]
 simp[aA,List.flatMap_append]
theorem pH (n:Nat) (l:List Request):jH (some (.row 63 35 n (aA l)))=some (.sl n (aA l)):=by
 unfold jH;simp only;rw[if_pos (fJ l)]
theorem Gf {T n k off:Nat} {l:List Request} {i:Int} (h0:0≤i) (h1:i<l.length) (hk:sY Tryz.prog T=some k) (uW:0<k) (ho:off+k≤35):sQ Tryz.prog T (some (.row 63 35 n (aA l))) (i.toNat * 35+off)=eK Tryz.prog T (bN (gx bU l i)) off:=HX fZ h0 h1 hk uW ho
theorem Ae {T n k:Nat} {l:List Request} {i:Int} (h0:0≤i) (h1:i<l.length) (hk:sY Tryz.prog T=some k) (uW:0<k) (ho:k≤35):sQ Tryz.prog T (some (.row 63 35 n (aA l))) (i.toNat * 35)=eK Tryz.prog T (bN (gx bU l i)) 0:=by
 have h:=Gf (n:=n) (off:=0) h0 h1 hk uW (by omega)
 rw[Nat.add_zero] at h;exact h
theorem Np (l:List Request) (i:Int) (x:Request) (h:i.toNat<l.length):dJ (aA l) (i.toNat * 35) (bN x) (i.toNat * 35+35)=aA (l.set i.toNat x):=by
 generalize i.toNat=k at h ⊢
 have:=MQ (c:=bN) (sz:=35) fZ l k x h
 exact this
theorem aNA (st:St) (o:Option (List Request)) (hi:Operand):cX Tryz.prog st 54 (ov aA o) none (some hi)=Nb (st.ev hi) (fun j=>if 0≤j∧j≤(ol o).length then some (ov aA (o.map (·.take j.toNat))) else cX Tryz.prog st 54 (ov aA o) none (some hi)) (cX Tryz.prog st 54 (ov aA o) none (some hi)):=by
 unfold Nb;split
 ·rename_i j hj;dsimp only
  split
  ·rename_i hc;obtain⟨j0,j1⟩:=hc
   cases o with
   | none =>
     have:j=0:=by simp[ol] at j1;omega
     subst this;simp[cX,Cv,ov,hj]
   | some l =>
     have j1:j≤l.length:=j1
     have hn:j.toNat≤l.length:=by omega
     simp only[cX,Cv,ov,hj];rw[if_pos ⟨Int.le_refl _,j0,j1,iL fZ l⟩];simp only[Int.toNat_zero,Nat.zero_mul,List.drop_zero,Int.sub_zero,Option.map_some];rw[show (aA l).take (j.toNat * 35)=aA (l.take j.toNat) from yH fZ l j.toNat,List.length_take,Nat.min_eq_left hn]
  ·rfl
 ·rfl
theorem aD8 (st:St) (o:Option (List Request)) (lo:Operand):cX Tryz.prog st 54 (ov aA o) (some lo) none=Nb (st.ev lo) (fun j=>if 0≤j∧j≤(ol o).length then some (ov aA (o.map (·.drop j.toNat))) else cX Tryz.prog st 54 (ov aA o) (some lo) none) (cX Tryz.prog st 54 (ov aA o) (some lo) none):=by
 unfold Nb;split
 ·rename_i j hj;dsimp only
  split
  ·rename_i hc;obtain⟨j0,j1⟩:=hc
   cases o with
   | none =>
     have:j=0:=by simp[ol] at j1;omega
     subst this;simp[cX,Cv,ov,hj]
   | some l =>
     have j1:j≤l.length:=j1
     have hn:j.toNat≤l.length:=by omega
     have e1:((l.length:Int)-j).toNat=l.length-j.toNat:=by omega
     simp only[cX,Cv,ov,hj];rw[if_pos ⟨j0,j1,Int.le_refl _,iL fZ l⟩];simp only[Option.map_some,e1];rw[show (aA l).drop (j.toNat * 35)=aA (l.drop j.toNat) from yI fZ l j.toNat,List.length_drop,List.take_of_length_le];rw[show aA (l.drop j.toNat)=(l.drop j.toNat).flatMap bN from rfl,iL fZ,List.length_drop];exact Nat.le_refl _
  ·rfl
 ·rfl
theorem UA (st:St) (o:Option (List cA)):aQ st (ov dV o)=some ((ol o).length,dV (ol o)):=by cases o<;>rfl
theorem Iq (o:Option (List cA)):Flat (ov dV o):=by
 cases o with
 | none=>exact .v _
 | some l=>exact .sl _ _ (Ca l)
theorem aBw (st:St) {l:List cA} {kk:IntKind} {i:Int} (h0:0≤i) (h1:i<l.length):bD Tryz.prog st 70 (.sl l.length (dV l)) (.v (.int kk i))=some (.ip (aV (gx dE l i)) 0):=by
 have hl:i.toNat<l.length:=by omega
 have h2:i.toNat * 32+32≤(l.flatMap aV).length:=by rw[iL aL,← Nat.succ_mul];exact Nat.mul_le_mul_right _ hl
 have h3:((dV l).drop (i.toNat * 32)).take 32=aV (gx dE l i):=Mw aL h0 h1
 have h4:(dV l).length=(l.flatMap aV).length:=rfl
 (simp only[bD,aH9,K6,h0,h1,h4,h2,and_self,if_true,h3])<;>rfl
theorem aIr (st:St) {o:Option (List cA)} {kk:IntKind} {i:Int} (h0:0≤i) (h1:i<(ol o).length):bD Tryz.prog st 70 (ov dV o) (.v (.int kk i))=some (.ip (aV (gx dE (ol o) i)) 0):=by
 cases o with
 | none=>simp[ol] at h1;omega
 | some l=>exact aBw st h0 h1
theorem aBx (x:cA):xM 27 32 32 (some (1,aV x))=some (none,.row 27 32 [x].length (dV [x])):=by
 simp[xM,maxLen,dV]
theorem oL (l:List cA) (x:cA) (s g:Nat) (h:(l.length:Int)<1000000):xY 27 32 32 (some (.row 27 32 l.length (dV l))) s g (some (1,aV x))=some (some (s,g),.row 27 32 (l++[x]).length (dV (l++[x]))):=by
 simp only[xY];rw[if_pos ⟨by simp,trivial,trivial,by omega,by simp only[maxLen];omega⟩]
 simp[dV,List.flatMap_append]
theorem wP (n:Nat) (l:List cA):jH (some (.row 27 32 n (dV l)))=some (.sl n (dV l)):=by
 unfold jH;simp only;rw[if_pos (Ca l)]
theorem A2 {T n k off:Nat} {l:List cA} {i:Int} (h0:0≤i) (h1:i<l.length) (hk:sY Tryz.prog T=some k) (uW:0<k) (ho:off+k≤32):sQ Tryz.prog T (some (.row 27 32 n (dV l))) (i.toNat * 32+off)=eK Tryz.prog T (aV (gx dE l i)) off:=HX aL h0 h1 hk uW ho
theorem r9 {T n k:Nat} {l:List cA} {i:Int} (h0:0≤i) (h1:i<l.length) (hk:sY Tryz.prog T=some k) (uW:0<k) (ho:k≤32):sQ Tryz.prog T (some (.row 27 32 n (dV l))) (i.toNat * 32)=eK Tryz.prog T (aV (gx dE l i)) 0:=by
 have h:=A2 (n:=n) (off:=0) h0 h1 hk uW (by omega)
 rw[Nat.add_zero] at h;exact h
theorem aD9 (st:St) {l:List Bool} {kk:IntKind} {i:Int} (h0:0≤i) (h1:i<l.length):bD Tryz.prog st 262 (.sl l.length (mU l)) (.v (.int kk i))=some (.ip ([.v (.bool (gx false l i))]) 0):=by
 have hl:i.toNat<l.length:=by omega
 have h2:i.toNat * 1+1≤(l.flatMap vF).length:=by rw[iL gU,← Nat.succ_mul];exact Nat.mul_le_mul_right _ hl
 have h3:((mU l).drop (i.toNat * 1)).take 1=vF (gx false l i):=Mw gU h0 h1
 have h4:(mU l).length=(l.flatMap vF).length:=rfl
 (simp only[bD,aFg,TK,h0,h1,h4,h2,and_self,if_true,h3])<;>rfl
theorem aBy (x:Bool):xM 4 1 1 (some (1,[.v (.bool x)]))=some (none,.row 4 1 [x].length (mU [x])):=by
 simp[xM,maxLen,mU,vF]
theorem OL (l:List Bool) (x:Bool) (s g:Nat) (h:(l.length:Int)<1000000):xY 4 1 1 (some (.row 4 1 l.length (mU l))) s g (some (1,[.v (.bool x)]))=some (some (s,g),.row 4 1 (l++[x]).length (mU (l++[x]))):=by
 simp only[xY];rw[if_pos ⟨by simp,trivial,trivial,by omega,by simp only[maxLen];omega⟩]
 simp[mU,List.flatMap_append,vF]
theorem o0 (n:Nat) (l:List Bool):jH (some (.row 4 1 n (mU l)))=some (.sl n (mU l)):=by
 unfold jH;simp only;rw[if_pos (Va l)]
theorem yX (o:Option (List Int)):Flat (ov kD o):=by
 cases o with
 | none=>exact .v _
 | some l=>exact .sl _ _ (vX l)
theorem rO (st:St) (o:Option (List Int)):fG st (ov kD o)=some (ov kD o):=dM (yX o)
theorem WA (x:Int):xM 5 1 1 (some (1,[.v (.int .u8 x)]))=some (none,.row 5 1 [x].length (kD [x])):=by
 simp[xM,maxLen,kD,cU8]
theorem Nj (l:List Int) (x:Int) (s g:Nat) (h:(l.length:Int)<1000000):xY 5 1 1 (some (.row 5 1 l.length (kD l))) s g (some (1,[.v (.int .u8 x)]))=some (some (s,g),.row 5 1 (l++[x]).length (kD (l++[x]))):=by
 simp only[xY];rw[if_pos ⟨by simp,trivial,trivial,by omega,by simp only[maxLen];omega⟩]
 simp[kD,List.flatMap_append,cU8]
theorem WB (l m:List Int) (s g:Nat) (h:(l.length:Int)<1000000) (h2:(m.length:Int)<1000000):xY 5 1 1 (some (.row 5 1 l.length (kD l))) s g (some (m.length,kD m))=some (some (s,g),.row 5 1 (l++m).length (kD (l++m))):=by
 simp only[xY];rw[if_pos ⟨iL aD5 m,trivial,trivial,by omega,by simp only[maxLen];omega⟩]
 simp[kD,List.flatMap_append]
theorem Dq (n:Nat) (l:List Int):jH (some (.row 5 1 n (kD l)))=some (.sl n (kD l)):=by
 unfold jH;simp only;rw[if_pos (vX l)]
theorem ZF (st:St) (o:Option (List Int)):aQ st (ov aJ o)=some ((ol o).length,aJ (ol o)):=by cases o<;>rfl
theorem bO (o:Option (List Int)):Flat (ov aJ o):=by
 cases o with
 | none=>exact .v _
 | some l=>exact .sl _ _ (gD l)
theorem Ge (st:St) (o:Option (List Int)):fG st (ov aJ o)=some (ov aJ o):=dM (bO o)
theorem ZH (o:Option (List Int)):(ov aJ o).jQ=true:=by cases o<;>rfl
theorem N1 (o:Option (List Int)):(ov aJ o).cells=[ov aJ o]:=by cases o<;>rfl
theorem aBz (st:St) {l:List Int} {kk:IntKind} {i:Int} (h0:0≤i) (h1:i<l.length):bD Tryz.prog st 22 (.sl l.length (aJ l)) (.v (.int kk i))=some (.ip ([.v (.int .i64 (gx (0:Int) l i))]) 0):=by
 have hl:i.toNat<l.length:=by omega
 have h2:i.toNat * 1+1≤(l.flatMap pX).length:=by rw[iL bC,← Nat.succ_mul];exact Nat.mul_le_mul_right _ hl
 have h3:((aJ l).drop (i.toNat * 1)).take 1=pX (gx (0:Int) l i):=Mw bC h0 h1
 have h4:(aJ l).length=(l.flatMap pX).length:=rfl
 (simp only[bD,aDD,Na,h0,h1,h4,h2,and_self,if_true,h3])<;>rfl
theorem aIs (st:St) {o:Option (List Int)} {kk:IntKind} {i:Int} (h0:0≤i) (h1:i<(ol o).length):bD Tryz.prog st 22 (ov aJ o) (.v (.int kk i))=some (.ip ([.v (.int .i64 (gx (0:Int) (ol o) i))]) 0):=by
 cases o with
 | none=>simp[ol] at h1;omega
 | some l=>exact aBz st h0 h1
theorem Qd (l:List Int) (h:(l.length:Int)<1000000):xM 3 1 8 (some (l.length,aJ l))=some (none,.row 3 1 l.length (aJ l)):=by
 unfold xM;simp only
 rw[if_pos ⟨iL bC l,by omega,by simp only[maxLen];omega⟩]
theorem Gc (l:List Int) (x:Int) (s g:Nat) (h:(l.length:Int)<1000000):xY 3 1 8 (some (.row 3 1 l.length (aJ l))) s g (some (1,[.v (.int .i64 x)]))=some (some (s,g),.row 3 1 (l++[x]).length (aJ (l++[x]))):=by
 simp only[xY];rw[if_pos ⟨by simp,trivial,trivial,by omega,by simp only[maxLen];omega⟩]
 simp[aJ,List.flatMap_append,pX]
theorem IW (l m:List Int) (s g:Nat) (h:(l.length:Int)<1000000) (h2:(m.length:Int)<1000000):xY 3 1 8 (some (.row 3 1 l.length (aJ l))) s g (some (m.length,aJ m))=some (some (s,g),.row 3 1 (l++m).length (aJ (l++m))):=by
 simp only[xY];rw[if_pos ⟨iL bC m,trivial,trivial,by omega,by simp only[maxLen];omega⟩]
 simp[aJ,List.flatMap_append]
theorem jU (n:Nat) (l:List Int):jH (some (.row 3 1 n (aJ l)))=some (.sl n (aJ l)):=by
 unfold jH;simp only;rw[if_pos (gD l)]
theorem aNB (st:St) (o:Option (List Int)) (hi:Operand):cX Tryz.prog st 22 (ov aJ o) none (some hi)=Nb (st.ev hi) (fun j=>if 0≤j∧j≤(ol o).length then some (ov aJ (o.map (·.take j.toNat))) else cX Tryz.prog st 22 (ov aJ o) none (some hi)) (cX Tryz.prog st 22 (ov aJ o) none (some hi)):=by
 unfold Nb;split
 ·rename_i j hj;dsimp only
  split
  ·rename_i hc;obtain⟨j0,j1⟩:=hc
   cases o with
   | none =>
     have:j=0:=by simp[ol] at j1;omega
     subst this;simp[cX,Na,ov,hj]
   | some l =>
     have j1:j≤l.length:=j1
     have hn:j.toNat≤l.length:=by omega
     simp only[cX,Na,ov,hj];rw[if_pos ⟨Int.le_refl _,j0,j1,iL bC l⟩];simp only[Int.toNat_zero,Nat.zero_mul,List.drop_zero,Int.sub_zero,Option.map_some];rw[show (aJ l).take (j.toNat * 1)=aJ (l.take j.toNat) from yH bC l j.toNat,List.length_take,Nat.min_eq_left hn]
  ·rfl
 ·rfl
theorem aEa (st:St) (o:Option (List Int)) (lo:Operand):cX Tryz.prog st 22 (ov aJ o) (some lo) none=Nb (st.ev lo) (fun j=>if 0≤j∧j≤(ol o).length then some (ov aJ (o.map (·.drop j.toNat))) else cX Tryz.prog st 22 (ov aJ o) (some lo) none) (cX Tryz.prog st 22 (ov aJ o) (some lo) none):=by
 unfold Nb;split
 ·rename_i j hj;dsimp only
  split
  ·rename_i hc;obtain⟨j0,j1⟩:=hc
   cases o with
   | none =>
     have:j=0:=by simp[ol] at j1;omega
     subst this;simp[cX,Na,ov,hj]
   | some l =>
     have j1:j≤l.length:=j1
     have hn:j.toNat≤l.length:=by omega
     have e1:((l.length:Int)-j).toNat=l.length-j.toNat:=by omega
     simp only[cX,Na,ov,hj];rw[if_pos ⟨j0,j1,Int.le_refl _,iL bC l⟩];simp only[Option.map_some,e1];rw[show (aJ l).drop (j.toNat * 1)=aJ (l.drop j.toNat) from yI bC l j.toNat,List.length_drop,List.take_of_length_le];rw[show aJ (l.drop j.toNat)=(l.drop j.toNat).flatMap pX from rfl,iL bC,List.length_drop];exact Nat.le_refl _
  ·rfl
 ·rfl
theorem ZI (st:St) (o:Option (List Int)):aQ st (ov bE o)=some ((ol o).length,bE (ol o)):=by cases o<;>rfl
theorem dP (o:Option (List Int)):Flat (ov bE o):=by
 cases o with
 | none=>exact .v _
 | some l=>exact .sl _ _ (iC l)
theorem ZJ (o:Option (List Int)):(ov bE o).jQ=true:=by cases o<;>rfl
theorem N2 (o:Option (List Int)):(ov bE o).cells=[ov bE o]:=by cases o<;>rfl
theorem aBA (st:St) {l:List Int} {kk:IntKind} {i:Int} (h0:0≤i) (h1:i<l.length):bD Tryz.prog st 34 (.sl l.length (bE l)) (.v (.int kk i))=some (.ip ([.v (.int .u64 (gx (0:Int) l i))]) 0):=by
 have hl:i.toNat<l.length:=by omega
 have h2:i.toNat * 1+1≤(l.flatMap sS).length:=by rw[iL aW,← Nat.succ_mul];exact Nat.mul_le_mul_right _ hl
 have h3:((bE l).drop (i.toNat * 1)).take 1=sS (gx (0:Int) l i):=Mw aW h0 h1
 have h4:(bE l).length=(l.flatMap sS).length:=rfl
 (simp only[bD,aH4,YX,h0,h1,h4,h2,and_self,if_true,h3])<;>rfl
theorem aIt (st:St) {o:Option (List Int)} {kk:IntKind} {i:Int} (h0:0≤i) (h1:i<(ol o).length):bD Tryz.prog st 34 (ov bE o) (.v (.int kk i))=some (.ip ([.v (.int .u64 (gx (0:Int) (ol o) i))]) 0):=by
 cases o with
 | none=>simp[ol] at h1;omega
 | some l=>exact aBA st h0 h1
theorem aEb (x:Int):xM 23 1 8 (some (1,[.v (.int .u64 x)]))=some (none,.row 23 1 [x].length (bE [x])):=by
 simp[xM,maxLen,bE,sS]
theorem Gb (l:List Int) (h:(l.length:Int)<1000000):xM 23 1 8 (some (l.length,bE l))=some (none,.row 23 1 l.length (bE l)):=by
 unfold xM;simp only
 rw[if_pos ⟨iL aW l,by omega,by simp only[maxLen];omega⟩]
theorem yJ (l:List Int) (x:Int) (s g:Nat) (h:(l.length:Int)<1000000):xY 23 1 8 (some (.row 23 1 l.length (bE l))) s g (some (1,[.v (.int .u64 x)]))=some (some (s,g),.row 23 1 (l++[x]).length (bE (l++[x]))):=by
 simp only[xY];rw[if_pos ⟨by simp,trivial,trivial,by omega,by simp only[maxLen];omega⟩]
 simp[bE,List.flatMap_append,sS]
theorem vV (n:Nat) (l:List Int):jH (some (.row 23 1 n (bE l)))=some (.sl n (bE l)):=by
 unfold jH;simp only;rw[if_pos (iC l)]
theorem aBB {T n k off:Nat} {l:List Int} {i:Int} (h0:0≤i) (h1:i<l.length) (hk:sY Tryz.prog T=some k) (uW:0<k) (ho:off+k≤1):sQ Tryz.prog T (some (.row 23 1 n (bE l))) (i.toNat * 1+off)=eK Tryz.prog T ([.v (.int .u64 (gx (0:Int) l i))]) off:=HX aW h0 h1 hk uW ho
theorem R2 {T n k:Nat} {l:List Int} {i:Int} (h0:0≤i) (h1:i<l.length) (hk:sY Tryz.prog T=some k) (uW:0<k) (ho:k≤1):sQ Tryz.prog T (some (.row 23 1 n (bE l))) (i.toNat * 1)=eK Tryz.prog T ([.v (.int .u64 (gx (0:Int) l i))]) 0:=by
 have h:=aBB (n:=n) (off:=0) h0 h1 hk uW (by omega)
 rw[Nat.add_zero] at h;exact h
theorem R1 (l:List Int) (i:Int) (x:Int) (h:i.toNat<l.length):dJ (bE l) (i.toNat * 1) ([.v (.int .u64 x)]) (i.toNat * 1+1)=bE (l.set i.toNat x):=by
 generalize i.toNat=k at h ⊢
 have:=MQ (c:=sS) (sz:=1) aW l k x h
 exact this
end Tryz
end Go.Ab
end
section
namespace Go.Ab.Tryz
open Classical Go.Proofs Go.Ab
theorem aj {a b:Prop} (x:a) (y:b):a∧b:=⟨x,y⟩
def EN:=aj (aj (aj (aj (aj (aj (aj @cK (aj @zW @jJ)) (aj @Ed (aj @zB @wD))) (aj (aj @zH (aj @decide_true @decide_false)) (aj (aj @Int.cast_ofNat_Int @Bool.not_true) (aj @Bool.not_false @Bool.false_eq_true)))) (aj (aj (aj @Bool.true_eq_false (aj @Kx @Ky)) (aj @Kz (aj @La @Lb))) (aj (aj @Lc (aj @Ld @Lf)) (aj (aj @Lg @Lh) (aj @aC1 @aC2))))) (aj (aj (aj (aj @aCZ (aj @aC0 @not_false_eq_true)) (aj @ne_eq.{1} (aj @Eo @zG))) (aj (aj @wF (aj @wG @Option.bind_some.{0,0})) (aj (aj @Kq @zC) (aj @Kr @Ee)))) (aj (aj (aj @aCV (aj @wE @KS)) (aj @KT (aj @aCW @XS))) (aj (aj @aAq (aj @aAr @aAs)) (aj (aj @aGE @aAt) (aj @aA1 @Bool.or_false)))))) (aj (aj (aj (aj (aj @Bool.false_or (aj @Bool.false_and @Bool.or_true)) (aj @aCY (aj @aDG @I4))) (aj (aj @I5 (aj @XU @KU)) (aj (aj @QY @vW) (aj @TP @M1)))) (aj (aj (aj @M3 (aj @aDL @aBc)) (aj @pF (aj @L1 @L3))) (aj (aj @YZ (aj @TM @Option.map_some.{0,0})) (aj (aj @Sr @Kb) (aj @Sx @Nk))))) (aj (aj (aj (aj @aA4 (aj @aA5 @aDH)) (aj @gK (aj @bL @aBf))) (aj (aj @aBg (aj @FP @M5)) (aj (aj @aDK @L4) (aj @L5 @aC5)))) (aj (aj (aj @aAC (aj @aC6 @aC3)) (aj (aj @L6 @L7) (aj @L9 @M0))) (aj (aj @aBb (aj @HG @aDM)) (aj (aj @aDI @aDJ) (aj @aA6 @aA7))))))) (aj (aj (aj (aj (aj (aj @aA8 (aj @aA9 @aBa)) (aj @I7 (aj @KW @aDE))) (aj (aj @aA0 (aj @aNt @aEj)) (aj (aj @Eg @Ts) (aj @Kt @rT)))) (aj (aj (aj @Ku (aj @Eh @Kv)) (aj @Kw (aj @Ei
 @Ej))) (aj (aj @sV (aj @pU @Ek)) (aj (aj @El @zD) (aj @Em @tT))))) (aj (aj (aj (aj @I6 (aj @List.toList_toArray.{0} @List.map_cons.{0,0})) (aj @List.map_nil.{0,0} (aj @Ko @wC))) (aj (aj @zA (aj @Eb @Ec)) (aj (aj @Km @rU) (aj @zI @wH)))) (aj (aj (aj @List.getElem?_cons_zero.{0} (aj @List.getElem?_cons_succ.{0} @List.getElem?_nil.{0})) (aj @Option.getD_some.{0} (aj @Option.getD_none.{0} @and_true))) (aj (aj @true_and (aj @and_self @false_and)) (aj (aj @and_false @if_true.{1}) (aj @if_false.{1} @Nat.succ_ne_zero)))))) (aj (aj (aj (aj (aj @MO (aj @MP @Nat.add_zero)) (aj @Nat.zero_add (aj @ZA @Ef))) (aj (aj @Tz (aj @Ua @Et)) (aj (aj @Eu @K9) (aj @YE @aA2)))) (aj (aj (aj @aDP (aj @aDQ @aDR)) (aj @ZB (aj @M6 @aDS))) (aj (aj @aIg (aj @TT @M7)) (aj (aj @aDT @aBi) (aj @aIh @aBj))))) (aj (aj (aj (aj @aDU (aj @aDV @aDW)) (aj @aBk (aj @aBl @aDX))) (aj (aj @aBm (aj @aNx @aDY)) (aj (aj @aIi @aIj) (aj @aIk @aDZ)))) (aj (aj (aj @aD0 (aj @aIl @aD1)) (aj (aj @aD2 @aBn) (aj @M8 @ZD))) (aj (aj @aD3 (aj @aBo @aD4)) (aj (aj @gei @gti) (aj @aUq @gtn)))))))
def EV:=aj EN @zF
def LE:=aj (aj (aj (aj (aj (aj @aIc @aId) (aj @aBd (aj @aBe @Ng))) (aj (aj @Ki @Tc) (aj @aIa (aj @aIb @aDF)))) (aj (aj (aj @aW @bC) (aj @gU (aj @aL @dR))) (aj (aj @bQ @cO) (aj @bM (aj @vP @Ty))))) (aj (aj (aj (aj @Nat.sub_zero @Nat.le_refl) (aj @OD (aj @GO @Option.map_some.{0,0}))) (aj (aj @List.all_cons.{0} @List.all_nil.{0}) (aj @Bool.and_true (aj @Bool.true_and @Bool.and_self)))) (aj (aj (aj @I9 @List.length_cons.{0}) (aj @List.length_nil.{0} (aj @jM @jN))) (aj (aj @Rm (aj @Bp @Tu)) (aj @LB (aj @Nat.zero_le @Nat.mul_one)))))) (aj (aj (aj (aj (aj @Za @Bu) (aj @gQ (aj @lY @gA))) (aj (aj @bK @rW) (aj @iE (aj @iN @fP)))) (aj (aj (aj @fU @fZ) (aj @lZ (aj @dC @cV))) (aj (aj @iF (aj @mN @cN)) (aj @Oo (aj @CS @YW))))) (aj (aj (aj (aj @lA @Lk) (aj @Oh (aj @Uf @Uh))) (aj (aj @z8 @YM) (aj @BX (aj @Ji @BZ)))) (aj (aj (aj @CB @On) (aj @CJ (aj @Jl @HW))) (aj (aj @TE (aj @CO @TF)) (aj @aAY (aj @Bz @aDh))))))
def RD:=aj (aj (aj (aj (aj (aj (aj (aj @RE @RF) (aj @RH @RI)) (aj (aj @jX @Cx) (aj @uS (aj @Gm @RK)))) (aj (aj (aj @RL @Re) (aj @Rf (aj @yA @Ao))) (aj (aj @Rh @Ri) (aj @yB (aj @EI @EJ))))) (aj (aj (aj (aj @Hc @Wh) (aj @Ap @Oc)) (aj (aj @sB @Cy) (aj @Aq (aj @Od @sC)))) (aj (aj (aj @Jd @EK) (aj @Mo (aj @EL @Wi))) (aj (aj @Wj @Ep) (aj @Tv (aj @EM @EO)))))) (aj (aj (aj (aj (aj @BO @BP) (aj @Mp @EP)) (aj (aj @Je @Rk) (aj @KY (aj @Lr @Rl)))) (aj (aj (aj @Tw @Wk) (aj @KZ (aj @LA @ER))) (aj (aj @ES @Jf) (aj @Er (aj @wI @Es))))) (aj (aj (aj (aj @wJ @Ls) (aj @Oe (aj @Hn @Of))) (aj (aj @Rn @RN) (aj @XZ (aj @Gv @Ic)))) (aj (aj (aj @RO @RP) (aj @BT (aj @RQ @RR))) (aj (aj @Ar @Mq) (aj @Rp (aj @Gp @Ho))))))) (aj (aj (aj (aj (aj (aj @Ub @Wl) (aj @Rq @Rr)) (aj (aj @BU @BV) (aj @Ev (aj @Wm @Ew)))) (aj (aj (aj @Wn
 @Ce) (aj @Uc (aj @Cf @Ud))) (aj (aj @Cg @Ue) (aj @As (aj @Rs @EW))))) (aj (aj (aj (aj @EX @xG) (aj @xH @vG)) (aj (aj @vH @vI) (aj @uT (aj @Jg @EY)))) (aj (aj (aj @Ru @Ug) (aj @Mr (aj @EZ @Ch))) (aj (aj @Rv @zM) (aj @Ms (aj @FB @FC)))))) (aj (aj (aj (aj (aj @LM @SQ) (aj @BW @FD)) (aj (aj @LN @LO) (aj @SR (aj @SS @LP)))) (aj (aj (aj @SU @SW) (aj @SX (aj @FE @FF))) (aj (aj @Jh @Lt) (aj @Oi (aj @Oj @Fw))))) (aj (aj (aj (aj @SY @YO) (aj @YP (aj @wK @Hd))) (aj (aj @wL @He) (aj @FG (aj @Mt @uG)))) (aj (aj (aj @FH @Rx) (aj @Ry (aj @Ba @Bb))) (aj (aj @oI @Ok) (aj @Ol (aj @At @Bc)))))))) (aj (aj (aj (aj (aj (aj (aj @Au @Bd) (aj @Ey @nX)) (aj (aj @Wo @Wp) (aj @SZ (aj @TA @Om)))) (aj (aj (aj @Uk @Cm) (aj @LR (aj @LS @LU))) (aj (aj @Rz @Sa) (aj @Gq (aj @Ul @Um))))) (aj (aj (aj (aj @Sb
 @Un) (aj @Wq @CA)) (aj (aj @CC @CD) (aj @Ws (aj @Wt @CE)))) (aj (aj (aj @CG @CH) (aj @vR (aj @Hf @xO))) (aj (aj @Jk @LX) (aj @LY (aj @Fa @Fb)))))) (aj (aj (aj (aj (aj @tU @vJ) (aj @Hg @Hh)) (aj (aj @uU @xI) (aj @vS (aj @Hi @tD)))) (aj (aj (aj @Ci @xP) (aj @Jm (aj @Wu @Wv))) (aj (aj @Av @Aw) (aj @yM (aj @yN @qK))))) (aj (aj (aj (aj @pR @Jn) (aj @Lu (aj @tV @qR))) (aj (aj @Lv @CL) (aj @CM (aj @pB @Hp)))) (aj (aj (aj @pY @Jo) (aj @Sc (aj @Sd @Gr))) (aj (aj @Gs @xJ) (aj @qL (aj @vK @Hq))))))) (aj (aj (aj (aj (aj (aj @xV @rG) (aj @pC @Hr)) (aj (aj @nU @Fe) (aj @Mu (aj @Cz @qS)))) (aj (aj (aj @Lw @Mv) (aj @Se (aj @Jp @Jq))) (aj (aj @vT @Ww) (aj @LZ (aj @MA @CP))))) (aj (aj (aj (aj @CQ @tW) (aj
 @tL @xK)) (aj (aj @qT @pM) (aj @qI (aj @tX @yO)))) (aj (aj (aj @uV @pN) (aj @oH (aj @Lx @yC))) (aj (aj @qU @Ly) (aj @Oq (aj @Jr @Js)))))) (aj (aj (aj (aj (aj @uF @zO) (aj @Sf @Bm)) (aj (aj @Up @Sg) (aj @Uq (aj @CR @FL)))) (aj (aj (aj @FM @FN) (aj @Ot (aj @Sh @Ur))) (aj (aj @Wx @MC) (aj @MD (aj @ME @TG))))) (aj (aj (aj (aj @MF @MG) (aj @YS (aj @YT @Dj))) (aj (aj @MH @MI) (aj @sO (aj @rX @MJ)))) (aj (aj (aj @MK @Bn) (aj @CT (aj @CU @FO))) (aj (aj @ML @MM) (aj @TH (aj @YU @YV))))))))
def FA:=aj (aj (aj (aj (aj (aj (aj (aj @ld3 @ik3) (aj @lk3 (aj @ze3 @aRW))) (aj (aj @aRX @VM) (aj @aGT (aj @aRY @aRZ)))) (aj (aj (aj @aR0 @ld5) (aj @ik5 (aj @lk5 @ze5))) (aj (aj @ik2 (aj @lk2 @ze2)) (aj @aR1 (aj @aR2 @aR3))))) (aj (aj (aj (aj @ld4 @lk4) (aj @ze4 (aj @be4 @aR4))) (aj (aj @aFG (aj @aMC @aGU)) (aj @aR5 (aj @aR6 @aFB)))) (aj (aj (aj @aR7 @aR8) (aj @aR9 (aj @aSa @aMD))) (aj (aj @aSb (aj @aJV @aSc)) (aj @aSd (aj @aSe @aGV)))))) (aj (aj (aj (aj (aj @aGW @aKb) (aj @aGX (aj @aSf @aSg))) (aj (aj @aSh (aj @aSi @aSj)) (aj @aGY (aj @aGZ @aSk)))) (aj (aj (aj @aSl @aSm) (aj @WI (aj @aG0 @aG1))) (aj (aj @aG2 (aj @aG3 @aG4)) (aj @aG5 (aj @aG6 @aG7))))) (aj (aj (aj (aj @aG8 @aG9) (aj @aDj (aj @aHa @aSn))) (aj (aj @aSo (aj @aSp @aSq)) (aj @aSr (aj @aHb @aHc)))) (aj (aj (aj @aHd @aHe) (aj @aME (aj @aSs @aSt))) (aj (aj @aSu (aj @aSv @aHf)) (aj @aSw (aj @aSx @aSy))))))) (aj (aj (aj (aj (aj (aj @aSz @aHg) (aj @aSA (aj @aSB @aSC))) (aj (aj @aSD (aj @aHh @aHi)) (aj @aHj (aj @aSE @aMF)))) (aj (aj (aj @aSF @aSG) (aj @aSH (aj @aSI @aHk))) (aj (aj @aHl (aj @aHm @aHn)) (aj @aHo (aj @aHp @aSJ))))) (aj (aj (aj (aj @aMG @aSK) (aj @aSL (aj @aSM @aSN))) (aj (aj @aHq (aj @aHr @aHs)) (aj @aHt (aj @aHu @aHv)))) (aj (aj (aj @aSO @aSP) (aj @aMH (aj @aEr @aDk))) (aj (aj @aDl (aj @aDm @aFa)) (aj @aFb (aj @aMI @aMJ)))))) (aj (aj (aj (aj (aj @aSQ @aSR) (aj @aHw (aj @aHx @aHy))) (aj (aj @aHz (aj @aMK @aSS)) (aj @aML (aj @aMM @aDn)))) (aj (aj (aj @aDo @aDp) (aj @aDq (aj @aMN @aMO))) (aj (aj @aMP (aj @aMQ @aDr)) (aj @aDs (aj @aMR @aMS))))) (aj (aj (aj (aj @aMT @aMU) (aj @aDt (aj @aDu @aFc))) (aj (aj @aMV (aj @aST @aF9)) (aj @aHA (aj @aHB @aHC)))) (aj (aj (aj @aHD @aCB) (aj @aMW (aj @aSU @aSV))) (aj (aj @aSW
 (aj @aSX @aHE)) (aj @aHF (aj @aHG @aMX)))))))) (aj (aj (aj (aj (aj (aj (aj @aMY @aSY) (aj @aSZ (aj @aS0 @aS1))) (aj (aj @aHH @aHI) (aj @aS2 (aj @aS3 @aS4)))) (aj (aj (aj @aS5 @aHJ) (aj @aHK (aj @aS6 @aMZ))) (aj (aj @aS7 (aj @aS8 @aS9)) (aj @aHL (aj @aHM @aTa))))) (aj (aj (aj (aj @aTb @aTc) (aj @aHN (aj @aHO @aHP))) (aj (aj @aHQ (aj @aHR @aHS)) (aj @aHT (aj @aHU @aTd)))) (aj (aj (aj @aTe @aTf) (aj @aTg (aj @aHV @aHW))) (aj (aj @aHX (aj @aHY @aHZ)) (aj @aH0 (aj @aH1 @aH2)))))) (aj (aj (aj (aj (aj @aTh @aTi) (aj @aM0 (aj @aM1 @aDv))) (aj (aj @aDw (aj @aDx @aDy)) (aj @aDz (aj @aDA @aDB)))) (aj (aj (aj @aDC @aFd) (aj @aM2 (aj @aH3 @Na))) (aj (aj @aDD (aj @aTj @aTk)) (aj @aTl (aj @aTm @aTn))))) (aj (aj (aj (aj @YX @aH4) (aj @aTo (aj @aTp @aTq))) (aj (aj @aTr (aj @aTs @K5)) (aj @aH5 (aj @aTt @aTu)))) (aj (aj (aj @aTv @aTw) (aj @aTx (aj @aAZ @aM3))) (aj (aj @aTy (aj @aTz @aTA)) (aj @oB (aj @aH6 @aTB))))))) (aj (aj (aj (aj (aj (aj @aTC @aTD) (aj @aTE (aj @aTF @TJ))) (aj (aj @aH7 (aj @aTG @aTH)) (aj @aTI (aj @aTJ @MN)))) (aj (aj (aj @aM4 @aTK) (aj @aTL (aj @aTM @Cv))) (aj (aj @aH8 (aj @aTN @aTO)) (aj @aTP (aj @aTQ @aTR))))) (aj (aj (aj (aj @K6 @aH9) (aj @aTS (aj @aTT @Q2))) (aj (aj @aFe (aj @aM5 @aM6)) (aj @z9 (aj @aM7 @aM8)))) (aj (aj (aj @aM9 @aFf) (aj @aNa (aj @aNb @aNc))) (aj (aj @A0 (aj @aNd @aNe)) (aj @aNf (aj @TK @aFg)))))) (aj (aj (aj (aj (aj @aNg @aNh) (aj @aTU (aj @aTV @aTW))) (aj (aj @aTX (aj @aTY @aTZ)) (aj @aT0 (aj @aT1 @aT2)))) (aj (aj (aj @aT3 @aT4) (aj @aT5 (aj @aT6 @aT7))) (aj (aj @aT8 (aj @aT9 @aUa)) (aj @aUb (aj @aUc @aUd))))) (aj (aj (aj (aj @aUe @aUf) (aj @aUg (aj @aUh @aUi))) (aj (aj @aUj (aj @aUk @aUl)) (aj @aUm (aj @aUn @aUo)))) (aj (aj (aj @aNi @aNj) (aj @aNk (aj @aNl
 @aNm))) (aj (aj @aNn (aj @aNo @aNp)) (aj @aNq (aj @aNr @aNs))))))))
def ZZ:=aj (aj EV LE) (aj RD FA)
section
variable {f:Nat} {fn:Func} {st:St} {x y z:AV}
theorem bS {t:Nat} (hr:fn.results.toList=[.tmp t]) (hx:st.env t=x) (hf:Flat x:=by exact .v _) (hk:Ext.qM f=false:=by exact aI (by decide)):yG Tryz.prog f fn (.ret,st)=some x:=RJ hk (.inl rfl) hr hx hf
theorem fI {t T:Nat} (hr:fn.results.toList=[.cell t T]) (hy:st.env t=y) (hx:Ha Tryz.prog st T y=some x) (hf:Flat x) (hk:Ext.qM f=false:=by exact aI (by decide)):yG Tryz.prog f fn (.ret,st)=some x:=J0 hk (.inl rfl) hr hy hx hf
theorem tC {t s g e' sz n:Nat} {cs:List AV} (hr:fn.results.toList=[.tmp t]) (hx:st.env t=.own s g) (hh:st.heap s g=some (.row e' sz n cs)) (hf:∀c∈cs,Flat c) (hk:Ext.qM f=false:=by exact aI (by decide)):yG Tryz.prog f fn (.ret,st)=some (.uniq e' sz n cs):=Qf hk (.inl rfl) hr hx hh hf
theorem eB {t T:Nat} {cs:List AV} (hr:fn.results.toList=[.cell t T]) (hz:st.env t=z) (hx:Ha Tryz.prog st T z=some (.agg cs)) (hy:fG st (.agg cs)=some y) (hk:Ext.qM f=false:=by exact aI (by decide)):yG Tryz.prog f fn (.ret,st)=some y:=XV hk (.inl rfl) hr hz hx hy
theorem dO {r1 r2:ResultVar} {x1 x2 y1 y2:AV} (hr:fn.results.toList=[r1,r2]) (h1:bT Tryz.prog st r1=some x1) (h2:bT Tryz.prog st r2=some x2) (e1:fG st x1=some y1) (e2:fG st x2=some y2) (hk:Ext.qM f=false:=by exact aI (by decide)):yG Tryz.prog f fn (.ret,st)=some (.eG [y1,y2]):=aAA hk (.inl rfl) hr h1 h2 e1 e2
theorem aKO {r1 r2:ResultVar} {x1 x2 y1 y2:AV} (hr:fn.results.toList=[r1,r2]) (h1:bT Tryz.prog st r1=some x1) (h2:bT Tryz.prog st r2=some x2) (e0:fG st x1=none) (e1:Oz st x1=some y1) (e2:fG st x2=some y2) (hk:Ext.qM f=false:=by exact aI (by decide)):yG Tryz.prog f fn (.ret,st)=some (.eG [y1,y2]):=J1 hk (.inl rfl) hr h1 h2 e0 e1 e2
theorem gO {r1 r2 r3:ResultVar} {x1 x2 x3 y1 y2 y3:AV} (hr:fn.results.toList=[r1,r2,r3]) (h1:bT Tryz.prog st r1=some x1) (h2:bT Tryz.prog st r2=some x2) (h3:bT Tryz.prog st r3=some x3) (e1:fG st x1=some y1) (e2:fG st x2=some y2) (e3:fG st x3=some y3) (hk:Ext.qM f=false:=by exact aI (by decide)):yG Tryz.prog f fn (.ret,st)=some (.eG [y1,y2,y3]):=XW hk (.inl rfl) hr h1 h2 h3 e1 e2 e3
theorem cL {c:Code} (hf:Tryz.prog.funcs[f]? = some fn) (hb:fn.body=some c) (oR:bF fn=true) {xs:List AV} (hu:xs.any nM=false) (hx:(f == 164)=false:=by rfl):aC Tryz.prog f xs=cH (yS Tryz.prog c (St.init xs)) (yG Tryz.prog f fn):=Qk _ hf hb oR xs (qY _ _ hx) hu
theorem cG {c:Code} (hf:Tryz.prog.funcs[f]? = some fn) (hb:fn.body=some c) (oR:sL fn=true) (hc:lP c=true) {xs:List AV} (hu:xs.any nM=false) (hx:(f == 164)=false:=by rfl):aC Tryz.prog f xs=cH (wQ Tryz.prog true c (St.init xs)) (yG Tryz.prog f fn):=by
 rw[QX Tryz.prog hf hb oR xs (qY _ _ hx) hu,hc]
end
section
variable {b:Code} {st st':St} {n:Nat} {I:Nat→St→Prop} {Q:Ex→St→Prop}
theorem oN (m:Nat) (h:yS Tryz.prog b st=some (.normal,st')) (hi:I m st') (hm:m<n:=by omega):∃e st',yS Tryz.prog b st=some (e,st')∧((e=.normal∧∃m,m<n∧I m st')∨(e≠.normal∧Q e st')):=oW h m hm hi
theorem oT (e:Ex) (h:yS Tryz.prog b st=some (e,st')) (hq:Q e st') (he:e≠.normal:=by simp):∃e st',yS Tryz.prog b st=some (e,st')∧((e=.normal∧∃m,m<n∧I m st')∨(e≠.normal∧Q e st')):=aGH h he hq
theorem Ga {bi:Bool} (m:Nat) (h:wQ Tryz.prog bi b st=some (.normal,st')) (hi:I m st') (hm:m<n:=by omega):∃e st',wQ Tryz.prog bi b st=some (e,st')∧((e=.normal∧∃m,m<n∧I m st')∨(e≠.normal∧Q e st')):=aGL h m hm hi
theorem MX {bi:Bool} (e:Ex) (h:wQ Tryz.prog bi b st=some (e,st')) (hq:Q e st') (he:e≠.normal:=by simp):∃e st',wQ Tryz.prog bi b st=some (e,st')∧((e=.normal∧∃m,m<n∧I m st')∨(e≠.normal∧Q e st')):=aC7 h he hq
end
end Go.Ab.Tryz
end
namespace Go.Ab.Tryz
open Classical Go.Proofs Go.Ab
def FT:=aj (aj (aj (aj (aj (aj @M9 (aj @MR @aBq)) (aj @CW (aj @CX @TU))) (aj (aj @TV (aj @IL @l6)) (aj (aj @Py @TW) (aj @aBr @aIm)))) (aj (aj (aj @OH (aj @Xg @A1)) (aj @l8 (aj @IT @ZE))) (aj (aj @aBs (aj @aIn @JH)) (aj (aj @n8 @Xi) (aj @U1 @MS))))) (aj (aj (aj (aj @nG (aj @MT @TX)) (aj @aBt (aj @aIo @HC))) (aj (aj @GP (aj @Ss @GQ)) (aj (aj @Qa @aNy) (aj @aD6 @MU)))) (aj (aj (aj @aBu (aj @aIp @N0)) (aj @iQ (aj @HA @rQ))) (aj (aj @uH (aj @TY @Ac)) (aj (aj @aNz @aD7) (aj @CY @CZ)))))) (aj (aj (aj (aj (aj @aBv (aj @aIq @TZ)) (aj @rA (aj @mA @Vd))) (aj (aj @pH (aj @Gf @Ae)) (aj (aj @Np @aNA) (aj @aD8 @UA)))) (aj (aj (aj @aBw (aj @aIr @aBx)) (aj @oL (aj @wP @A2))) (aj (aj @r9 (aj @aD9 @aBy)) (aj (aj @OL @o0) (aj @rO @WA))))) (aj (aj (aj (aj @Nj (aj @WB @Dq)) (aj @ZF (aj @Ge @ZH))) (aj (aj @N1 (aj @aBz @aIs)) (aj (aj @Qd @Gc) (aj @IW @jU)))) (aj (aj (aj @aNB (aj @aEa @ZI)) (aj (aj @ZJ @N2) (aj @aBA @aIt))) (aj (aj @aEb (aj @Gb @yJ)) (aj (aj @vV @aBB) (aj @R2 @R1))))))
def E8:=EV
def L8:=LE
def R8:=RD
def F8:=aj FA FT
def EGn:=aj (aj (aj (aj (aj (aj @List.size_toArray.{0} @jB) (aj @mF @jC)) (aj (aj @kN @mG) (aj @QT @QU))) (aj (aj (aj @v8 @JC) (aj @HR @SL)) (aj (aj @YF @YB) (aj @RS (aj @fK @dI))))) (aj (aj (aj (aj @cC @J6) (aj @YD @J7)) (aj (aj @aAE @aAF) (aj @RV (aj @RW @RX)))) (aj (aj (aj @RY @RZ) (aj @SA @SC)) (aj (aj @SE @SF) (aj @SG (aj @SH @SI)))))) (aj (aj (aj (aj (aj @SJ @SK) (aj @aGR @aAV)) (aj (aj @Zs @z5) (aj @aC8 (aj @J8 @aC9)))) (aj (aj (aj @aAJ @aGO) (aj @aAK @ET)) (aj (aj @LD @SM) (aj @aDa (aj @aAL @aAM))))) (aj (aj (aj (aj @aDb @LF) (aj @aAN @LG)) (aj (aj @YG @YH) (aj @aAO (aj @YI @aGP)))) (aj (aj (aj @aDc @WJ) (aj @aDd @aAP)) (aj (aj @aAQ @aAR) (aj @aGQ (aj @J9 @aAS))))))
def ZC:=aj (aj L8 R8) F8
def Z8:=aj EV ZC
def ZG:=aj (aj EGn @J4) Z8
end Go.Ab.Tryz
namespace Go.Ab.Tryz
open Go.Ab
theorem Hm:(((aE 0 2 (some 2)=[])∧((aE 1 13 (some 11)=[])∧(aE 2 17 (some 22)=[])))∧(((aE 3 4 (some 37)=[])∧(aE 4 8 (some 40)=[]))∧((aE 5 10 (some 48)=[])∧(aE 6 9 (some 56)=[(4,7)]))))∧(((aE 7 6 (some 63)=[])∧((aE 8 6 (some 68)=[])∧(aE 9 9 (some 73)=[])))∧(((aE 10 18 (some 82)=[])∧(aE 11 4 (some 99)=[]))∧((aE 12 3 (some 103)=[])∧(aE 13 2 (some 105)=[])))):=⟨⟨⟨rfl,⟨rfl,rfl⟩⟩,⟨⟨rfl,rfl⟩,⟨rfl,rfl⟩⟩⟩,⟨⟨rfl,⟨rfl,rfl⟩⟩,⟨⟨rfl,rfl⟩,⟨rfl,rfl⟩⟩⟩⟩
theorem aGk:((aE 0 5 (some 2)=[])∧((aE 1 5 (some 9)=[])∧(aE 2 2 (some 13)=[])))∧(((aE 3 5 (some 15)=[])∧(aE 4 4 (some 17)=[]))∧((aE 5 8 (some 19)=[])∧(aE 6 9 (some 26)=[(5,6)]))):=⟨⟨rfl,⟨rfl,rfl⟩⟩,⟨⟨rfl,rfl⟩,⟨rfl,rfl⟩⟩⟩
theorem JM:(((aE 0 5 (some 2)=[])∧(aE 1 1 (some 7)=[]))∧((aE 2 5 (some 9)=[])∧(aE 4 11 (some 16)=[])))∧(((aE 5 7 (some 27)=[])∧(aE 6 13 (some 32)=[]))∧((aE 7 5 (some 44)=[(1,2)])∧((aE 3 3 (some 14)=[])∧(aE 8 5 (some 46)=[])))):=⟨⟨⟨rfl,rfl⟩,⟨rfl,rfl⟩⟩,⟨⟨rfl,rfl⟩,⟨rfl,⟨rfl,rfl⟩⟩⟩⟩
theorem WO:((((aE 0 3 (some 2)=[])∧(aE 1 8 (some 9)=[(3,6)]))∧((aE 2 41 (some 13)=[])∧(aE 3 1 (some 4)=[])))∧(((aE 4 38 (some 54)=[])∧(aE 5 1 (some 4)=[]))∧((aE 6 1 (some 7)=[])∧(aE 7 6 (some 131)=[]))))∧((((aE 9 14 (some 139)=[])∧(aE 10 1 (some 4)=[]))∧((aE 8 3 (some 137)=[])∧(aE 11 1 (some 8)=[])))∧(((aE 12 6 (some 153)=[])∧(aE 14 13 (some 161)=[]))∧((aE 15 1 (some 4)=[])∧((aE 13 3 (some 159)=[])∧(aE 16 1 (some 4)=[]))))):=⟨⟨⟨⟨rfl,rfl⟩,⟨rfl,rfl⟩⟩,⟨⟨rfl,rfl⟩,⟨rfl,rfl⟩⟩⟩,⟨⟨⟨rfl,rfl⟩,⟨rfl,rfl⟩⟩,⟨⟨rfl,rfl⟩,⟨rfl,⟨rfl,rfl⟩⟩⟩⟩⟩
theorem sT:(((((aE 0 2 (some 3)=[])∧(aE 1 7 (some 12)=[]))∧((aE 2 4 (some 18)=[])∧(aE 3 14 (some 22)=[])))∧(((aE 4 8 (some 35)=[])∧(aE 5 23 (some 41)=[]))∧((aE 6 9 (some 62)=[])∧((aE 7 5 (some 71)=[])∧(aE 8 4 (some 75)=[])))))∧((((aE 9 9 (some 79)=[])∧(aE 10 7 (some 87)=[]))∧((aE 11 6 (some 93)=[])∧((aE 12 13 (some 97)=[])∧(aE 13 4 (some 110)=[]))))∧(((aE 14 6 (some 114)=[])∧(aE 15 4 (some 119)=[]))∧((aE 16 15 (some 122)=[])∧((aE 17 12 (some 137)=[(7,9)])∧(aE 18 11 (some 147)=[]))))))∧(((((aE 19 5 (some 158)=[])∧(aE 20 8 (some 162)=[(3,5)]))∧((aE 21 3 (some 168)=[])∧((aE 22 2 (some 172)=[])∧(aE 23 6 (some 173)=[]))))∧(((aE 24 2 (some 179)=[])∧(aE 25 5 (some 180)=[]))∧((aE 26 2 (some 185)=[])∧((aE 27 5 (some 186)=[])∧(aE 28 2 (some 191)=[])))))∧((((aE 29 9 (some 192)=[])∧(aE 30 2 (some 201)=[]))∧((aE 31 5 (some 202)=[])∧((aE 32 2 (some 207)=[])∧(aE 33 16 (some 208)=[]))))∧(((aE 34 2 (some 224)=[])∧(aE 35 5 (some 225)=[]))∧((aE 36 2 (some 230)=[])∧((aE 37 3 (some 231)=[])∧(aE 38 2 (some 233)=[])))))):=⟨⟨⟨⟨⟨rfl,rfl⟩,⟨rfl,rfl⟩⟩,⟨⟨rfl,rfl⟩,⟨rfl,⟨rfl,rfl⟩⟩⟩⟩,⟨⟨⟨rfl,rfl⟩,⟨rfl,⟨rfl,rfl⟩⟩⟩,⟨⟨rfl,rfl⟩,⟨rfl,⟨rfl,rfl⟩⟩⟩⟩⟩,⟨⟨⟨⟨rfl,rfl⟩,⟨rfl,⟨rfl,rfl⟩⟩⟩,⟨⟨rfl,rfl⟩,⟨rfl,⟨rfl,rfl⟩⟩⟩⟩,⟨⟨⟨rfl,rfl⟩,⟨rfl,⟨rfl,rfl⟩⟩⟩,⟨⟨rfl,rfl⟩,⟨rfl,⟨rfl,rfl⟩⟩⟩⟩⟩⟩
theorem Sq:(((aE 0 6 (some 3)=[])∧(aE 1 10 (some 13)=[(5,8)]))∧((aE 2 5 (some 19)=[])∧((aE 3 2 (some 24)=[])∧(aE 4 5 (some 25)=[]))))∧(((aE 5 2 (some 30)=[])∧(aE 6 12 (some 31)=[]))∧((aE 7 36 (some 41)=[])∧((aE 8 5 (some 114)=[])∧(aE 9 5 (some 116)=[(1,2)])))):=⟨⟨⟨rfl,rfl⟩,⟨rfl,⟨rfl,rfl⟩⟩⟩,⟨⟨rfl,rfl⟩,⟨rfl,⟨rfl,rfl⟩⟩⟩⟩
theorem tE:((((aE 0 4 (some 3)=[])∧(aE 1 13 (some 16)=[]))∧((aE 2 2 (some 23)=[])∧((aE 3 2 (some 25)=[])∧(aE 4 7 (some 26)=[]))))∧(((aE 5 6 (some 32)=[])∧(aE 6 8 (some 37)=[(1,4)]))∧((aE 7 2 (some 43)=[])∧((aE 8 2 (some 45)=[])∧(aE 9 14 (some 47)=[])))))∧((((aE 10 6 (some 59)=[])∧(aE 11 3 (some 65)=[]))∧((aE 12 9 (some 68)=[])∧((aE 13 1 (some 13)=[])∧(aE 14 1 (some 14)=[]))))∧(((aE 15 6 (some 74)=[])∧((aE 17 9 (some 82)=[])∧(aE 18 10 (some 91)=[])))∧((aE 16 3 (some 80)=[])∧((aE 19 4 (some 100)=[])∧(aE 20 2 (some 103)=[]))))):=⟨⟨⟨⟨rfl,rfl⟩,⟨rfl,⟨rfl,rfl⟩⟩⟩,⟨⟨rfl,rfl⟩,⟨rfl,⟨rfl,rfl⟩⟩⟩⟩,⟨⟨⟨rfl,rfl⟩,⟨rfl,⟨rfl,rfl⟩⟩⟩,⟨⟨rfl,⟨rfl,rfl⟩⟩,⟨rfl,⟨rfl,rfl⟩⟩⟩⟩⟩
theorem Lp:(((aE 0 2 (some 1)=[])∧(aE 1 3 (some 5)=[]))∧((aE 2 2 (some 7)=[])∧((aE 3 1 (some 4)=[])∧(aE 4 4 (some 8)=[]))))∧(((aE 6 9 (some 14)=[])∧((aE 7 10 (some 23)=[])∧(aE 8 7 (some 32)=[])))∧((aE 9 13 (some 39)=[])∧((aE 5 3 (some 12)=[])∧(aE 10 2 (some 51)=[])))):=⟨⟨⟨rfl,rfl⟩,⟨rfl,⟨rfl,rfl⟩⟩⟩,⟨⟨rfl,⟨rfl,rfl⟩⟩,⟨rfl,⟨rfl,rfl⟩⟩⟩⟩
theorem Zw:((((aE 0 3 (some 2)=[])∧(aE 1 4 (some 14)=[]))∧((aE 2 10 (some 17)=[])∧(aE 3 1 (some 9)=[])))∧(((aE 4 4 (some 22)=[])∧(aE 5 4 (some 25)=[]))∧((aE 6 1 (some 10)=[])∧(aE 7 1 (some 11)=[]))))∧((((aE 8 3 (some 29)=[])∧(aE 10 5 (some 34)=[]))∧((aE 11 2 (some 38)=[])∧(aE 12 1 (some 12)=[])))∧(((aE 13 7 (some 40)=[])∧(aE 14 5 (some 45)=[]))∧((aE 15 8 (some 50)=[])∧((aE 9 3 (some 32)=[])∧(aE 16 6 (some 56)=[(2,3)]))))):=⟨⟨⟨⟨rfl,rfl⟩,⟨rfl,rfl⟩⟩,⟨⟨rfl,rfl⟩,⟨rfl,rfl⟩⟩⟩,⟨⟨⟨rfl,rfl⟩,⟨rfl,rfl⟩⟩,⟨⟨rfl,rfl⟩,⟨rfl,⟨rfl,rfl⟩⟩⟩⟩⟩
theorem S9:((aE 0 3 (some 1)=[])∧((aE 1 5 (some 5)=[])∧(aE 2 8 (some 8)=[])))∧((aE 3 3 (some 16)=[])∧((aE 4 5 (some 17)=[(0,2)])∧(aE 5 5 (some 20)=[(1,3)]))):=⟨⟨rfl,⟨rfl,rfl⟩⟩,⟨rfl,⟨rfl,rfl⟩⟩⟩
theorem Me:((((aE 0 2 (some 1)=[])∧(aE 1 8 (some 6)=[]))∧((aE 2 1 (some 2)=[])∧((aE 3 7 (some 15)=[])∧(aE 4 2 (some 19)=[]))))∧(((aE 5 2 (some 21)=[])∧((aE 6 5 (some 22)=[])∧(aE 7 2 (some 25)=[])))∧((aE 8 2 (some 28)=[])∧((aE 9 4 (some 29)=[])∧(aE 10 2 (some 33)=[])))))∧((((aE 11 4 (some 34)=[])∧((aE 12 2 (some 38)=[])∧(aE 13 4 (some 39)=[])))∧((aE 14 2 (some 43)=[])∧((aE 15 4 (some 44)=[])∧(aE 16 2 (some 48)=[]))))∧(((aE 17 4 (some 49)=[])∧((aE 18 2 (some 53)=[])∧(aE 19 8 (some 54)=[(3,5)])))∧((aE 20 4 (some 60)=[])∧((aE 21 1 (some 2)=[])∧(aE 22 1 (some 2)=[]))))):=⟨⟨⟨⟨rfl,rfl⟩,⟨rfl,⟨rfl,rfl⟩⟩⟩,⟨⟨rfl,⟨rfl,rfl⟩⟩,⟨rfl,⟨rfl,rfl⟩⟩⟩⟩,⟨⟨⟨rfl,⟨rfl,rfl⟩⟩,⟨rfl,⟨rfl,rfl⟩⟩⟩,⟨⟨rfl,⟨rfl,rfl⟩⟩,⟨rfl,⟨rfl,rfl⟩⟩⟩⟩⟩
theorem OF:((aE 0 2 (some 3)=[])∧(aE 1 1 (some 5)=[]))∧((aE 2 15 (some 6)=[])∧((aE 3 3 (some 21)=[])∧(aE 4 13 (some 23)=[(7,10)]))):=⟨⟨rfl,rfl⟩,⟨rfl,⟨rfl,rfl⟩⟩⟩
theorem Bw:((((aE 0 3 (some 1)=[])∧(aE 1 3 (some 9)=[]))∧((aE 2 3 (some 12)=[])∧(aE 3 5 (some 13)=[])))∧(((aE 4 3 (some 17)=[])∧(aE 5 7 (some 19)=[]))∧((aE 6 4 (some 26)=[])∧((aE 7 7 (some 28)=[])∧(aE 8 4 (some 34)=[])))))∧((((aE 9 3 (some 37)=[])∧(aE 10 1 (some 6)=[]))∧((aE 11 4 (some 39)=[])∧((aE 13 8 (some 45)=[])∧(aE 14 12 (some 53)=[]))))∧(((aE 15 11 (some 65)=[])∧(aE 16 2 (some 73)=[]))∧((aE 17 7 (some 75)=[])∧((aE 12 3 (some 43)=[])∧(aE 18 3 (some 81)=[]))))):=⟨⟨⟨⟨rfl,rfl⟩,⟨rfl,rfl⟩⟩,⟨⟨rfl,rfl⟩,⟨rfl,⟨rfl,rfl⟩⟩⟩⟩,⟨⟨⟨rfl,rfl⟩,⟨rfl,⟨rfl,rfl⟩⟩⟩,⟨⟨rfl,rfl⟩,⟨rfl,⟨rfl,rfl⟩⟩⟩⟩⟩
theorem aLk:((aE 0 2 (some 3)=[])∧(aE 1 14 (some 5)=[(3,5),(3,8),(6,8),(3,11),(6,11),(9,11)]))∧((aE 2 8 (some 18)=[(3,5)])∧((aE 3 8 (some 25)=[(3,5)])∧(aE 4 13 (some 32)=[(4,7),(4,10),(8,10)]))):=⟨⟨rfl,rfl⟩,⟨rfl,⟨rfl,rfl⟩⟩⟩
theorem aEH:((aE 0 3 (some 1)=[])∧(aE 1 4 (some 5)=[]))∧((aE 2 2 (some 8)=[])∧((aE 3 3 (some 10)=[])∧(aE 4 14 (some 11)=[(5,7),(5,10),(8,10)]))):=⟨⟨rfl,rfl⟩,⟨rfl,⟨rfl,rfl⟩⟩⟩
theorem OR:(((aE 0 3 (some 1)=[])∧(aE 1 4 (some 6)=[]))∧((aE 2 2 (some 2)=[])∧(aE 3 14 (some 10)=[(7,9),(7,10)])))∧(((aE 4 1 (some 5)=[])∧(aE 5 5 (some 23)=[]))∧((aE 7 8 (some 30)=[])∧((aE 6 3 (some 28)=[])∧(aE 8 3 (some 37)=[])))):=⟨⟨⟨rfl,rfl⟩,⟨rfl,rfl⟩⟩,⟨⟨rfl,rfl⟩,⟨rfl,⟨rfl,rfl⟩⟩⟩⟩
theorem T8:((aE 0 3 (some 1)=[])∧(aE 1 8 (some 4)=[]))∧((aE 2 2 (some 2)=[])∧(aE 3 13 (some 12)=[(7,9)])):=⟨⟨rfl,rfl⟩,⟨rfl,rfl⟩⟩
theorem aK4:(aE 0 2 (some 3)=[])∧(aE 1 8 (some 5)=[(3,5)]):=⟨rfl,rfl⟩
theorem aEG:(aE 0 2 (some 3)=[])∧(aE 1 14 (some 5)=[(3,5),(3,8),(6,8),(3,11),(6,11),(9,11)]):=⟨rfl,rfl⟩
theorem Zg:((aE 0 1 (some 4)=[])∧((aE 1 1 (some 5)=[])∧(aE 2 12 (some 6)=[])))∧(((aE 3 3 (some 18)=[])∧(aE 4 12 (some 20)=[]))∧((aE 5 2 (some 32)=[])∧(aE 6 12 (some 33)=[(6,9)]))):=⟨⟨rfl,⟨rfl,rfl⟩⟩,⟨⟨rfl,rfl⟩,⟨rfl,rfl⟩⟩⟩
end Go.Ab.Tryz
