/-
  Part 9 of the proof: an evaluator of programs, its soundness, and what functions of this program compute.
-/
import Derived.Test.YtmcjkemalibacaaGreatK8
import Derived.Test.YtmcjkemalibacaaGreatK5
set_option linter.all false
set_option maxRecDepth 20000
set_option maxHeartbeats 40000000
section
namespace Go.Ab
open Classical
instance:Inhabited Node:=⟨YS⟩
def nd (ns:List Node) (i:Int):Node:=ns.getD i.toNat YS
def it (l:List Int) (i:Int):Int:=l.getD i.toNat 0
theorem Ku {ns:List Node} {i:Int} (h0:0≤i) (h1:i<ns.length):∃h:i.toNat<ns.length,nd ns i=ns[i.toNat]:=by
 have h:i.toNat<ns.length:=by omega
 exact⟨h,by simp[nd,h]⟩
theorem wK {l:List Int} {i:Int} (h0:0≤i) (h1:i<l.length):∃h:i.toNat<l.length,it l i=l[i.toNat]:=by
 have h:i.toNat<l.length:=by omega
 exact⟨h,by simp[it,h]⟩
theorem QK (l:List Int):aH l=l.map fun x=>.v (.int .i64 x):=by
 induction l with
 | nil=>rfl
 | cons a l ih=>simp only[aH,List.flatMap_cons,List.map_cons,oZ] at *;rw[ih];rfl
theorem KG (l:List Int):bH l=l.map fun x=>.v (.int .u64 x):=by
 induction l with
 | nil=>rfl
 | cons a l ih=>simp only[bH,List.flatMap_cons,List.map_cons,sD] at *;rw[ih];rfl
theorem E0 (a b:List Int):aH (a++b)=aH a++aH b:=by simp[aH]
theorem Zu (a b:List Node):cF (a++b)=cF a++cF b:=by simp[cF]
theorem p8 (l:List Int):∀c∈aH l,gE c:=by rw[QK];intro c hc;obtain⟨x,_,rfl⟩:=List.mem_map.1 hc;exact .v _
theorem E1 {l:List Int} {i:Int} (h0:0≤i) (h1:i<l.length):(aH l)[i.toNat]? = some (.v (.int .i64 (it l i))):=by
 obtain⟨h,e⟩:=wK h0 h1
 rw[QK,List.getElem?_map,List.getElem?_eq_getElem h,e];rfl
theorem p7 {l:List Int} {i:Int} (h0:0≤i) (h1:i<l.length):(bH l)[i.toNat]? = some (.v (.int .u64 (it l i))):=by
 obtain⟨h,e⟩:=wK h0 h1
 rw[KG,List.getElem?_map,List.getElem?_eq_getElem h,e];rfl
theorem WJ {ns:List Node} {i:Int} (h0:0≤i) (h1:i<ns.length):((cF ns).drop (i.toNat * 240)).take 240=eX (nd ns i):=by
 obtain⟨h,e⟩:=Ku h0 h1
 rw[e,← C8 ns i.toNat h];rfl
theorem JP:((1:Nat)=0)=False:=by simp
theorem JQ:((0:Nat)=1)=False:=by simp
theorem cK {x:AV} (h:Flat x):∀y∈[x],Flat y:=by simpa using h
theorem bA {x y:AV} (h:Flat x) (h':Flat y):∀z∈[x,y],Flat z:=by simp[h,h']
theorem mW {x y u:AV} (h:Flat x) (h':Flat y) (h2:Flat u):∀z∈[x,y,u],Flat z:=by simp[h,h',h2]
theorem lN (t:Tree):Flat (.agg (cD t)):=.agg _ (VK t)
theorem tV (t:Block):Flat (.agg (aU t)):=.agg _ (Aw t)
theorem pY (t:bX):Flat (.agg (aY t)):=.agg _ (dH t)
theorem Dm (l:List Int):Flat (.sl l.length (aH l)):=.sl _ _ (gB l)
theorem aDf (st:St) (n:Nat) (cs:List AV):aT st (.sl n cs)=some (n,cs):=rfl
theorem aAg (st:St):aT st (.v (.slice none 0 0))=some (0,[]):=rfl
theorem aHK (x:Int):oZ x=[.v (.int .i64 x)]:=rfl
theorem aHL (x:Int):sD x=[.v (.int .u64 x)]:=rfl
theorem aDg (x:Bool):tY x=[.v (.bool x)]:=rfl
namespace Tryz
open Go.Proofs
theorem aMY (st:St) {ns:List Node} {k:IntKind} {i:Int} (h0:0≤i) (h1:i<ns.length):bD Tryz.prog st 48 (.sl ns.length (cF ns)) (.v (.int k i))=some (.ip (eX (nd ns i)) 0):=by
 have hl:i.toNat<ns.length:=by omega
 have:i.toNat * 240+240≤ns.length * 240:=by rw[← Nat.succ_mul];exact Nat.mul_le_mul_right _ hl
 simp only[bD,aHI,QI,h0,h1,Kv,this,and_self,if_true,WJ h0 h1]
theorem aDX (st:St) {l:List Int} {k:IntKind} {i:Int} (h0:0≤i) (h1:i<l.length):bD Tryz.prog st 22 (.sl l.length (aH l)) (.v (.int k i))=some (.ip (oZ (it l i)) 0):=by
 obtain⟨h,e⟩:=wK h0 h1
 have:i.toNat * 1+1≤l.length * 1:=by omega
 have hr:=X9 l i.toNat h
 simp only[bD,aDd,Kq,h0,h1,Iz,this,and_self,if_true,e,← hr];rfl
theorem aAh {call:Nat→List AV→Option AV} {ops:Array Oper} {st:St} {d:Option Nat} {T:Nat} {pos:String} {eU:Array Edge} (g:Nat) (args:Array Operand) (sQ:Array Nat) (h:(g == 215 || g == 226 || g == 227 || g == 229 || g == 228 || g == 230 || g == 231 || g == 210 || g == 81 || g == 217 || g == 222 || g == 235 || g == 220 || g == 101 || g == 57 || g == 32 || (g == 43 && d == some 72))=false) :
 cC Tryz.prog call ops ⟨d,.call ⟨.value (.func g),args,sQ⟩,T,pos,eU,none⟩ st=cH (aN call g (args.toList.map st.ev) st d) fun e=>some (e.apply st):=by
 simp only[Bool.or_eq_false_iff] at h;exact aCl g args sQ (aCR (by simp only[h,Bool.or_self])) (aAa (by simp only[h,Bool.or_self]))
theorem E2 {call:Nat→List AV→Option AV} {ops:Array Oper} {st:St} {d:Option Nat} {T:Nat} {pos:String} {eU:Array Edge} (g:Nat) (args:Array Operand) (sQ:Array Nat) (h:(g == 215 || g == 226 || g == 227 || g == 229 || g == 228 || g == 230 || g == 231 || g == 210 || g == 81)=true) :
 cC Tryz.prog call ops ⟨d,.call ⟨.value (.func g),args,sQ⟩,T,pos,eU,none⟩ st=cH (lA call g (args.toList.map st.ev) st d) fun e=>some (e.apply st):=W0 g args sQ (YV h)
theorem aAi {call:Nat→List AV→Option AV} {ops:Array Oper} {st:St} {d:Option Nat} {T:Nat} {pos:String} {eU:Array Edge} (g:Nat) (args:Array Operand) (sQ:Array Nat) (h:(g == 217 || g == 222 || g == 235 || g == 220 || g == 101 || g == 57 || g == 32 || (g == 43 && d == some 72))=true) :
 cC Tryz.prog call ops ⟨d,.call ⟨.value (.func g),args,sQ⟩,T,pos,eU,none⟩ st=cH (eQ call g (args.toList.map st.ev) st d) fun e=>some (e.apply st):=by
 refine UZ g args sQ ?_ (aAb h)
 simp only[Bool.or_eq_true,Bool.and_eq_true,beq_iff_eq] at h;rcases h with ((((((h|h)|h)|h)|h)|h)|h)|⟨h,_⟩<;>(subst h;rfl)
theorem aMZ {S d:Nat} (h:((S == 54 && (d == 36 || d == 42 || d == 26)) || (S == 45 && (d == 84 || d == 91)))=false):Ext.va S d=false:=YT (by
 simp only[Bool.or_eq_false_iff,Bool.and_eq_false_iff] at h ⊢;exact h.1.imp id fun h=>h.2)
theorem aM0 {S d:Nat} (h:((S == 54 && (d == 36 || d == 42 || d == 26)) || (S == 45 && (d == 84 || d == 91)))=false):Ext.pa S d=false:=aCQ (by
 simp only[Bool.or_eq_false_iff,Bool.and_eq_false_iff] at h ⊢;exact⟨h.1.imp id fun h=>h.1,h.2⟩)
theorem aAj {S d:Nat} (h:((S == 54 && (d == 36 || d == 42)) || (S == 45 && (d == 84 || d == 91)))=true):Ext.va S d=false:=YT (by
 by_cases h2:d=26
 ·subst h2;simp at h
 ·simp[h2])
theorem aDh {call:Nat→List AV→Option AV} {ops:Array Oper} {st:St} {T:Nat} {pos:String} {eU:Array Edge} (s x:Operand) (S d:Nat) (h:((S == 54 && (d == 36 || d == 42 || d == 26)) || (S == 45 && (d == 84 || d == 91)))=false):cC Tryz.prog call ops ⟨some d,.call ⟨.builtin .append,#[s,x],#[S,S]⟩,T,pos,eU,none⟩ st=cH (dE Tryz.prog st S (st.ev s) (st.ev x)) fun ur =>
 some (((match ur.1 with|some p=>st.jV p.1 p.2 none|none=>st).new d ur.2).put (some d) (.own d (st.aQ d))):=VB s x S d (aMZ h) (aM0 h)
theorem gZ {call:Nat→List AV→Option AV} {ops:Array Oper} {st:St} {T:Nat} {pos:String} {eU:Array Edge} (s x:Operand) (S d:Nat) (h:((S == 54 && (d == 36 || d == 42)) || (S == 45 && (d == 84 || d == 91)))=true) (hn:¬(st.ev s=.v (.slice none 0 0)∧(aT st (st.ev x)).map Prod.fst=some 0)):cC Tryz.prog call ops ⟨some d,.call ⟨.builtin .append,#[s,x],#[S,S]⟩,T,pos,eU,none⟩ st=cH (dE Tryz.prog st S (st.ev s) (st.ev x)) fun ur =>
 some (((match ur.1 with|some p=>st.jV p.1 p.2 none|none=>st).new d ur.2).put (some d) (.own d (st.aQ d))):=W3 s x S d (aAj h) (YU h) hn
theorem gY {call:Nat→List AV→Option AV} {ops:Array Oper} {st:St} {T:Nat} {pos:String} {eU:Array Edge} (s x:Operand) (S d:Nat) (h:((S == 54 && (d == 36 || d == 42)) || (S == 45 && (d == 84 || d == 91)))=true) (hi:(dQ Tryz.prog S).isSome=true) (h1:st.ev s=.v (.slice none 0 0)) (h2:(aT st (st.ev x)).map Prod.fst=some 0):cC Tryz.prog call ops ⟨some d,.call ⟨.builtin .append,#[s,x],#[S,S]⟩,T,pos,eU,none⟩ st=some (st.put (some d) (.v (.slice none 0 0))):=W4 s x S d (aAj h) (YU h) hi h1 h2
end Tryz
end Go.Ab
end
section
namespace Go.Ab
open Classical
noncomputable def vN (call:Nat→List AV→Option AV) (g:Nat) (xs:Option (List AV)) (fl:Bool) (st:St) (d:Option Nat):Option qW :=
 cH xs fun xs=>cH (call g xs) fun r=>if fl=true∨Gh r then iP r st d else none
theorem Ck {st:St}:∀(args:List AV),(∀x∈args,Flat x)→bY (args.map (fV st))=some args
 | [],_=>rfl
 | x :: xs,h=>by
   simp only[List.map_cons,eB (h x (by simp)),bY,Ck xs fun y hy=>h y (by simp[hy]),Option.map_some]
theorem nH (call:Nat→List AV→Option AV) (g:Nat) (args:List AV) (st:St) (d:Option Nat):aN call g args st d=vN call g (bY (args.map (fV st))) (decide (∀x∈args,Flat x)) st d:=by
 unfold aN vN;by_cases h:∀x∈args,Flat x
 ·rw[if_pos h,Ck args h];have hd:decide (∀x∈args,Flat x)=true:=decide_eq_true h
  rw[hd];simp only[cN,true_or,if_true]
 ·rw[if_neg h];cases bY (args.map (fV st)) with
  | none=>rfl
  | some xs =>
    have hd:decide (∀x∈args,Flat x)=false:=decide_eq_false h
    rw[hd];simp only[cN,Bool.false_eq_true,false_or]
theorem ZW {call:Nat→List AV→Option AV} {g:Nat} {xs:List AV} {r:AV} {fl:Bool} {st:St} {d:Option Nat} (h:call g xs=some r) (hr:Gh r) (hf:Flat r):vN call g (some xs) fl st d=some { dst:=d,val:=r }:=by
 unfold vN;simp only[cN,h,hr,or_true,if_true,iP,if_pos hf]
theorem TO {call:Nat→List AV→Option AV} {g:Nat} {xs:List AV} {b:Bool} {fl:Bool} {st:St} {d:Option Nat} (h:call g xs=some (.v (.bool b))):vN call g (some xs) fl st d=some { dst:=d,val:=.v (.bool b)}:=ZW h (.v _) (.v _)
theorem KO {call:Nat→List AV→Option AV} {g:Nat} {xs:List AV} {k:IntKind} {b:Int} {fl:Bool} {st:St} {d:Option Nat} (h:call g xs=some (.v (.int k b))):vN call g (some xs) fl st d=some { dst:=d,val:=.v (.int k b)}:=ZW h (.v _) (.v _)
theorem L1 {call:Nat→List AV→Option AV} {g:Nat} {xs:List AV} {e sz n:Nat} {cs:List AV} {fl:Bool} {st:St} {d:Nat} (h:call g xs=some (.uniq e sz n cs)) (hr:∀c∈cs,gE c):vN call g (some xs) fl st (some d)=some { dst:=some d,val:=.own d (st.aQ d),new:=some (d,[.row e sz n cs])}:=by
 have XG:Gh (.uniq e sz n cs):=hr
 have hnf:¬Flat (.uniq e sz n cs):=by intro h;cases h
 unfold vN;simp only[cN,h,XG,or_true,if_true,iP,if_neg hnf];rfl
noncomputable def iX (o:Option mV):Option AV :=
 match o with
 | some (.row _ _ n cs)=>if ∀c∈cs,Flat c then some (.sl n cs) else none
 | _=>none
theorem uQ (st:St) (s g:Nat):fV st (.own s g)=iX (st.heap s g):=by
 unfold fV dA iX;rw[if_neg (mI s g)];simp only[if_neg (mI s g)];cases st.heap s g with
 | none=>rfl
 | some e=>cases e<;>rfl
theorem E3 (e sz n:Nat) (l:List Int):iX (some (.row e sz n (aH l)))=some (.sl n (aH l)):=by
 unfold iX;simp only;rw[if_pos (gB l)]
theorem E4 (e sz n:Nat) (l:List Int):iX (some (.row e sz n (bH l)))=some (.sl n (bH l)):=by
 unfold iX;simp only;rw[if_pos (iD l)]
theorem WK (e sz n:Nat) (l:List Node):iX (some (.row e sz n (cF l)))=some (.sl n (cF l)):=by
 unfold iX;simp only;rw[if_pos (kN l)]
theorem QL (e sz:Nat) (x:Node):iX (some (.row e sz 1 (eX x)))=some (.sl [x].length (cF [x])):=by
 unfold iX;simp only;rw[if_pos (Kt x)];simp[cF]
theorem Qh (st:St) (x:Value):fV st (.v x)=some (.v x):=eB (.v x)
theorem Is (st:St) (t:Tree):fV st (.agg (cD t))=some (.agg (cD t)):=eB (lN t)
theorem Qm (st:St) (t:bX):fV st (.agg (aY t))=some (.agg (aY t)):=eB (pY t)
theorem Ld (st:St) (t:Block):fV st (.agg (aU t))=some (.agg (aU t)):=eB (tV t)
theorem aAk (st:St) (n:Nat) (l:List Int):fV st (.sl n (aH l))=some (.sl n (aH l)):=eB (.sl _ _ (gB l))
theorem aAl (st:St) (n:Nat) (l:List Int):fV st (.sl n (bH l))=some (.sl n (bH l)):=eB (.sl _ _ (iD l))
theorem aDi (st:St):fV st (.agg [.v (.slice none 0 0)])=some (.agg [.v (.slice none 0 0)]):=eB (.agg _ (by simp;exact .v _))
theorem gU {α:Type}:bY ([]:List (Option α))=some []:=rfl
theorem bR {α:Type} (x:α) (r:List (Option α)):bY (some x :: r)=(bY r).map (x :: ·):=rfl
theorem aDj (x:Int):xG 3 1 8 (some (1,[.v (.int .i64 x)]))=some (none,.row 3 1 [x].length (aH [x])):=by
 simp[xG,maxLen];rfl
theorem aDk (l:List Int) (x:Int) (s g:Nat) (h:(l.length:Int)<1000000):wX 3 1 8 (some (.row 3 1 l.length (aH l))) s g (some (1,[.v (.int .i64 x)]))=some (some (s,g),.row 3 1 (l++[x]).length (aH (l++[x]))):=by
 simp only[wX];rw[if_pos ⟨by simp,by simp,by simp,by omega,by simp only[maxLen];omega⟩,E0]
 simp[aH,oZ]
theorem aAm (x:Node):xG 76 240 352 (some (1,eX x))=some (none,.row 76 240 [x].length (cF [x])):=by
 simp[xG,maxLen,cF]
theorem aAn (l:List Node) (x:Node) (s g:Nat) (h:(l.length:Int)<1000000):wX 76 240 352 (some (.row 76 240 l.length (cF l))) s g (some (1,eX x))=some (some (s,g),.row 76 240 (l++[x]).length (cF (l++[x]))):=by
 simp only[wX];rw[if_pos ⟨by simp,by simp,by simp,by omega,by simp only[maxLen];omega⟩,Zu]
 simp[cF]
theorem aAo (l:List Node) (h:(l.length:Int)<1000000):xG 76 240 352 (some (l.length,cF l))=some (none,.row 76 240 l.length (cF l)):=by
 simp only[xG];rw[if_pos (by refine⟨by simp, ?_, ?_⟩<;>(try simp only[maxLen])<;>omega)]
theorem aAp (l:List Node) (h:(l.length:Int)<1000000):acE 76 240 352 0 [] (some (l.length,cF l))=some (none,.row 76 240 l.length (cF l)):=by
 simp only[acE];rw[if_pos ⟨by simp,by simp,by simp,by omega,by simp only[maxLen];omega⟩]
 simp
theorem aAq (l:List Node) (x:Node) (h:(l.length:Int)<1000000):acE 76 240 352 l.length (cF l) (some (1,eX x))=some (none,.row 76 240 (l++[x]).length (cF (l++[x]))):=by
 simp only[acE];rw[if_pos (by refine⟨by simp,by simp,.inr (by omega), ?_, ?_⟩<;>(try simp only[maxLen])<;>omega),Zu]
 simp[cF]
def onI {α:Type} (x:AV) (k:Int→Option α):Option α :=
 match x with
 | .v (.int .i64 v)=>k v
 | _=>none
def aEW {α:Type} (z:Nat) (x:AV) (k:List AV→Option α):Option α :=
 match x with
 | .agg cs=>if cs.length=z then k cs else none
 | _=>none
@[congr] theorem aIA {α:Type} {x y:AV} {k:Int→Option α} (h:x=y):onI x k=onI y k:=by rw[h]
@[congr] theorem aEX {α:Type} {z:Nat} {x y:AV} {k:List AV→Option α} (h:x=y):aEW z x k=aEW z y k:=by rw[h]
def Kr {α:Type} (x:AV) (k:Int→Option α) (fb:Option α):Option α :=
 match x with
 | .v (.int .i64 v)=>k v
 | _=>fb
def QM {α:Type} (z:Nat) (x:AV) (k:List AV→Option α) (fb:Option α):Option α :=
 match x with
 | .agg cs=>if cs.length=z then k cs else fb
 | _=>fb
def QN {α:Type} (x:AV) (k:Nat→List AV→Option α) (fb:Option α):Option α :=
 match x with
 | .Fp g cs=>k g cs
 | _=>fb
theorem aDl {α:Type} (v:Int) (k:Int→Option α) (fb:Option α):Kr (.v (.int .i64 v)) k fb=k v:=rfl
theorem E5 {α:Type} (z:Nat) (cs:List AV) (k:List AV→Option α) (fb:Option α) (h:cs.length=z):QM z (.agg cs) k fb=k cs:=if_pos h
theorem E6 {α:Type} (g:Nat) (cs:List AV) (k:Nat→List AV→Option α) (fb:Option α):QN (.Fp g cs) k fb=k g cs:=rfl
@[congr] theorem aIB {α:Type} {x y:AV} {k:Int→Option α} {fb:Option α} (h:x=y):Kr x k fb=Kr y k fb:=by rw[h]
@[congr] theorem aEY {α:Type} {z:Nat} {x y:AV} {k:List AV→Option α} {fb:Option α} (h:x=y):QM z x k fb=QM z y k fb:=by rw[h]
@[congr] theorem aEZ {α:Type} {x y:AV} {k:Nat→List AV→Option α} {fb:Option α} (h:x=y):QN x k fb=QN y k fb:=by rw[h]
namespace Tryz
open Go.Proofs
theorem E7 (st:St) (x:AV):dE Tryz.prog st 22 (.v (.slice none 0 0)) x=xG 3 1 8 (aT st x):=tP Kq x
theorem E9 (st:St) (s g:Nat) (x:AV):dE Tryz.prog st 22 (.own s g) x=wX 3 1 8 (st.heap s g) s g (aT st x):=rY Kq s g x
theorem F0 (st:St) (x:AV):dE Tryz.prog st 48 (.v (.slice none 0 0)) x=xG 76 240 352 (aT st x):=tP QI x
theorem F1 (st:St) (s g:Nat) (x:AV):dE Tryz.prog st 48 (.own s g) x=wX 76 240 352 (st.heap s g) s g (aT st x):=rY QI s g x
theorem aAr (st:St) (n:Nat) (cs:List AV) (x:AV):dE Tryz.prog st 48 (.cl n cs) x=acE 76 240 352 n cs (aT st x):=aGf QI n cs x
theorem F2 (st:St) (s g:Nat) (k:IntKind) (i:Int):bD Tryz.prog st 22 (.own s g) (.v (.int k i))=OW 3 1 (st.heap s g) s g i:=by
 simp only[bD,aDd,Kq,OW];cases st.heap s g with
 | none=>rfl
 | some e=>cases e<;>rfl
theorem F3 (st:St) (s g:Nat) (k:IntKind) (i:Int):bD Tryz.prog st 48 (.own s g) (.v (.int k i))=OW 76 240 (st.heap s g) s g i:=by
 simp only[bD,aHI,QI,OW];cases st.heap s g with
 | none=>rfl
 | some e=>cases e<;>rfl
theorem aDm (l:List Int) (s g:Nat) (i:Int) (h0:0≤i) (h1:i<l.length):OW 3 1 (some (.row 3 1 l.length (aH l))) s g i=some (.ptr s g i.toNat):=by
 simp[OW,h0,h1]
theorem aAs (l:List Node) (s g:Nat) (i:Int) (h0:0≤i) (h1:i<l.length):OW 76 240 (some (.row 76 240 l.length (cF l))) s g i=some (.ptr s g (i.toNat * 240)):=by
 simp[OW,h0,h1]
theorem QO (st:St) (s g:Nat):fV st (.agg [.own s g])=(iX (st.heap s g)).map fun y=>.agg [y]:=by
 have hn:¬Flat (.agg [.own s g]):=by intro h;cases h with|agg _ h=>exact mI s g (h _ (by simp))
 unfold fV iX;rw[if_neg hn];simp only[List.map_cons,List.map_nil];unfold dA;rw[if_neg (mI s g)];simp only
 cases st.heap s g with
 | none=>rfl
 | some e=>cases e with
   | row a b n cs =>
     by_cases h:∀c∈cs,Flat c
     ·simp only[if_pos h,bY,Option.map_some]
     ·simp only[if_neg h,bY,Option.map_none]
   | _=>rfl
theorem aHM (x:AV):rd [x] 0 1=[x]:=rfl
theorem aHN (x y:AV):dP [x] 0 [y] 1=[y]:=rfl
theorem aAt (x:AV) (t:Tree):dP [x] 0 (cD t) 1=cD t:=rfl
theorem aAu (x:AV) (t:Tree):dP (cD t) 0 [x] 1=[x]:=rfl
theorem oS {l:List Int} {i:Int} (h0:0≤i) (h1:i<l.length):(aH l)[i.toNat]? = some (.v (.int .i64 (it l i))):=E1 h0 h1
def vow (o:Option mV):Option (Nat × List AV) :=
 match o with
 | some (.row _ _ n cs)=>some (n,cs)
 | _=>none
theorem aDn (e sz n:Nat) (cs:List AV):vow (some (.row e sz n cs))=some (n,cs):=rfl
theorem F4 (st:St) (s g:Nat):aT st (.own s g)=vow (st.heap s g):=by
 simp only[aT,vow];cases st.heap s g with
 | none=>rfl
 | some o=>cases o<;>rfl
section
variable {call:Nat→List AV→Option AV} {ops:Array Oper} {st:St} {T:Nat} {pos:String} {eU:Array Edge}
theorem aDo (d:Nat) (x:Operand) {v:Int} (h:st.ev x=.v (.int .i64 v)):cC Tryz.prog call ops ⟨some d,.buildSlice 22 1 #[(0,x)],T,pos,eU,none⟩ st=some ((st.new d (.row 3 1 1 [.v (.int .i64 v)])).put (some d) (.own d (st.aQ d))):=by
 rw[kH];simp[Kq,ze3,cH,h,AV.jI,Value.oneCell',gJ,AV.cells]
theorem aDp (d:Nat) (x:Operand) {cs:List AV} (h:st.ev x=.agg cs) (hl:cs.length=240):cC Tryz.prog call ops ⟨some d,.buildSlice 48 1 #[(0,x)],T,pos,eU,none⟩ st=some ((st.new d (.row 76 240 1 cs)).put (some d) (.own d (st.aQ d))):=by
 rw[kH];have hz:(Yp.map AV.v).length=240:=by rw[IC];simp
 simp only[QI,aGM,cH,List.toList_toArray,List.all_cons,List.all_nil,h,AV.jI,Bool.and_self,List.map_cons,List.map_nil,gJ,AV.cells,hl,Nat.zero_mul,Nat.zero_add,true_and,List.take_zero,List.nil_append];have h2:((List.range 1).flatMap fun _=>Yp.map AV.v)=Yp.map AV.v:=by simp[List.range,List.range.loop]
 rw[h2,if_pos (by simp),if_pos (by rw[hz];exact Nat.le_refl _)]
 rw[List.drop_of_length_le (by rw[hz];exact Nat.le_refl _),List.append_nil]
theorem aAv (d:Nat) (x:Operand):cC Tryz.prog call ops ⟨some d,.buildSlice 22 1 #[(0,x)],T,pos,eU,none⟩ st =
 Kr (st.ev x) (fun v=>some ((st.new d (.row 3 1 1 [.v (.int .i64 v)])).put (some d) (.own d (st.aQ d)))) (cC Tryz.prog call ops ⟨some d,.buildSlice 22 1 #[(0,x)],T,pos,eU,none⟩ st):=by
 unfold Kr;split
 ·rename_i v h;exact aDo d x h
 ·rfl
theorem F5 (d:Nat) (x y z:Operand) {a b c:Int} (h1:st.ev x=.v (.int .i64 a)) (h2:st.ev y=.v (.int .i64 b)) (h3:st.ev z=.v (.int .i64 c)):cC Tryz.prog call ops ⟨some d,.buildSlice 22 3 #[(0,x),(1,y),(2,z)],T,pos,eU,none⟩ st =
 some ((st.new d (.row 3 1 [a,b,c].length (aH [a,b,c]))).put (some d) (.own d (st.aQ d))):=by
 rw[kH];simp[Kq,ze3,cH,h1,h2,h3,AV.jI,Value.oneCell',gJ,AV.cells,List.range,List.range.loop,aH,oZ]
theorem WL (d:Nat) (x y z:Operand):cC Tryz.prog call ops ⟨some d,.buildSlice 22 3 #[(0,x),(1,y),(2,z)],T,pos,eU,none⟩ st =
 Kr (st.ev x) (fun a=>Kr (st.ev y) (fun b=>Kr (st.ev z) (fun c=>some ((st.new d (.row 3 1 [a,b,c].length (aH [a,b,c]))).put (some d) (.own d (st.aQ d)))) (cC Tryz.prog call ops ⟨some d,.buildSlice 22 3 #[(0,x),(1,y),(2,z)],T,pos,eU,none⟩ st))
  (cC Tryz.prog call ops ⟨some d,.buildSlice 22 3 #[(0,x),(1,y),(2,z)],T,pos,eU,none⟩ st)) (cC Tryz.prog call ops ⟨some d,.buildSlice 22 3 #[(0,x),(1,y),(2,z)],T,pos,eU,none⟩ st):=by
 unfold Kr;split
 ·rename_i a h1;try dsimp only
  split
  ·rename_i b h2;try dsimp only
   split
   ·rename_i c h3;exact F5 d x y z h1 h2 h3
   ·rfl
  ·rfl
 ·rfl
theorem aAw (d:Nat) (x:Operand):cC Tryz.prog call ops ⟨some d,.buildSlice 48 1 #[(0,x)],T,pos,eU,none⟩ st =
 QM 240 (st.ev x) (fun cs=>some ((st.new d (.row 76 240 1 cs)).put (some d) (.own d (st.aQ d)))) (cC Tryz.prog call ops ⟨some d,.buildSlice 48 1 #[(0,x)],T,pos,eU,none⟩ st):=by
 unfold QM;split
 ·rename_i cs h;split
  ·rename_i hl;exact aDp d x h hl
  ·rfl
 ·rfl
theorem CP (S d:Nat) (l c:Operand):cC Tryz.prog call ops ⟨some d,.makeSlice S l c,T,pos,eU,none⟩ st =
 Kr (st.ev l) (fun n=>Kr (st.ev c) (fun m=>if 0≤n∧n=m then (cH (dQ Tryz.prog S) fun t=>cH (eF Tryz.prog t.1) fun z =>
  if n * t.2.2≤140737488355328∧n≤maxLen then some ((st.new d (.row t.1 t.2.1 n.toNat ((List.range n.toNat).flatMap fun _=>z.map .v))).put (some d) (.own d (st.aQ d))) else none)
  else cC Tryz.prog call ops ⟨some d,.makeSlice S l c,T,pos,eU,none⟩ st) (cC Tryz.prog call ops ⟨some d,.makeSlice S l c,T,pos,eU,none⟩ st)) (cC Tryz.prog call ops ⟨some d,.makeSlice S l c,T,pos,eU,none⟩ st):=by
 unfold Kr;split
 ·rename_i n hl;split
  ·rename_i m hc;dsimp only
   split
   ·rename_i hnm;obtain⟨h0,rfl⟩:=hnm
    have hn:n=(n.toNat:Int):=by omega
    rw[HU S d l c (n:=n.toNat) (by rw[hl,← hn]) (by rw[hc,← hn]),← hn]
   ·rfl
  ·rfl
 ·rfl
theorem F6 (t:Nat) (args:Array Operand) (sQ:Array Nat) (d:Option Nat):cC Tryz.prog call ops ⟨d,.call ⟨.value (.tmp t),args,sQ⟩,T,pos,eU,none⟩ st =
 QN (st.env t) (fun g oK=>cH (aN call g (args.toList.map st.ev++oK) st d) fun e=>some (e.apply st)) (cC Tryz.prog call ops ⟨d,.call ⟨.value (.tmp t),args,sQ⟩,T,pos,eU,none⟩ st):=by
 unfold QN;split
 ·rename_i g oK h;exact W1 t args sQ h
 ·rfl
end
end Tryz
end Go.Ab
end
namespace Go.Ab
open Classical
theorem aDq (b:Bool):unA .not (.v (.bool b))=some (.v (.bool (!b))):=rfl
theorem aDr (k:IntKind) (n:Int):unA .neg (.v (.int k n))=some (.v (.int k (k.wrap (0-n)))):=rfl
theorem aDs (k:IntKind) (n:Int):unA .xor (.v (.int k n))=some (.v (.int k (k.wrap (BitVec.ofInt k.bits (if k.signed then -1 else k.max) ^^^ BitVec.ofInt k.bits n).toNat))):=rfl
def aAx (a b:Option IntKind) (n:Int):Option AV :=
 match a,b with
 | some k,some _=>some (.v (.int k (k.wrap n)))
 | _,_=>none
theorem WM (k k':IntKind) (n:Int):aAx (some k) (some k') n=some (.v (.int k (k.wrap n))):=rfl
theorem F7 (P:Program) (s d:Nat) (k:IntKind) (n:Int):OF P s d (.v (.int k n))=aAx (intKind P d) (intKind P s) n:=by
 simp only[OF,aAx];cases intKind P d with
 | none=>rfl
 | some a=>cases intKind P s<;>rfl
theorem aDt (s g o k:Nat):uG (.ptr s g o) k=some (.ptr s g (o+k)):=rfl
theorem aHO (cs:List AV) (o k:Nat):uG (.ip cs o) k=if o+k≤cs.length then some (.ip cs (o+k)) else none:=rfl
def tX (P:Program) (T:Nat) (e:Option mV) (o:Nat):Option AV :=
 match e with
 | some (.cells cs)=>fF P T cs o
 | some (.row _ _ _ cs)=>fF P T cs o
 | _=>none
theorem QP (P:Program) (T o:Nat) (cs:List AV):tX P T (some (.cells cs)) o=fF P T cs o:=rfl
theorem F9 (P:Program) (T o e sz n:Nat) (cs:List AV):tX P T (some (.row e sz n cs)) o=fF P T cs o:=rfl
theorem aDu (P:Program) (st:St) (T o:Nat) (cs:List AV):Fg P st T (.ip cs o)=fF P T cs o:=rfl
theorem aAy (P:Program) (st:St) (T s g o:Nat):Fg P st T (.ptr s g o)=tX P T (st.heap s g) o:=by
 simp only[Fg,tX];cases st.heap s g with
 | none=>rfl
 | some e=>cases e<;>rfl
theorem aHP (x:Value):(AV.v x).jI=x.oneCell':=rfl
theorem aAz (cs:List AV):(AV.agg cs).jI=true:=rfl
theorem aDv (n:Nat) (cs:List AV):(AV.sl n cs).jI=true:=rfl
theorem aDw (n:Nat) (cs:List AV):(AV.cl n cs).jI=true:=rfl
theorem aDx (n:Nat) (cs:List AV):(AV.ip cs n).jI=true:=rfl
theorem aAA (s g o:Nat):(AV.ptr s g o).jI=true:=rfl
theorem aAB (s g:Nat):(AV.own s g).jI=true:=rfl
theorem aDy (s g:Nat):(AV.mp s g).jI=true:=rfl
theorem aAC (f:Nat) (cs:List AV):(AV.Fp f cs).jI=true:=rfl
theorem aM1 (x:Value):(AV.v x).cells=[.v x]:=rfl
theorem aDz (cs:List AV):(AV.agg cs).cells=cs:=rfl
theorem aHQ (n:Nat) (cs:List AV):(AV.sl n cs).cells=[.sl n cs]:=rfl
theorem aHR (n:Nat) (cs:List AV):(AV.cl n cs).cells=[.cl n cs]:=rfl
theorem aHS (n:Nat) (cs:List AV):(AV.ip cs n).cells=[.ip cs n]:=rfl
theorem aDA (s g o:Nat):(AV.ptr s g o).cells=[.ptr s g o]:=rfl
theorem aDB (s g:Nat):(AV.own s g).cells=[.own s g]:=rfl
theorem aHT (s g:Nat):(AV.mp s g).cells=[.mp s g]:=rfl
theorem aDC (f:Nat) (cs:List AV):(AV.Fp f cs).cells=[.Fp f cs]:=rfl
theorem aDD (k:IntKind) (n:Int):(Value.int k n).oneCell'=true:=rfl
theorem aAD (b:Bool):(Value.bool b).oneCell'=true:=rfl
theorem G0 (a:Option Addr) (n m:Nat):(Value.slice a n m).oneCell'=true:=rfl
theorem WN (id:Nat):Ex.normal.inBlock id=.normal:=rfl
theorem aDE (id:Nat):Ex.ret.inBlock id=.ret:=rfl
theorem aAE (id i:Nat):(Ex.exit i).inBlock id=if i=id then .normal else .exit i:=rfl
theorem aDF (l:List Oper) (j:Nat):YQ l.toArray j=(l[j]?).bind (·.dst):=by simp[YQ]
theorem gei (a b:Int):(a≥b)=(b≤a):=rfl
theorem gti (a b:Int):(a > b)=(b<a):=rfl
theorem aTR (a b:Nat):(a≥b)=(b≤a):=rfl
theorem gtn (a b:Nat):(a > b)=(b<a):=rfl
end Go.Ab
section
namespace Go.Ab
open Classical
def cU8 (x:Int):List AV:=[.v (.int .u8 x)]
theorem aDG (x:Int):(cU8 x).length=1:=rfl
theorem aAF (s:Int):∀x∈cU8 s,Flat x:=by intro x hx;simp[cU8] at hx;subst hx;exact .v _
def jU (l:List Int):List AV:=l.flatMap cU8
theorem uT (l:List Int):∀x∈jU l,Flat x:=by
 intro x hx;obtain⟨y,_,hy⟩:=List.mem_flatMap.1 hx
 exact aAF y x hy
section
variable {α:Type} {c:α→List AV} {sz:Nat}
theorem hU (hc:∀x,(c x).length=sz) (l:List α):(l.flatMap c).length=l.length * sz:=by
 induction l with
 | nil=>simp
 | cons x l ih=>simp only[List.flatMap_cons,List.length_append,hc,List.length_cons,ih];rw[Nat.succ_mul];omega
theorem An (hc:∀x,(c x).length=sz):∀(l:List α) (k:Nat),(l.flatMap c).take (k * sz)=(l.take k).flatMap c
 | [],k=>by simp
 | x :: l,0=>by simp
 | x :: l,k+1=>by
   simp only[List.flatMap_cons,List.take_succ_cons];rw[List.take_append,List.take_of_length_le (by rw[hc,Nat.succ_mul];omega),hc,show (k+1) * sz-sz=k * sz by rw[Nat.succ_mul];omega,An hc l k]
theorem Ao (hc:∀x,(c x).length=sz):∀(l:List α) (k:Nat),(l.flatMap c).drop (k * sz)=(l.drop k).flatMap c
 | [],k=>by simp
 | x :: l,0=>by simp
 | x :: l,k+1=>by
   simp only[List.flatMap_cons,List.drop_succ_cons];rw[List.drop_append,List.drop_of_length_le (by rw[hc,Nat.succ_mul];omega),List.nil_append,hc,show (k+1) * sz-sz=k * sz by rw[Nat.succ_mul];omega,Ao hc l k]
theorem Kl (hc:∀x,(c x).length=sz) {z:α} {l:List α} {i:Int} (h0:0≤i) (h1:i<l.length):((l.flatMap c).drop (i.toNat * sz)).take sz=c (gx z l i):=by
 obtain⟨h,e⟩:=VT (z:=z) h0 h1
 rw[Ao hc,e];have h2:=An hc (l.drop i.toNat) 1
 rw[Nat.one_mul] at h2;rw[h2];have h3:(l.drop i.toNat).take 1=[l[i.toNat]]:=by rw[List.take_one];simp[List.head?_drop,h]
 rw[h3];simp
theorem JR (hc:∀x,(c x).length=sz) (l:List α) (k:Nat) (x:α) (h:k<l.length):dP (l.flatMap c) (k * sz) (c x) (k * sz+sz)=(l.set k x).flatMap c:=by
 unfold dP;rw[An hc,show k * sz+sz=(k+1) * sz by rw[Nat.succ_mul],Ao hc,List.set_eq_take_append_cons_drop,if_pos h]
 simp
theorem QQ [Ext] {P:Program} {T e n k off:Nat} (hc:∀x,(c x).length=sz) {z:α} {l:List α} {i:Int} (h0:0≤i) (h1:i<l.length) (hk:sN P T=some k) (vM:0<k) (ho:off+k≤sz) :
 tX P T (some (.row e sz n (l.flatMap c))) (i.toNat * sz+off)=fF P T (c (gx z l i)) off:=by
 obtain⟨hn,_⟩:=VT (z:=z) h0 h1
 have hat:=Kl hc (z:=z) h0 h1
 have hle:i.toNat * sz+sz≤(l.flatMap c).length:=by
  rw[hU hc,← Nat.succ_mul];exact Nat.mul_le_mul_right _ hn
 have Bf:=hc (gx z l i)
 simp only[tX,fF];unfold sN at hk;cases hi:fL P T with
 | none=>rfl
 | some r =>
   obtain⟨b,k'⟩:=r
   rw[hi] at hk;simp only[Option.map_some,Option.some.injEq] at hk;subst hk;have hg:∀j,j<sz→(l.flatMap c)[i.toNat * sz+j]? = (c (gx z l i))[j]?:=fun j hj=>by
    rw[← hat,List.getElem?_take,if_pos hj,List.getElem?_drop]
   cases b with
   | true =>
     simp only
     have e1:rd (l.flatMap c) (i.toNat * sz+off) k'=rd (c (gx z l i)) off k':=by
      unfold rd;rw[← hat,List.drop_take,List.drop_drop,List.take_take,Nat.min_eq_left (by omega)]
     rw[e1];have l1:k'≤(l.flatMap c).length-(i.toNat * sz+off):=by omega
     have l2:k'≤(c (gx z l i)).length-off:=by omega
     rw[if_pos ⟨vM,l1⟩,if_pos ⟨vM,l2⟩]
   | false =>
     simp only
     exact hg off (by omega)
end
theorem aAG (ns:List Node):mD ⟨.sl ns.length (cF ns)⟩=cD ⟨ns⟩:=rfl
theorem Zv (s:aM) (l:List Node):dP (aA s) 115 (cD ⟨l⟩) 116=aA { s with tree:=⟨.sl l.length (cF l)⟩}:=Bt s ⟨.sl l.length (cF l)⟩
theorem Zw (s:State) (l:List Node):dP (aP s) 115 (cD ⟨l⟩) 116=aP { s with store:={ s.store with tree:=⟨.sl l.length (cF l)⟩} }:=xB s ⟨.sl l.length (cF l)⟩
namespace Tryz
open Go.Proofs
theorem G1 (st:St) (t:fB):fV st (.agg (bV t))=some (.agg (bV t)):=eB (.agg _ (cT t))
theorem JS (st:St) (t:Request):fV st (.agg (cX t))=some (.agg (cX t)):=eB (.agg _ (jL t))
theorem QR (st:St) (s:aM) (h:Flat (.agg (aA s))):fV st (.agg (aA s))=some (.agg (aA s)):=eB h
theorem QS (st:St) (s:State) (h:Flat (.agg (aP s))):fV st (.agg (aP s))=some (.agg (aP s)):=eB h
theorem FI {T n k off:Nat} {l:List fB} {i:Int} (h0:0≤i) (h1:i<l.length) (hk:sN Tryz.prog T=some k) (vM:0<k) (ho:off+k≤33):tX Tryz.prog T (some (.row 41 33 n (yN l))) (i.toNat * 33+off)=fF Tryz.prog T (bV (gx iB l i)) off:=QQ bO h0 h1 hk vM ho
theorem XN {T n k:Nat} {l:List fB} {i:Int} (h0:0≤i) (h1:i<l.length) (hk:sN Tryz.prog T=some k) (vM:0<k) (ho:k≤33):tX Tryz.prog T (some (.row 41 33 n (yN l))) (i.toNat * 33)=fF Tryz.prog T (bV (gx iB l i)) 0:=by
 have h:=FI (n:=n) (off:=0) h0 h1 hk vM (by omega)
 rw[Nat.add_zero] at h;exact h
theorem Nc (l:List fB) (i:Int) (x:fB) (h:i.toNat<l.length):dP (yN l) (i.toNat * 33) (bV x) (i.toNat * 33+33)=yN (l.set i.toNat x):=by
 generalize i.toNat=k at h ⊢
 have:=JR (c:=bV) (sz:=33) bO l k x h
 exact this
theorem QT (st:St) (o:Option (List iV)):aT st (ov bW o)=some ((ol o).length,bW (ol o)):=by cases o<;>rfl
theorem qF (o:Option (List iV)):Flat (ov bW o):=by
 cases o with
 | none=>exact .v _
 | some l=>exact .sl _ _ (qG l)
theorem QU (o:Option (List iV)):(ov bW o).jI=true:=by cases o<;>rfl
theorem WO (o:Option (List iV)):(ov bW o).cells=[ov bW o]:=by cases o<;>rfl
theorem aAH (st:St) {l:List iV} {kk:IntKind} {i:Int} (h0:0≤i) (h1:i<l.length):bD Tryz.prog st 37 (.sl l.length (bW l)) (.v (.int kk i))=some (.ip (jC (gx gI l i)) 0):=by
 have hl:i.toNat<l.length:=by omega
 have h2:i.toNat * 34+34≤(l.flatMap jC).length:=by rw[hU qV,← Nat.succ_mul];exact Nat.mul_le_mul_right _ hl
 have h3:((bW l).drop (i.toNat * 34)).take 34=jC (gx gI l i):=Kl qV h0 h1
 have h4:(bW l).length=(l.flatMap jC).length:=rfl
 (simp only[bD,aHG,D9,h0,h1,h4,h2,and_self,if_true,h3])<;>rfl
theorem aHU (st:St) {o:Option (List iV)} {kk:IntKind} {i:Int} (h0:0≤i) (h1:i<(ol o).length):bD Tryz.prog st 37 (ov bW o) (.v (.int kk i))=some (.ip (jC (gx gI (ol o) i)) 0):=by
 cases o with
 | none=>simp[ol] at h1;omega
 | some l=>exact aAH st h0 h1
theorem LM (l:List iV) (h:(l.length:Int)<1000000):xG 100 34 48 (some (l.length,bW l))=some (none,.row 100 34 l.length (bW l)):=by
 unfold xG;simp only
 rw[if_pos ⟨hU qV l,by omega,by simp only[maxLen];omega⟩]
theorem Nh (n:Nat) (l:List iV):iX (some (.row 100 34 n (bW l)))=some (.sl n (bW l)):=by
 unfold iX;simp only;rw[if_pos (qG l)]
theorem ZD {T n k off:Nat} {l:List iV} {i:Int} (h0:0≤i) (h1:i<l.length) (hk:sN Tryz.prog T=some k) (vM:0<k) (ho:off+k≤34):tX Tryz.prog T (some (.row 100 34 n (bW l))) (i.toNat * 34+off)=fF Tryz.prog T (jC (gx gI l i)) off:=QQ qV h0 h1 hk vM ho
theorem FP {T n k:Nat} {l:List iV} {i:Int} (h0:0≤i) (h1:i<l.length) (hk:sN Tryz.prog T=some k) (vM:0<k) (ho:k≤34):tX Tryz.prog T (some (.row 100 34 n (bW l))) (i.toNat * 34)=fF Tryz.prog T (jC (gx gI l i)) 0:=by
 have h:=ZD (n:=n) (off:=0) h0 h1 hk vM (by omega)
 rw[Nat.add_zero] at h;exact h
theorem Ng (l:List iV) (i:Int) (x:iV) (h:i.toNat<l.length):dP (bW l) (i.toNat * 34) (jC x) (i.toNat * 34+34)=bW (l.set i.toNat x):=by
 generalize i.toNat=k at h ⊢
 have:=JR (c:=jC) (sz:=34) qV l k x h
 exact this
theorem WQ (st:St) (o:Option (List oY)):aT st (ov dO o)=some ((ol o).length,dO (ol o)):=by cases o<;>rfl
theorem Wa (o:Option (List oY)) (h:∀y∈ol o,Flat y.dX):Flat (ov dO o):=by
 cases o with
 | none=>exact .v _
 | some l=>exact .sl _ _ (uS l h)
theorem aAI (st:St) {l:List oY} {kk:IntKind} {i:Int} (h0:0≤i) (h1:i<l.length):bD Tryz.prog st 44 (.sl l.length (dO l)) (.v (.int kk i))=some (.ip (eH (gx Hc l i)) 0):=by
 have hl:i.toNat<l.length:=by omega
 have h2:i.toNat * 67+67≤(l.flatMap eH).length:=by rw[hU gW,← Nat.succ_mul];exact Nat.mul_le_mul_right _ hl
 have h3:((dO l).drop (i.toNat * 67)).take 67=eH (gx Hc l i):=Kl gW h0 h1
 have h4:(dO l).length=(l.flatMap eH).length:=rfl
 (simp only[bD,aMu,aAf,h0,h1,h4,h2,and_self,if_true,h3])<;>rfl
theorem aHV (st:St) {o:Option (List oY)} {kk:IntKind} {i:Int} (h0:0≤i) (h1:i<(ol o).length):bD Tryz.prog st 44 (ov dO o) (.v (.int kk i))=some (.ip (eH (gx Hc (ol o) i)) 0):=by
 cases o with
 | none=>simp[ol] at h1;omega
 | some l=>exact aAI st h0 h1
theorem GG (x:oY):xG 87 67 104 (some (1,eH x))=some (none,.row 87 67 [x].length (dO [x])):=by
 simp[xG,maxLen,dO]
theorem XQ (l:List oY) (h:(l.length:Int)<1000000):xG 87 67 104 (some (l.length,dO l))=some (none,.row 87 67 l.length (dO l)):=by
 unfold xG;simp only
 rw[if_pos ⟨hU gW l,by omega,by simp only[maxLen];omega⟩]
theorem Uv (l:List oY) (x:oY) (s g:Nat) (h:(l.length:Int)<1000000):wX 87 67 104 (some (.row 87 67 l.length (dO l))) s g (some (1,eH x))=some (some (s,g),.row 87 67 (l++[x]).length (dO (l++[x]))):=by
 simp only[wX];rw[if_pos ⟨by simp,trivial,trivial,by omega,by simp only[maxLen];omega⟩]
 simp[dO,List.flatMap_append]
theorem N7 (n:Nat) (l:List oY) (h:∀y∈l,Flat y.dX):iX (some (.row 87 67 n (dO l)))=some (.sl n (dO l)):=by
 unfold iX;simp only;rw[if_pos (uS l h)]
theorem JT (st:St) (o:Option (List Table)):aT st (ov aR o)=some ((ol o).length,aR (ol o)):=by cases o<;>rfl
theorem lG (o:Option (List Table)) (h:∀y∈ol o,Flat y.iA):Flat (ov aR o):=by
 cases o with
 | none=>exact .v _
 | some l=>exact .sl _ _ (mK l h)
theorem mM (st:St) (o:Option (List Table)) (h:∀y∈ol o,Flat y.iA):fV st (ov aR o)=some (ov aR o):=eB (lG o h)
theorem JU (o:Option (List Table)):(ov aR o).jI=true:=by cases o<;>rfl
theorem QV (o:Option (List Table)):(ov aR o).cells=[ov aR o]:=by cases o<;>rfl
theorem aAJ (st:St) {l:List Table} {kk:IntKind} {i:Int} (h0:0≤i) (h1:i<l.length):bD Tryz.prog st 51 (.sl l.length (aR l)) (.v (.int kk i))=some (.ip (bZ (gx iT l i)) 0):=by
 have hl:i.toNat<l.length:=by omega
 have h2:i.toNat * 34+34≤(l.flatMap bZ).length:=by rw[hU fO,← Nat.succ_mul];exact Nat.mul_le_mul_right _ hl
 have h3:((aR l).drop (i.toNat * 34)).take 34=bZ (gx iT l i):=Kl fO h0 h1
 have h4:(aR l).length=(l.flatMap bZ).length:=rfl
 (simp only[bD,aMv,JO,h0,h1,h4,h2,and_self,if_true,h3])<;>rfl
theorem aHW (st:St) {o:Option (List Table)} {kk:IntKind} {i:Int} (h0:0≤i) (h1:i<(ol o).length):bD Tryz.prog st 51 (ov aR o) (.v (.int kk i))=some (.ip (bZ (gx iT (ol o) i)) 0):=by
 cases o with
 | none=>simp[ol] at h1;omega
 | some l=>exact aAJ st h0 h1
theorem EA (x:Table):xG 118 34 64 (some (1,bZ x))=some (none,.row 118 34 [x].length (aR [x])):=by
 simp[xG,maxLen,aR]
theorem DO (l:List Table) (h:(l.length:Int)<1000000):xG 118 34 64 (some (l.length,aR l))=some (none,.row 118 34 l.length (aR l)):=by
 unfold xG;simp only
 rw[if_pos ⟨hU fO l,by omega,by simp only[maxLen];omega⟩]
theorem Qi (l:List Table) (x:Table) (s g:Nat) (h:(l.length:Int)<1000000):wX 118 34 64 (some (.row 118 34 l.length (aR l))) s g (some (1,bZ x))=some (some (s,g),.row 118 34 (l++[x]).length (aR (l++[x]))):=by
 simp only[wX];rw[if_pos ⟨by simp,trivial,trivial,by omega,by simp only[maxLen];omega⟩]
 simp[aR,List.flatMap_append]
theorem DP (l m:List Table) (s g:Nat) (h:(l.length:Int)<1000000) (h2:(m.length:Int)<1000000):wX 118 34 64 (some (.row 118 34 l.length (aR l))) s g (some (m.length,aR m))=some (some (s,g),.row 118 34 (l++m).length (aR (l++m))):=by
 simp only[wX];rw[if_pos ⟨hU fO m,trivial,trivial,by omega,by simp only[maxLen];omega⟩]
 simp[aR,List.flatMap_append]
theorem Nf (n:Nat) (l:List Table) (h:∀y∈l,Flat y.iA):iX (some (.row 118 34 n (aR l)))=some (.sl n (aR l)):=by
 unfold iX;simp only;rw[if_pos (mK l h)]
theorem aM2 (st:St) (o:Option (List Table)) (hi:Operand):dL Tryz.prog st 51 (ov aR o) none (some hi)=Kr (st.ev hi) (fun j=>if 0≤j∧j≤(ol o).length then some (ov aR (o.map (·.take j.toNat))) else dL Tryz.prog st 51 (ov aR o) none (some hi)) (dL Tryz.prog st 51 (ov aR o) none (some hi)):=by
 unfold Kr;split
 ·rename_i j hj;dsimp only
  split
  ·rename_i hc;obtain⟨j0,j1⟩:=hc
   cases o with
   | none =>
     have:j=0:=by simp[ol] at j1;omega
     subst this;simp[dL,JO,ov,hj]
   | some l =>
     have j1:j≤l.length:=j1
     have hn:j.toNat≤l.length:=by omega
     simp only[dL,JO,ov,hj];rw[if_pos ⟨Int.le_refl _,j0,j1,hU fO l⟩];simp only[Int.toNat_zero,Nat.zero_mul,List.drop_zero,Int.sub_zero,Option.map_some];rw[show (aR l).take (j.toNat * 34)=aR (l.take j.toNat) from An fO l j.toNat,List.length_take,Nat.min_eq_left hn]
  ·rfl
 ·rfl
theorem aDH (st:St) (o:Option (List Table)) (lo:Operand):dL Tryz.prog st 51 (ov aR o) (some lo) none=Kr (st.ev lo) (fun j=>if 0≤j∧j≤(ol o).length then some (ov aR (o.map (·.drop j.toNat))) else dL Tryz.prog st 51 (ov aR o) (some lo) none) (dL Tryz.prog st 51 (ov aR o) (some lo) none):=by
 unfold Kr;split
 ·rename_i j hj;dsimp only
  split
  ·rename_i hc;obtain⟨j0,j1⟩:=hc
   cases o with
   | none =>
     have:j=0:=by simp[ol] at j1;omega
     subst this;simp[dL,JO,ov,hj]
   | some l =>
     have j1:j≤l.length:=j1
     have hn:j.toNat≤l.length:=by omega
     have e1:((l.length:Int)-j).toNat=l.length-j.toNat:=by omega
     simp only[dL,JO,ov,hj];rw[if_pos ⟨j0,j1,Int.le_refl _,hU fO l⟩];simp only[Option.map_some,e1];rw[show (aR l).drop (j.toNat * 34)=aR (l.drop j.toNat) from Ao fO l j.toNat,List.length_drop,List.take_of_length_le];rw[show aR (l.drop j.toNat)=(l.drop j.toNat).flatMap bZ from rfl,hU fO,List.length_drop];exact Nat.le_refl _
  ·rfl
 ·rfl
theorem JV (st:St) (o:Option (List Block)):aT st (ov aL o)=some ((ol o).length,aL (ol o)):=by cases o<;>rfl
theorem Dt (o:Option (List Block)):Flat (ov aL o):=by
 cases o with
 | none=>exact .v _
 | some l=>exact .sl _ _ (qO l)
theorem aAK (st:St) {l:List Block} {kk:IntKind} {i:Int} (h0:0≤i) (h1:i<l.length):bD Tryz.prog st 45 (.sl l.length (aL l)) (.v (.int kk i))=some (.ip (aU (gx fM l i)) 0):=by
 have hl:i.toNat<l.length:=by omega
 have h2:i.toNat * 238+238≤(l.flatMap aU).length:=by rw[hU bN,← Nat.succ_mul];exact Nat.mul_le_mul_right _ hl
 have h3:((aL l).drop (i.toNat * 238)).take 238=aU (gx fM l i):=Kl bN h0 h1
 have h4:(aL l).length=(l.flatMap aU).length:=rfl
 (simp only[bD,aHH,oF,h0,h1,h4,h2,and_self,if_true,h3])<;>rfl
theorem aHX (st:St) {o:Option (List Block)} {kk:IntKind} {i:Int} (h0:0≤i) (h1:i<(ol o).length):bD Tryz.prog st 45 (ov aL o) (.v (.int kk i))=some (.ip (aU (gx fM (ol o) i)) 0):=by
 cases o with
 | none=>simp[ol] at h1;omega
 | some l=>exact aAK st h0 h1
theorem G2 (x:Block):xG 74 238 336 (some (1,aU x))=some (none,.row 74 238 [x].length (aL [x])):=by
 simp[xG,maxLen,aL]
theorem iM (l:List Block) (h:(l.length:Int)<1000000):xG 74 238 336 (some (l.length,aL l))=some (none,.row 74 238 l.length (aL l)):=by
 unfold xG;simp only
 rw[if_pos ⟨hU bN l,by omega,by simp only[maxLen];omega⟩]
theorem DY (l:List Block) (x:Block) (s g:Nat) (h:(l.length:Int)<1000000):wX 74 238 336 (some (.row 74 238 l.length (aL l))) s g (some (1,aU x))=some (some (s,g),.row 74 238 (l++[x]).length (aL (l++[x]))):=by
 simp only[wX];rw[if_pos ⟨by simp,trivial,trivial,by omega,by simp only[maxLen];omega⟩]
 simp[aL,List.flatMap_append]
theorem qT (l m:List Block) (s g:Nat) (h:(l.length:Int)<1000000) (h2:(m.length:Int)<1000000):wX 74 238 336 (some (.row 74 238 l.length (aL l))) s g (some (m.length,aL m))=some (some (s,g),.row 74 238 (l++m).length (aL (l++m))):=by
 simp only[wX];rw[if_pos ⟨hU bN m,trivial,trivial,by omega,by simp only[maxLen];omega⟩]
 simp[aL,List.flatMap_append]
theorem tJ (n:Nat) (l:List Block):iX (some (.row 74 238 n (aL l)))=some (.sl n (aL l)):=by
 unfold iX;simp only;rw[if_pos (qO l)]
theorem QW {T n k off:Nat} {l:List Block} {i:Int} (h0:0≤i) (h1:i<l.length) (hk:sN Tryz.prog T=some k) (vM:0<k) (ho:off+k≤238):tX Tryz.prog T (some (.row 74 238 n (aL l))) (i.toNat * 238+off)=fF Tryz.prog T (aU (gx fM l i)) off:=QQ bN h0 h1 hk vM ho
theorem yV {T n k:Nat} {l:List Block} {i:Int} (h0:0≤i) (h1:i<l.length) (hk:sN Tryz.prog T=some k) (vM:0<k) (ho:k≤238):tX Tryz.prog T (some (.row 74 238 n (aL l))) (i.toNat * 238)=fF Tryz.prog T (aU (gx fM l i)) 0:=by
 have h:=QW (n:=n) (off:=0) h0 h1 hk vM (by omega)
 rw[Nat.add_zero] at h;exact h
theorem aM3 (st:St) (o:Option (List Block)) (hi:Operand):dL Tryz.prog st 45 (ov aL o) none (some hi)=Kr (st.ev hi) (fun j=>if 0≤j∧j≤(ol o).length then some (ov aL (o.map (·.take j.toNat))) else dL Tryz.prog st 45 (ov aL o) none (some hi)) (dL Tryz.prog st 45 (ov aL o) none (some hi)):=by
 unfold Kr;split
 ·rename_i j hj;dsimp only
  split
  ·rename_i hc;obtain⟨j0,j1⟩:=hc
   cases o with
   | none =>
     have:j=0:=by simp[ol] at j1;omega
     subst this;simp[dL,oF,ov,hj]
   | some l =>
     have j1:j≤l.length:=j1
     have hn:j.toNat≤l.length:=by omega
     simp only[dL,oF,ov,hj];rw[if_pos ⟨Int.le_refl _,j0,j1,hU bN l⟩];simp only[Int.toNat_zero,Nat.zero_mul,List.drop_zero,Int.sub_zero,Option.map_some];rw[show (aL l).take (j.toNat * 238)=aL (l.take j.toNat) from An bN l j.toNat,List.length_take,Nat.min_eq_left hn]
  ·rfl
 ·rfl
theorem aDI (st:St) (o:Option (List Block)) (lo:Operand):dL Tryz.prog st 45 (ov aL o) (some lo) none=Kr (st.ev lo) (fun j=>if 0≤j∧j≤(ol o).length then some (ov aL (o.map (·.drop j.toNat))) else dL Tryz.prog st 45 (ov aL o) (some lo) none) (dL Tryz.prog st 45 (ov aL o) (some lo) none):=by
 unfold Kr;split
 ·rename_i j hj;dsimp only
  split
  ·rename_i hc;obtain⟨j0,j1⟩:=hc
   cases o with
   | none =>
     have:j=0:=by simp[ol] at j1;omega
     subst this;simp[dL,oF,ov,hj]
   | some l =>
     have j1:j≤l.length:=j1
     have hn:j.toNat≤l.length:=by omega
     have e1:((l.length:Int)-j).toNat=l.length-j.toNat:=by omega
     simp only[dL,oF,ov,hj];rw[if_pos ⟨j0,j1,Int.le_refl _,hU bN l⟩];simp only[Option.map_some,e1];rw[show (aL l).drop (j.toNat * 238)=aL (l.drop j.toNat) from Ao bN l j.toNat,List.length_drop,List.take_of_length_le];rw[show aL (l.drop j.toNat)=(l.drop j.toNat).flatMap aU from rfl,hU bN,List.length_drop];exact Nat.le_refl _
  ·rfl
 ·rfl
theorem Zx (st:St) (o:Option (List Request)):aT st (ov aD o)=some ((ol o).length,aD (ol o)):=by cases o<;>rfl
theorem iS (o:Option (List Request)):Flat (ov aD o):=by
 cases o with
 | none=>exact .v _
 | some l=>exact .sl _ _ (tH l)
theorem aAL (st:St) {l:List Request} {kk:IntKind} {i:Int} (h0:0≤i) (h1:i<l.length):bD Tryz.prog st 54 (.sl l.length (aD l)) (.v (.int kk i))=some (.ip (cX (gx cP l i)) 0):=by
 have hl:i.toNat<l.length:=by omega
 have h2:i.toNat * 35+35≤(l.flatMap cX).length:=by rw[hU gH,← Nat.succ_mul];exact Nat.mul_le_mul_right _ hl
 have h3:((aD l).drop (i.toNat * 35)).take 35=cX (gx cP l i):=Kl gH h0 h1
 have h4:(aD l).length=(l.flatMap cX).length:=rfl
 (simp only[bD,aHJ,Qq,h0,h1,h4,h2,and_self,if_true,h3])<;>rfl
theorem aHY (st:St) {o:Option (List Request)} {kk:IntKind} {i:Int} (h0:0≤i) (h1:i<(ol o).length):bD Tryz.prog st 54 (ov aD o) (.v (.int kk i))=some (.ip (cX (gx cP (ol o) i)) 0):=by
 cases o with
 | none=>simp[ol] at h1;omega
 | some l=>exact aAL st h0 h1
theorem QX (x:Request):xG 63 35 56 (some (1,cX x))=some (none,.row 63 35 [x].length (aD [x])):=by
 simp[xG,maxLen,aD]
theorem qJ (l:List Request) (h:(l.length:Int)<1000000):xG 63 35 56 (some (l.length,aD l))=some (none,.row 63 35 l.length (aD l)):=by
 unfold xG;simp only
 rw[if_pos ⟨hU gH l,by omega,by simp only[maxLen];omega⟩]
theorem sP (l:List Request) (x:Request) (s g:Nat) (h:(l.length:Int)<1000000):wX 63 35 56 (some (.row 63 35 l.length (aD l))) s g (some (1,cX x))=some (some (s,g),.row 63 35 (l++[x]).length (aD (l++[x]))):=by
 simp only[wX];rw[if_pos ⟨by simp,trivial,trivial,by omega,by simp only[maxLen];omega⟩]
 simp[aD,List.flatMap_append]
theorem Sp (l m:List Request) (s g:Nat) (h:(l.length:Int)<1000000) (h2:(m.length:Int)<1000000):wX 63 35 56 (some (.row 63 35 l.length (aD l))) s g (some (m.length,aD m))=some (some (s,g),.row 63 35 (l++m).length (aD (l++m))):=by
 simp only[wX];rw[if_pos ⟨hU gH m,trivial,trivial,by omega,by simp only[maxLen];omega⟩]
 simp[aD,List.flatMap_append]
theorem oV (n:Nat) (l:List Request):iX (some (.row 63 35 n (aD l)))=some (.sl n (aD l)):=by
 unfold iX;simp only;rw[if_pos (tH l)]
theorem Eg {T n k off:Nat} {l:List Request} {i:Int} (h0:0≤i) (h1:i<l.length) (hk:sN Tryz.prog T=some k) (vM:0<k) (ho:off+k≤35):tX Tryz.prog T (some (.row 63 35 n (aD l))) (i.toNat * 35+off)=fF Tryz.prog T (cX (gx cP l i)) off:=QQ gH h0 h1 hk vM ho
theorem yX {T n k:Nat} {l:List Request} {i:Int} (h0:0≤i) (h1:i<l.length) (hk:sN Tryz.prog T=some k) (vM:0<k) (ho:k≤35):tX Tryz.prog T (some (.row 63 35 n (aD l))) (i.toNat * 35)=fF Tryz.prog T (cX (gx cP l i)) 0:=by
 have h:=Eg (n:=n) (off:=0) h0 h1 hk vM (by omega)
 rw[Nat.add_zero] at h;exact h
theorem Li (l:List Request) (i:Int) (x:Request) (h:i.toNat<l.length):dP (aD l) (i.toNat * 35) (cX x) (i.toNat * 35+35)=aD (l.set i.toNat x):=by
 generalize i.toNat=k at h ⊢
 have:=JR (c:=cX) (sz:=35) gH l k x h
 exact this
theorem aM4 (st:St) (o:Option (List Request)) (hi:Operand):dL Tryz.prog st 54 (ov aD o) none (some hi)=Kr (st.ev hi) (fun j=>if 0≤j∧j≤(ol o).length then some (ov aD (o.map (·.take j.toNat))) else dL Tryz.prog st 54 (ov aD o) none (some hi)) (dL Tryz.prog st 54 (ov aD o) none (some hi)):=by
 unfold Kr;split
 ·rename_i j hj;dsimp only
  split
  ·rename_i hc;obtain⟨j0,j1⟩:=hc
   cases o with
   | none =>
     have:j=0:=by simp[ol] at j1;omega
     subst this;simp[dL,Qq,ov,hj]
   | some l =>
     have j1:j≤l.length:=j1
     have hn:j.toNat≤l.length:=by omega
     simp only[dL,Qq,ov,hj];rw[if_pos ⟨Int.le_refl _,j0,j1,hU gH l⟩];simp only[Int.toNat_zero,Nat.zero_mul,List.drop_zero,Int.sub_zero,Option.map_some];rw[show (aD l).take (j.toNat * 35)=aD (l.take j.toNat) from An gH l j.toNat,List.length_take,Nat.min_eq_left hn]
  ·rfl
 ·rfl
theorem aDJ (st:St) (o:Option (List Request)) (lo:Operand):dL Tryz.prog st 54 (ov aD o) (some lo) none=Kr (st.ev lo) (fun j=>if 0≤j∧j≤(ol o).length then some (ov aD (o.map (·.drop j.toNat))) else dL Tryz.prog st 54 (ov aD o) (some lo) none) (dL Tryz.prog st 54 (ov aD o) (some lo) none):=by
 unfold Kr;split
 ·rename_i j hj;dsimp only
  split
  ·rename_i hc;obtain⟨j0,j1⟩:=hc
   cases o with
   | none =>
     have:j=0:=by simp[ol] at j1;omega
     subst this;simp[dL,Qq,ov,hj]
   | some l =>
     have j1:j≤l.length:=j1
     have hn:j.toNat≤l.length:=by omega
     have e1:((l.length:Int)-j).toNat=l.length-j.toNat:=by omega
     simp only[dL,Qq,ov,hj];rw[if_pos ⟨j0,j1,Int.le_refl _,hU gH l⟩];simp only[Option.map_some,e1];rw[show (aD l).drop (j.toNat * 35)=aD (l.drop j.toNat) from Ao gH l j.toNat,List.length_drop,List.take_of_length_le];rw[show aD (l.drop j.toNat)=(l.drop j.toNat).flatMap cX from rfl,hU gH,List.length_drop];exact Nat.le_refl _
  ·rfl
 ·rfl
theorem QY (st:St) (o:Option (List bX)):aT st (ov gP o)=some ((ol o).length,gP (ol o)):=by cases o<;>rfl
theorem Gy (o:Option (List bX)):Flat (ov gP o):=by
 cases o with
 | none=>exact .v _
 | some l=>exact .sl _ _ (Tg l)
theorem aAM (st:St) {l:List bX} {kk:IntKind} {i:Int} (h0:0≤i) (h1:i<l.length):bD Tryz.prog st 70 (.sl l.length (gP l)) (.v (.int kk i))=some (.ip (aY (gx dT l i)) 0):=by
 have hl:i.toNat<l.length:=by omega
 have h2:i.toNat * 32+32≤(l.flatMap aY).length:=by rw[hU aO,← Nat.succ_mul];exact Nat.mul_le_mul_right _ hl
 have h3:((gP l).drop (i.toNat * 32)).take 32=aY (gx dT l i):=Kl aO h0 h1
 have h4:(gP l).length=(l.flatMap aY).length:=rfl
 (simp only[bD,aMw,aDe,h0,h1,h4,h2,and_self,if_true,h3])<;>rfl
theorem aHZ (st:St) {o:Option (List bX)} {kk:IntKind} {i:Int} (h0:0≤i) (h1:i<(ol o).length):bD Tryz.prog st 70 (ov gP o) (.v (.int kk i))=some (.ip (aY (gx dT (ol o) i)) 0):=by
 cases o with
 | none=>simp[ol] at h1;omega
 | some l=>exact aAM st h0 h1
theorem nU (l:List bX) (x:bX) (s g:Nat) (h:(l.length:Int)<1000000):wX 27 32 32 (some (.row 27 32 l.length (gP l))) s g (some (1,aY x))=some (some (s,g),.row 27 32 (l++[x]).length (gP (l++[x]))):=by
 simp only[wX];rw[if_pos ⟨by simp,trivial,trivial,by omega,by simp only[maxLen];omega⟩]
 simp[gP,List.flatMap_append]
theorem vF (n:Nat) (l:List bX):iX (some (.row 27 32 n (gP l)))=some (.sl n (gP l)):=by
 unfold iX;simp only;rw[if_pos (Tg l)]
theorem aDK (st:St) {l:List Bool} {kk:IntKind} {i:Int} (h0:0≤i) (h1:i<l.length):bD Tryz.prog st 262 (.sl l.length (mE l)) (.v (.int kk i))=some (.ip ([.v (.bool (gx false l i))]) 0):=by
 have hl:i.toNat<l.length:=by omega
 have h2:i.toNat * 1+1≤(l.flatMap tY).length:=by rw[hU gS,← Nat.succ_mul];exact Nat.mul_le_mul_right _ hl
 have h3:((mE l).drop (i.toNat * 1)).take 1=tY (gx false l i):=Kl gS h0 h1
 have h4:(mE l).length=(l.flatMap tY).length:=rfl
 (simp only[bD,aEV,QJ,h0,h1,h4,h2,and_self,if_true,h3])<;>rfl
theorem aAN (x:Bool):xG 4 1 1 (some (1,[.v (.bool x)]))=some (none,.row 4 1 [x].length (mE [x])):=by
 simp[xG,maxLen,mE,tY]
theorem LQ (l:List Bool) (x:Bool) (s g:Nat) (h:(l.length:Int)<1000000):wX 4 1 1 (some (.row 4 1 l.length (mE l))) s g (some (1,[.v (.bool x)]))=some (some (s,g),.row 4 1 (l++[x]).length (mE (l++[x]))):=by
 simp only[wX];rw[if_pos ⟨by simp,trivial,trivial,by omega,by simp only[maxLen];omega⟩]
 simp[mE,List.flatMap_append,tY]
theorem XR (n:Nat) (l:List Bool):iX (some (.row 4 1 n (mE l)))=some (.sl n (mE l)):=by
 unfold iX;simp only;rw[if_pos (Sm l)]
theorem xT (o:Option (List Int)):Flat (ov jU o):=by
 cases o with
 | none=>exact .v _
 | some l=>exact .sl _ _ (uT l)
theorem qR (st:St) (o:Option (List Int)):fV st (ov jU o)=some (ov jU o):=eB (xT o)
theorem TE (x:Int):xG 5 1 1 (some (1,[.v (.int .u8 x)]))=some (none,.row 5 1 [x].length (jU [x])):=by
 simp[xG,maxLen,jU,cU8]
theorem Lc (l:List Int) (x:Int) (s g:Nat) (h:(l.length:Int)<1000000):wX 5 1 1 (some (.row 5 1 l.length (jU l))) s g (some (1,[.v (.int .u8 x)]))=some (some (s,g),.row 5 1 (l++[x]).length (jU (l++[x]))):=by
 simp only[wX];rw[if_pos ⟨by simp,trivial,trivial,by omega,by simp only[maxLen];omega⟩]
 simp[jU,List.flatMap_append,cU8]
theorem TF (l m:List Int) (s g:Nat) (h:(l.length:Int)<1000000) (h2:(m.length:Int)<1000000):wX 5 1 1 (some (.row 5 1 l.length (jU l))) s g (some (m.length,jU m))=some (some (s,g),.row 5 1 (l++m).length (jU (l++m))):=by
 simp only[wX];rw[if_pos ⟨hU aDG m,trivial,trivial,by omega,by simp only[maxLen];omega⟩]
 simp[jU,List.flatMap_append]
theorem Cl (n:Nat) (l:List Int):iX (some (.row 5 1 n (jU l)))=some (.sl n (jU l)):=by
 unfold iX;simp only;rw[if_pos (uT l)]
theorem WR (st:St) (o:Option (List Int)):aT st (ov aH o)=some ((ol o).length,aH (ol o)):=by cases o<;>rfl
theorem bE (o:Option (List Int)):Flat (ov aH o):=by
 cases o with
 | none=>exact .v _
 | some l=>exact .sl _ _ (gB l)
theorem Ee (st:St) (o:Option (List Int)):fV st (ov aH o)=some (ov aH o):=eB (bE o)
theorem WS (o:Option (List Int)):(ov aH o).jI=true:=by cases o<;>rfl
theorem G3 (o:Option (List Int)):(ov aH o).cells=[ov aH o]:=by cases o<;>rfl
theorem aAO (st:St) {l:List Int} {kk:IntKind} {i:Int} (h0:0≤i) (h1:i<l.length):bD Tryz.prog st 22 (.sl l.length (aH l)) (.v (.int kk i))=some (.ip ([.v (.int .i64 (gx (0:Int) l i))]) 0):=by
 have hl:i.toNat<l.length:=by omega
 have h2:i.toNat * 1+1≤(l.flatMap oZ).length:=by rw[hU bC,← Nat.succ_mul];exact Nat.mul_le_mul_right _ hl
 have h3:((aH l).drop (i.toNat * 1)).take 1=oZ (gx (0:Int) l i):=Kl bC h0 h1
 have h4:(aH l).length=(l.flatMap oZ).length:=rfl
 (simp only[bD,aDd,Kq,h0,h1,h4,h2,and_self,if_true,h3])<;>rfl
theorem aH0 (st:St) {o:Option (List Int)} {kk:IntKind} {i:Int} (h0:0≤i) (h1:i<(ol o).length):bD Tryz.prog st 22 (ov aH o) (.v (.int kk i))=some (.ip ([.v (.int .i64 (gx (0:Int) (ol o) i))]) 0):=by
 cases o with
 | none=>simp[ol] at h1;omega
 | some l=>exact aAO st h0 h1
theorem Nl (l:List Int) (h:(l.length:Int)<1000000):xG 3 1 8 (some (l.length,aH l))=some (none,.row 3 1 l.length (aH l)):=by
 unfold xG;simp only
 rw[if_pos ⟨hU bC l,by omega,by simp only[maxLen];omega⟩]
theorem Ed (l:List Int) (x:Int) (s g:Nat) (h:(l.length:Int)<1000000):wX 3 1 8 (some (.row 3 1 l.length (aH l))) s g (some (1,[.v (.int .i64 x)]))=some (some (s,g),.row 3 1 (l++[x]).length (aH (l++[x]))):=by
 simp only[wX];rw[if_pos ⟨by simp,trivial,trivial,by omega,by simp only[maxLen];omega⟩]
 simp[aH,List.flatMap_append,oZ]
theorem FV (l m:List Int) (s g:Nat) (h:(l.length:Int)<1000000) (h2:(m.length:Int)<1000000):wX 3 1 8 (some (.row 3 1 l.length (aH l))) s g (some (m.length,aH m))=some (some (s,g),.row 3 1 (l++m).length (aH (l++m))):=by
 simp only[wX];rw[if_pos ⟨hU bC m,trivial,trivial,by omega,by simp only[maxLen];omega⟩]
 simp[aH,List.flatMap_append]
theorem iZ (n:Nat) (l:List Int):iX (some (.row 3 1 n (aH l)))=some (.sl n (aH l)):=by
 unfold iX;simp only;rw[if_pos (gB l)]
theorem aM5 (st:St) (o:Option (List Int)) (hi:Operand):dL Tryz.prog st 22 (ov aH o) none (some hi)=Kr (st.ev hi) (fun j=>if 0≤j∧j≤(ol o).length then some (ov aH (o.map (·.take j.toNat))) else dL Tryz.prog st 22 (ov aH o) none (some hi)) (dL Tryz.prog st 22 (ov aH o) none (some hi)):=by
 unfold Kr;split
 ·rename_i j hj;dsimp only
  split
  ·rename_i hc;obtain⟨j0,j1⟩:=hc
   cases o with
   | none =>
     have:j=0:=by simp[ol] at j1;omega
     subst this;simp[dL,Kq,ov,hj]
   | some l =>
     have j1:j≤l.length:=j1
     have hn:j.toNat≤l.length:=by omega
     simp only[dL,Kq,ov,hj];rw[if_pos ⟨Int.le_refl _,j0,j1,hU bC l⟩];simp only[Int.toNat_zero,Nat.zero_mul,List.drop_zero,Int.sub_zero,Option.map_some];rw[show (aH l).take (j.toNat * 1)=aH (l.take j.toNat) from An bC l j.toNat,List.length_take,Nat.min_eq_left hn]
  ·rfl
 ·rfl
theorem aDL (st:St) (o:Option (List Int)) (lo:Operand):dL Tryz.prog st 22 (ov aH o) (some lo) none=Kr (st.ev lo) (fun j=>if 0≤j∧j≤(ol o).length then some (ov aH (o.map (·.drop j.toNat))) else dL Tryz.prog st 22 (ov aH o) (some lo) none) (dL Tryz.prog st 22 (ov aH o) (some lo) none):=by
 unfold Kr;split
 ·rename_i j hj;dsimp only
  split
  ·rename_i hc;obtain⟨j0,j1⟩:=hc
   cases o with
   | none =>
     have:j=0:=by simp[ol] at j1;omega
     subst this;simp[dL,Kq,ov,hj]
   | some l =>
     have j1:j≤l.length:=j1
     have hn:j.toNat≤l.length:=by omega
     have e1:((l.length:Int)-j).toNat=l.length-j.toNat:=by omega
     simp only[dL,Kq,ov,hj];rw[if_pos ⟨j0,j1,Int.le_refl _,hU bC l⟩];simp only[Option.map_some,e1];rw[show (aH l).drop (j.toNat * 1)=aH (l.drop j.toNat) from Ao bC l j.toNat,List.length_drop,List.take_of_length_le];rw[show aH (l.drop j.toNat)=(l.drop j.toNat).flatMap oZ from rfl,hU bC,List.length_drop];exact Nat.le_refl _
  ·rfl
 ·rfl
theorem WT (st:St) (o:Option (List Int)):aT st (ov bH o)=some ((ol o).length,bH (ol o)):=by cases o<;>rfl
theorem dU (o:Option (List Int)):Flat (ov bH o):=by
 cases o with
 | none=>exact .v _
 | some l=>exact .sl _ _ (iD l)
theorem WU (o:Option (List Int)):(ov bH o).jI=true:=by cases o<;>rfl
theorem G4 (o:Option (List Int)):(ov bH o).cells=[ov bH o]:=by cases o<;>rfl
theorem aAP (st:St) {l:List Int} {kk:IntKind} {i:Int} (h0:0≤i) (h1:i<l.length):bD Tryz.prog st 34 (.sl l.length (bH l)) (.v (.int kk i))=some (.ip ([.v (.int .u64 (gx (0:Int) l i))]) 0):=by
 have hl:i.toNat<l.length:=by omega
 have h2:i.toNat * 1+1≤(l.flatMap sD).length:=by rw[hU aW,← Nat.succ_mul];exact Nat.mul_le_mul_right _ hl
 have h3:((bH l).drop (i.toNat * 1)).take 1=sD (gx (0:Int) l i):=Kl aW h0 h1
 have h4:(bH l).length=(l.flatMap sD).length:=rfl
 (simp only[bD,aHF,WI,h0,h1,h4,h2,and_self,if_true,h3])<;>rfl
theorem aH1 (st:St) {o:Option (List Int)} {kk:IntKind} {i:Int} (h0:0≤i) (h1:i<(ol o).length):bD Tryz.prog st 34 (ov bH o) (.v (.int kk i))=some (.ip ([.v (.int .u64 (gx (0:Int) (ol o) i))]) 0):=by
 cases o with
 | none=>simp[ol] at h1;omega
 | some l=>exact aAP st h0 h1
theorem aDM (x:Int):xG 23 1 8 (some (1,[.v (.int .u64 x)]))=some (none,.row 23 1 [x].length (bH [x])):=by
 simp[xG,maxLen,bH,sD]
theorem Dz (l:List Int) (h:(l.length:Int)<1000000):xG 23 1 8 (some (l.length,bH l))=some (none,.row 23 1 l.length (bH l)):=by
 unfold xG;simp only
 rw[if_pos ⟨hU aW l,by omega,by simp only[maxLen];omega⟩]
theorem xF (l:List Int) (x:Int) (s g:Nat) (h:(l.length:Int)<1000000):wX 23 1 8 (some (.row 23 1 l.length (bH l))) s g (some (1,[.v (.int .u64 x)]))=some (some (s,g),.row 23 1 (l++[x]).length (bH (l++[x]))):=by
 simp only[wX];rw[if_pos ⟨by simp,trivial,trivial,by omega,by simp only[maxLen];omega⟩]
 simp[bH,List.flatMap_append,sD]
theorem uP (n:Nat) (l:List Int):iX (some (.row 23 1 n (bH l)))=some (.sl n (bH l)):=by
 unfold iX;simp only;rw[if_pos (iD l)]
theorem aAQ {T n k off:Nat} {l:List Int} {i:Int} (h0:0≤i) (h1:i<l.length) (hk:sN Tryz.prog T=some k) (vM:0<k) (ho:off+k≤1):tX Tryz.prog T (some (.row 23 1 n (bH l))) (i.toNat * 1+off)=fF Tryz.prog T ([.v (.int .u64 (gx (0:Int) l i))]) off:=QQ aW h0 h1 hk vM ho
theorem K7 {T n k:Nat} {l:List Int} {i:Int} (h0:0≤i) (h1:i<l.length) (hk:sN Tryz.prog T=some k) (vM:0<k) (ho:k≤1):tX Tryz.prog T (some (.row 23 1 n (bH l))) (i.toNat * 1)=fF Tryz.prog T ([.v (.int .u64 (gx (0:Int) l i))]) 0:=by
 have h:=aAQ (n:=n) (off:=0) h0 h1 hk vM (by omega)
 rw[Nat.add_zero] at h;exact h
theorem K6 (l:List Int) (i:Int) (x:Int) (h:i.toNat<l.length):dP (bH l) (i.toNat * 1) ([.v (.int .u64 x)]) (i.toNat * 1+1)=bH (l.set i.toNat x):=by
 generalize i.toNat=k at h ⊢
 have:=JR (c:=sD) (sz:=1) aW l k x h
 exact this
end Tryz
end Go.Ab
end
section
namespace Go.Ab.Tryz
open Classical Go.Proofs Go.Ab
theorem aj {a b:Prop} (x:a) (y:b):a∧b:=⟨x,y⟩
def EN:=aj (aj (aj (aj (aj (aj (aj @cN (aj @LU @oC)) (aj @U9 (aj @A8 @UW))) (aj (aj @C5 (aj @decide_true @decide_false)) (aj (aj @Int.cast_ofNat_Int @Bool.not_true) (aj @Bool.not_false @Bool.false_eq_true)))) (aj (aj (aj @Bool.true_eq_false (aj @aCr @aCs)) (aj @aCt (aj @aCu @aCv))) (aj (aj @aCw (aj @aCx @aCy)) (aj (aj @aCz @aCA) (aj @aCD @aCE))))) (aj (aj (aj (aj @aCB (aj @aCC @not_false_eq_true)) (aj @ne_eq.{1} (aj @X8 @C4))) (aj (aj @VF (aj @VG @Option.bind_some.{0,0})) (aj (aj @aCh @A9) (aj @aCi @V0)))) (aj (aj (aj @aCj (aj @UX @HR)) (aj @HS (aj @aCk @UY))) (aj (aj @V6 (aj @V7 @V8)) (aj (aj @aF8 @V9) (aj @aAh @Bool.or_false)))))) (aj (aj (aj (aj (aj @Bool.false_or (aj @Bool.false_and @Bool.or_true)) (aj @aCm (aj @aDh @B4))) (aj (aj @B5 (aj @VA @HT)) (aj (aj @OG @uQ) (aj @QO @F2)))) (aj (aj (aj @F3 (aj @aDm @aAs)) (aj @oS (aj @E3 @E4))) (aj (aj @WK (aj @QL @Option.map_some.{0,0})) (aj (aj @Qh @Is) (aj @Qm @Ld))))) (aj (aj (aj (aj @aAk (aj @aAl @aDi)) (aj @gU (aj @bR @aAv))) (aj (aj @aAw (aj @CP @F6)) (aj (aj @aDl @E5) (aj @E6 @aCH)))) (aj (aj (aj @Y0 (aj @aCI @aCF)) (aj (aj @E7 @E9) (aj @F0 @F1))) (aj (aj @aAr (aj @F4 @aDn)) (aj (aj @aDj @aDk) (aj @aAm @aAn))))))) (aj (aj (aj (aj (aj (aj @aAo (aj @aAp @aAq)) (aj @B9 (aj @HW @aDf))) (aj (aj @aAg (aj @aMY @aDX)) (aj (aj @W5 @aGa) (aj @aCn @HV)))) (aj (aj (aj @aCo (aj @W6 @aCp)) (aj @aCq (aj @W7
 @W8))) (aj (aj @W9 (aj @B6 @X0)) (aj (aj @X3 @B7) (aj @X4 @OH))))) (aj (aj (aj (aj @B8 (aj @List.toList_toArray.{0} @List.map_cons.{0,0})) (aj @List.map_nil.{0,0} (aj @aCg @UU))) (aj (aj @A7 (aj @U5 @U6)) (aj (aj @aCf @HX) (aj @C6 @VH)))) (aj (aj (aj @List.getElem?_cons_zero.{0} (aj @List.getElem?_cons_succ.{0} @List.getElem?_nil.{0})) (aj @Option.getD_some.{0} (aj @Option.getD_none.{0} @and_true))) (aj (aj @true_and (aj @and_self @false_and)) (aj (aj @and_false @if_true.{1}) (aj @if_false.{1} @Nat.succ_ne_zero)))))) (aj (aj (aj (aj (aj @JP (aj @JQ @Nat.add_zero)) (aj @Nat.zero_add (aj @WL @V5))) (aj (aj @aGj (aj @aGk @Y7)) (aj (aj @Y8 @E2) (aj @VO @aAi)))) (aj (aj (aj @aDq (aj @aDr @aDs)) (aj @WM (aj @F7 @aDt))) (aj (aj @aHO (aj @QP @F9)) (aj (aj @aDu @aAy) (aj @aHP @aAz))))) (aj (aj (aj (aj @aDv (aj @aDw @aDx)) (aj @aAA (aj @aAB @aDy))) (aj (aj @aAC (aj @aM1 @aDz)) (aj (aj @aHQ @aHR) (aj @aHS @aDA)))) (aj (aj (aj @aDB (aj @aHT @aDC)) (aj (aj @aDD @aAD) (aj @G0 @WN))) (aj (aj @aDE (aj @aAE @aDF)) (aj (aj @gei @gti) (aj @aTR @gtn)))))))
def EV:=aj EN @C3
def LE:=aj (aj (aj (aj (aj (aj @aHM @aHN) (aj @aAt (aj @aAu @Kv))) (aj (aj @Iz @Qs) (aj @aHK (aj @aHL @aDg)))) (aj (aj (aj @aW @bC) (aj @gS (aj @aO @dW))) (aj (aj @bO @cI) (aj @bN (aj @uJ @Rl))))) (aj (aj (aj (aj @Nat.sub_zero @Nat.le_refl) (aj @LH (aj @DN @Option.map_some.{0,0}))) (aj (aj @List.all_cons.{0} @List.all_nil.{0}) (aj @Bool.and_true (aj @Bool.true_and @Bool.and_self)))) (aj (aj (aj @C0 @List.length_cons.{0}) (aj @List.length_nil.{0} (aj @jG @jH))) (aj (aj @Oz (aj @Ai @Rh)) (aj @IC (aj @Nat.zero_le @Nat.mul_one)))))) (aj (aj (aj (aj (aj @We @Am) (aj @gO (aj @lM @fS))) (aj (aj @bL @qV) (aj @gW (aj @iH @fJ)))) (aj (aj (aj @fO @gH) (aj @mN (aj @dD @cU))) (aj (aj @gX (aj @lY @cZ)) (aj @Mc (aj @Zr @WH))))) (aj (aj (aj (aj @CO @Jh) (aj @Lv (aj @Rq @Rs))) (aj (aj @YZ @VW) (aj @Yw (aj @Hx @Yy)))) (aj (aj (aj @Za @Mb) (aj @Zi (aj @Ia @EW))) (aj (aj @QE (aj @Zn @QF)) (aj @aAe (aj @rW @aCS))))))
def RD:=aj (aj (aj (aj (aj (aj (aj (aj @OK @OL) (aj @OM @ON)) (aj (aj @jR @Br) (aj @tO (aj @Ep @OO)))) (aj (aj (aj @OP @Oq) (aj @Ot @wZ)) (aj (aj @zC @Ou) (aj @Ov (aj @xA @BL))))) (aj (aj (aj (aj @BM @Fh) (aj @Tv @zD)) (aj (aj @Lr @rA) (aj @Bs (aj @zF @Ls)))) (aj (aj (aj @rC @Hr) (aj @BN (aj @Kd @BO))) (aj (aj @Tw @Tx) (aj @Cv (aj @Ri @BP)))))) (aj (aj (aj (aj (aj @BR @Ym) (aj @Yn @Ke)) (aj (aj @BS @Hs) (aj @Ox (aj @HZ @Jm)))) (aj (aj (aj @Oy @Rj) (aj @Ty (aj @IA @IB))) (aj (aj @BT @BU) (aj @Ht (aj @Cw @uZ))))) (aj (aj (aj (aj @Cx @vA) (aj @Jn @Lt)) (aj (aj @Fx @Lu) (aj @Pa (aj @OR @VJ)))) (aj (aj (aj @Fb @Gp) (aj @OS (aj @OT @Yq))) (aj (aj @OU @OV) (aj @zG (aj @Kf @Pd))))))) (aj (aj (aj (aj (aj (aj @Es @Fy) (aj @Rm @Tz)) (aj (aj @Pe @Pf) (aj @Yt (aj @Yu @Cy)))) (aj (aj (aj @Ua @Cz) (aj @Ub (aj @Ax
 @Rn))) (aj (aj @Ay @Ro) (aj @Az (aj @Rp @zH))))) (aj (aj (aj (aj @Pg @BX) (aj @BY @wC)) (aj (aj @wD @uA) (aj @uB (aj @uC @tQ)))) (aj (aj (aj @Hv @BZ) (aj @Pj (aj @Rr @Kg))) (aj (aj @CA @Pk) (aj @Pl (aj @yI @Kh)))))) (aj (aj (aj (aj (aj @CB @CC) (aj @IM @PU)) (aj (aj @Yv @CD) (aj @IN (aj @IP @PV)))) (aj (aj (aj @PW @IQ) (aj @PX (aj @PY @PZ))) (aj (aj @CE @CF) (aj @Hw (aj @Jo @Lw))))) (aj (aj (aj (aj @Lx @Ds) (aj @QA @VY)) (aj (aj @VZ @vB) (aj @Fi (aj @vC @Fj)))) (aj (aj (aj @CG @Ki) (aj @tG (aj @CH @Pn))) (aj (aj @Po @zS) (aj @zT (aj @nJ @Ly)))))))) (aj (aj (aj (aj (aj (aj (aj @Lz @zI) (aj @zU @zJ)) (aj (aj @zV @Da) (aj @mS (aj @Uc @Ud)))) (aj (aj (aj @QB @QC) (aj @Ma @Rv)) (aj (aj @Bg @IT) (aj @IU (aj @IV @Pp))))) (aj (aj (aj (aj @Et @Rw) (aj @Rx @Pq)) (aj (aj @Ry @Ue) (aj
 @Yz (aj @Zb @Zc)))) (aj (aj (aj @Uf @Ug) (aj @Zd (aj @Zf @Zg))) (aj (aj @uL @Fk) (aj @wL (aj @Hz @IX)))))) (aj (aj (aj (aj (aj @IY @Dc) (aj @Dd @sS)) (aj (aj @uD @Fl) (aj @Fm (aj @tR @wE)))) (aj (aj (aj @uM @Fo) (aj @rZ (aj @Ba @wM))) (aj (aj @Ib @Uh) (aj @Ui (aj @zK @zL))))) (aj (aj (aj (aj @xL @xM) (aj @pS @pG)) (aj (aj @Ic @Jp) (aj @qA (aj @Jq @Zk)))) (aj (aj (aj @Zl @oP) (aj @Fz (aj @pL @Ie))) (aj (aj @Pt @Pu) (aj @Eu (aj @Ev @wF))))))) (aj (aj (aj (aj (aj (aj @pT @Ga) (aj @Gb @wU)) (aj (aj @qL @oQ) (aj @Gc (aj @mR @Df)))) (aj (aj (aj @Kj @Bt) (aj @qB (aj @Jr @Kk))) (aj (aj @IZ @Ig) (aj @Ih (aj @uN @Uj))))) (aj (aj (aj (aj @JA @JB) (aj @Zo @Zp)) (aj (aj @sV @sI) (aj @qC (aj @pA
 @pR)))) (aj (aj (aj @sW @tS) (aj @pB (aj @nI @Js))) (aj (aj @xB @qD) (aj @Jt (aj @Ii @Ij)))))) (aj (aj (aj (aj (aj @tF @yK) (aj @Pv @Af)) (aj (aj @Sa @Pw) (aj @Sb (aj @Zq @CK)))) (aj (aj (aj @CL @CM) (aj @Px (aj @Sc @Uk))) (aj (aj @JD @JE) (aj @JF (aj @QG @JG))))) (aj (aj (aj (aj @JH @WC) (aj @WD @Cd)) (aj (aj @JI @JJ) (aj @rI (aj @qX @JK)))) (aj (aj (aj @JL @Ag) (aj @Zs (aj @Zt @CN))) (aj (aj @JM @JN) (aj @QH (aj @WE @WG))))))))
def FA:=aj (aj (aj (aj (aj (aj (aj (aj @ld3 @ik3) (aj @lk3 (aj @ze3 @aRr))) (aj (aj @aRs @SP) (aj @aGq (aj @aRt @aRu)))) (aj (aj (aj @aRv @ld5) (aj @ik5 (aj @lk5 @ze5))) (aj (aj @ik2 (aj @lk2 @ze2)) (aj @aRw (aj @aRx @aRy))))) (aj (aj (aj (aj @ld4 @lk4) (aj @ze4 (aj @be4 @bn4))) (aj (aj @aRz (aj @aJJ @aL3)) (aj @aGr (aj @aRA @aRB)))) (aj (aj (aj @aFg @aRC) (aj @aRD (aj @aRE @aRF))) (aj (aj @aL4 (aj @aRG @aJr)) (aj @aRH (aj @aRI @aRJ)))))) (aj (aj (aj (aj (aj @aGs @aGt) (aj @aJI (aj @aGu @aRK))) (aj (aj @aRL @aRM) (aj @aRN (aj @aRO @aGv)))) (aj (aj (aj @aGw @aRP) (aj @aRQ (aj @aRR @TM))) (aj (aj @aGx (aj @aGy @aGz)) (aj @aGA (aj @aGB @aGC))))) (aj (aj (aj (aj @aGD @aGE) (aj @aGF (aj @aGG @aGH))) (aj (aj @aGI (aj @aRS @aRT)) (aj @aRU (aj @aRV @aRW)))) (aj (aj (aj @aGJ @aGK) (aj @aGL (aj @aGM @aL5))) (aj (aj @aRX (aj @aRY @aRZ)) (aj @aR0 (aj @aGN @aR1))))))) (aj (aj (aj (aj (aj (aj @aR2 @aR3) (aj @aGO (aj @aR4 @aR5))) (aj (aj @aR6 @aR7) (aj @aGP (aj @aGQ @aGR)))) (aj (aj (aj @aR8 @aL6) (aj @aR9 (aj @aSa @aSb))) (aj (aj @aSc (aj @aGS @aGT)) (aj @aGU (aj @aGV @aGW))))) (aj (aj (aj (aj @aGX @aSd) (aj @aL7 (aj @aSe @aSf))) (aj (aj @aSg (aj @aSh @aGY)) (aj @aGZ (aj @aG0 @aG1)))) (aj (aj (aj @aG2 @aG3) (aj @aSi (aj @aSj @aL8))) (aj (aj @J9 (aj @aCU @aCV)) (aj @aCW (aj @aEP @aEQ)))))) (aj (aj (aj (aj (aj @aL9 @aMa) (aj @aSk (aj @aSl @aG4))) (aj (aj @aG5 (aj @aG6 @aG7)) (aj @aMb (aj @aSm @aMc)))) (aj (aj (aj @aMd @aCX) (aj @aCY (aj @aCZ @aC0))) (aj (aj @aMe (aj @aMf @aMg)) (aj @aMh (aj @aC1 @aC2))))) (aj (aj (aj (aj @aMi @aMj) (aj @aMk (aj @aMl @aC3))) (aj (aj @aC4 (aj @aER @aMm)) (aj @aSn (aj @aFJ @aG8)))) (aj (aj (aj @aG9 @aHa) (aj @aHb (aj @aMn @aSo))) (aj (aj @aSp (aj @aSq @aHc))
 (aj @aHd (aj @aHe @aMo)))))))) (aj (aj (aj (aj (aj (aj (aj @aMp @aSr) (aj @aSs (aj @aSt @aSu))) (aj (aj @aHf @aHg) (aj @aSv (aj @aSw @aSx)))) (aj (aj (aj @aSy @aHh) (aj @aHi (aj @aSz @aMq))) (aj (aj @aSA (aj @aSB @aSC)) (aj @aHj (aj @aHk @aSD))))) (aj (aj (aj (aj @aSE @aSF) (aj @aHl (aj @aHm @aHn))) (aj (aj @aHo (aj @aHp @aHq)) (aj @aHr (aj @aHs @aSG)))) (aj (aj (aj @aSH @aSI) (aj @aSJ (aj @aHt @aHu))) (aj (aj @aHv (aj @aHw @aHx)) (aj @aHy (aj @aHz @aHA)))))) (aj (aj (aj (aj (aj @aSK @aSL) (aj @aMr (aj @aMs @aC5))) (aj (aj @aC6 @aC7) (aj @aC8 (aj @aC9 @aDa)))) (aj (aj (aj @aDb @aDc) (aj @aES (aj @aMt @aHB))) (aj (aj @aHC (aj @aHD @aHE)) (aj @Kq (aj @aDd @aSM))))) (aj (aj (aj (aj @aSN @aSO) (aj @aSP (aj @aSQ @WI))) (aj (aj @aHF (aj @aSR @aSS)) (aj @aST (aj @aSU @aSV)))) (aj (aj (aj @D9 @aHG) (aj @aSW (aj @aSX @aSY))) (aj (aj @aSZ (aj @aS0 @aAf)) (aj @aMu (aj @aS1 @aS2))))))) (aj (aj (aj (aj (aj (aj @aS3 @oF) (aj @aHH (aj @aS4 @aS5))) (aj (aj @aS6 @aS7) (aj @aS8 (aj @QI @aHI)))) (aj (aj (aj @aS9 @aTa) (aj @aTb (aj @aTc @JO))) (aj (aj @aMv (aj @aTd @aTe)) (aj @aTf (aj @Qq @aHJ))))) (aj (aj (aj (aj @aTg @aTh) (aj @aTi (aj @aDe @aMw))) (aj (aj @aTj (aj @aTk @J7)) (aj @aET (aj @aMx @aMy)))) (aj (aj (aj @ZA @aMz) (aj @aMA (aj @aMB @aEU))) (aj (aj @aMC (aj @aMD @aME)) (aj @ZB (aj @aMF @aMG)))))) (aj (aj (aj (aj (aj @aMH @QJ) (aj @aEV (aj @aMI @aMJ))) (aj (aj @aTl (aj @aTm @aTn)) (aj @aTo (aj @aTp @aTq)))) (aj (aj (aj @aTr @aTs) (aj @aTt (aj @aTu @aTv))) (aj (aj @aTw (aj @aTx @aTy)) (aj @aTz (aj @aTA @aTB))))) (aj (aj (aj (aj @aTC @aTD) (aj @aTE (aj @aTF @aTG))) (aj (aj @aTH (aj @aTI @aTJ)) (aj @aTK (aj @aTL @aTM)))) (aj (aj (aj @aMK @aML) (aj @aMM (aj @aMN @aMO))) (aj (aj @aMP (aj @aMQ
 @aMR)) (aj @aMS (aj @aMT @aMU))))))))
def ZZ:=aj (aj EV LE) (aj RD FA)
section
variable {f:Nat} {fn:Func} {st:St} {x y z:AV}
theorem bP {t:Nat} (hr:fn.results.toList=[.tmp t]) (hx:st.env t=x) (hf:Flat x:=by exact .v _) (hk:Ext.pW f=false:=by exact aE (by decide)):zO Tryz.prog f fn (.ret,st)=some x:=X6 hk (.inl rfl) hr hx hf
theorem fI {t T:Nat} (hr:fn.results.toList=[.cell t T]) (hy:st.env t=y) (hx:Fg Tryz.prog st T y=some x) (hf:Flat x) (hk:Ext.pW f=false:=by exact aE (by decide)):zO Tryz.prog f fn (.ret,st)=some x:=C1 hk (.inl rfl) hr hy hx hf
theorem sU {t s g e' sz n:Nat} {cs:List AV} (hr:fn.results.toList=[.tmp t]) (hx:st.env t=.own s g) (hh:st.heap s g=some (.row e' sz n cs)) (hf:∀c∈cs,Flat c) (hk:Ext.pW f=false:=by exact aE (by decide)):zO Tryz.prog f fn (.ret,st)=some (.uniq e' sz n cs):=Wq hk (.inl rfl) hr hx hh hf
theorem eG {t T:Nat} {cs:List AV} (hr:fn.results.toList=[.cell t T]) (hz:st.env t=z) (hx:Fg Tryz.prog st T z=some (.agg cs)) (hy:fV st (.agg cs)=some y) (hk:Ext.pW f=false:=by exact aE (by decide)):zO Tryz.prog f fn (.ret,st)=some y:=VC hk (.inl rfl) hr hz hx hy
theorem dC {r1 r2:ResultVar} {x1 x2 y1 y2:AV} (hr:fn.results.toList=[r1,r2]) (h1:bK Tryz.prog st r1=some x1) (h2:bK Tryz.prog st r2=some x2) (e1:fV st x1=some y1) (e2:fV st x2=some y2) (hk:Ext.pW f=false:=by exact aE (by decide)):zO Tryz.prog f fn (.ret,st)=some (.eE [y1,y2]):=X7 hk (.inl rfl) hr h1 h2 e1 e2
theorem aKu {r1 r2:ResultVar} {x1 x2 y1 y2:AV} (hr:fn.results.toList=[r1,r2]) (h1:bK Tryz.prog st r1=some x1) (h2:bK Tryz.prog st r2=some x2) (e0:fV st x1=none) (e1:Mh st x1=some y1) (e2:fV st x2=some y2) (hk:Ext.pW f=false:=by exact aE (by decide)):zO Tryz.prog f fn (.ret,st)=some (.eE [y1,y2]):=C2 hk (.inl rfl) hr h1 h2 e0 e1 e2
theorem cW {r1 r2 r3:ResultVar} {x1 x2 x3 y1 y2 y3:AV} (hr:fn.results.toList=[r1,r2,r3]) (h1:bK Tryz.prog st r1=some x1) (h2:bK Tryz.prog st r2=some x2) (h3:bK Tryz.prog st r3=some x3) (e1:fV st x1=some y1) (e2:fV st x2=some y2) (e3:fV st x3=some y3) (hk:Ext.pW f=false:=by exact aE (by decide)):zO Tryz.prog f fn (.ret,st)=some (.eE [y1,y2,y3]):=VD hk (.inl rfl) hr h1 h2 h3 e1 e2 e3
theorem cL {c:Code} (hf:Tryz.prog.funcs[f]? = some fn) (hb:fn.body=some c) (rE:bI fn=true) {xs:List AV} (hu:xs.any sZ=false):aB Tryz.prog f xs=cH (yG Tryz.prog c (St.init xs)) (zO Tryz.prog f fn):=U8 _ hf hb rE xs (tK _ _) hu
theorem cG {c:Code} (hf:Tryz.prog.funcs[f]? = some fn) (hb:fn.body=some c) (rE:sY fn=true) (hc:mZ c=true) {xs:List AV} (hu:xs.any sZ=false):aB Tryz.prog f xs=cH (vU Tryz.prog true c (St.init xs)) (zO Tryz.prog f fn):=by
 rw[OE Tryz.prog hf hb rE xs (tK _ _) hu,hc]
end
section
variable {b:Code} {st st':St} {n:Nat} {I:Nat→St→Prop} {Q:Ex→St→Prop}
theorem oN (m:Nat) (h:yG Tryz.prog b st=some (.normal,st')) (hi:I m st') (hm:m<n:=by omega):∃e st',yG Tryz.prog b st=some (e,st')∧((e=.normal∧∃m,m<n∧I m st')∨(e≠.normal∧Q e st')):=oI h m hm hi
theorem oT (e:Ex) (h:yG Tryz.prog b st=some (e,st')) (hq:Q e st') (he:e≠.normal:=by simp):∃e st',yG Tryz.prog b st=some (e,st')∧((e=.normal∧∃m,m<n∧I m st')∨(e≠.normal∧Q e st')):=aGc h he hq
theorem Bh {bi:Bool} (m:Nat) (h:vU Tryz.prog bi b st=some (.normal,st')) (hi:I m st') (hm:m<n:=by omega):∃e st',vU Tryz.prog bi b st=some (e,st')∧((e=.normal∧∃m,m<n∧I m st')∨(e≠.normal∧Q e st')):=aGg h m hm hi
theorem FM {bi:Bool} (e:Ex) (h:vU Tryz.prog bi b st=some (e,st')) (hq:Q e st') (he:e≠.normal:=by simp):∃e st',vU Tryz.prog bi b st=some (e,st')∧((e=.normal∧∃m,m<n∧I m st')∨(e≠.normal∧Q e st')):=aCJ h he hq
end
end Go.Ab.Tryz
end
namespace Go.Ab.Tryz
open Classical Go.Proofs Go.Ab
def FT:=aj (aj (aj (aj (aj (aj @G1 (aj @JS @aAG)) (aj @Zv (aj @Zw @QR))) (aj (aj @QS (aj @FI @XN)) (aj @Nc (aj @QT @QU)))) (aj (aj (aj @WO (aj @aAH @aHU)) (aj @LM (aj @Nh @ZD))) (aj (aj @FP (aj @Ng @WQ)) (aj (aj @aAI @aHV) (aj @GG @XQ))))) (aj (aj (aj (aj @Uv (aj @N7 @JT)) (aj @mM (aj @JU @QV))) (aj (aj @aAJ (aj @aHW @EA)) (aj (aj @DO @Qi) (aj @DP @Nf)))) (aj (aj (aj @aM2 (aj @aDH @JV)) (aj @aAK (aj @aHX @G2))) (aj (aj @iM (aj @DY @qT)) (aj (aj @tJ @QW) (aj @yV @aM3)))))) (aj (aj (aj (aj (aj @aDI (aj @Zx @aAL)) (aj @aHY (aj @QX @qJ))) (aj (aj @sP (aj @Sp @oV)) (aj (aj @Eg @yX) (aj @Li @aM4)))) (aj (aj (aj @aDJ (aj @QY @aAM)) (aj @aHZ (aj @nU @vF))) (aj (aj @aDK (aj @aAN @LQ)) (aj (aj @XR @qR) (aj @TE @Lc))))) (aj (aj (aj (aj @TF (aj @Cl @WR)) (aj @Ee (aj @WS @G3))) (aj (aj @aAO (aj @aH0 @Nl)) (aj (aj @Ed @FV) (aj @iZ @aM5)))) (aj (aj (aj @aDL (aj @WT @WU)) (aj @G4 (aj @aAP @aH1))) (aj (aj @aDM (aj @Dz @xF)) (aj (aj @uP @aAQ) (aj @K7 @K6))))))
def E8:=EV
def L8:=LE
def R8:=RD
def F8:=aj FA FT
def EGn:=aj (aj (aj (aj (aj (aj @List.size_toArray.{0} @lU) (aj @nM @lV)) (aj (aj @lW @nN) (aj @OA @OB))) (aj (aj (aj @YN @GA) (aj @EO @PO)) (aj (aj @VP @VL) (aj @OX (aj @fC @dK))))) (aj (aj (aj (aj @bU @D1) (aj @VN @D2)) (aj (aj @Y2 @Y3) (aj @PA (aj @PB @PC)))) (aj (aj (aj @PD @PE) (aj @PF @PG)) (aj (aj @PH @PI) (aj @PJ (aj @PK @PL)))))) (aj (aj (aj (aj (aj @PM @PN) (aj @aGo @aAc)) (aj (aj @Wx @YV) (aj @aCK (aj @D3 @aCL)))) (aj (aj (aj @Y9 @aGl) (aj @Z0 @BV)) (aj (aj @IE @PQ) (aj @aCM (aj @Z1 @Z2))))) (aj (aj (aj (aj @aCN @IF) (aj @Z3 @IG)) (aj (aj @VQ @VR) (aj @Z4 (aj @VS @aGm)))) (aj (aj (aj @aCO @TN) (aj @aCP @Z5)) (aj (aj @Z6 @Z7) (aj @aGn (aj @D4 @Z9))))))
def ZC:=aj (aj L8 R8) F8
def Z8:=aj EV ZC
def ZG:=aj (aj EGn @C9) Z8
end Go.Ab.Tryz
namespace Go.Ab.Tryz
open Go.Ab
theorem MV:((((aF 0 1 (some 4)=[])∧(aF 1 5 (some 12)=[]))∧((aF 2 6 (some 15)=[])∧(aF 3 8 (some 19)=[])))∧(((aF 4 2 (some 27)=[])∧(aF 5 5 (some 28)=[]))∧((aF 6 9 (some 31)=[])∧((aF 7 1 (some 4)=[])∧(aF 8 1 (some 8)=[])))))∧((((aF 9 6 (some 40)=[])∧(aF 11 16 (some 48)=[(8,14),(10,14),(11,14)]))∧((aF 12 18 (some 60)=[])∧((aF 13 11 (some 77)=[])∧(aF 14 1 (some 4)=[]))))∧(((aF 15 7 (some 88)=[])∧(aF 16 1 (some 4)=[]))∧((aF 10 3 (some 46)=[])∧((aF 17 6 (some 95)=[])∧(aF 18 7 (some 100)=[]))))):=⟨⟨⟨⟨rfl,rfl⟩,⟨rfl,rfl⟩⟩,⟨⟨rfl,rfl⟩,⟨rfl,⟨rfl,rfl⟩⟩⟩⟩,⟨⟨⟨rfl,rfl⟩,⟨rfl,⟨rfl,rfl⟩⟩⟩,⟨⟨rfl,rfl⟩,⟨rfl,⟨rfl,rfl⟩⟩⟩⟩⟩
theorem Fu:(((aF 0 2 (some 2)=[])∧((aF 1 13 (some 11)=[])∧(aF 2 17 (some 22)=[])))∧(((aF 3 4 (some 37)=[])∧(aF 4 8 (some 40)=[]))∧((aF 5 10 (some 48)=[])∧(aF 6 9 (some 56)=[(4,7)]))))∧(((aF 7 6 (some 63)=[])∧((aF 8 6 (some 68)=[])∧(aF 9 9 (some 73)=[])))∧(((aF 10 18 (some 82)=[])∧(aF 11 4 (some 99)=[]))∧((aF 12 3 (some 103)=[])∧(aF 13 2 (some 105)=[])))):=⟨⟨⟨rfl,⟨rfl,rfl⟩⟩,⟨⟨rfl,rfl⟩,⟨rfl,rfl⟩⟩⟩,⟨⟨rfl,⟨rfl,rfl⟩⟩,⟨⟨rfl,rfl⟩,⟨rfl,rfl⟩⟩⟩⟩
theorem GM:(((aF 0 5 (some 2)=[])∧(aF 1 1 (some 7)=[]))∧((aF 2 5 (some 9)=[])∧(aF 4 11 (some 16)=[])))∧(((aF 5 7 (some 27)=[])∧(aF 6 13 (some 32)=[]))∧((aF 7 5 (some 44)=[(1,2)])∧((aF 3 3 (some 14)=[])∧(aF 8 5 (some 46)=[])))):=⟨⟨⟨rfl,rfl⟩,⟨rfl,rfl⟩⟩,⟨⟨rfl,rfl⟩,⟨rfl,⟨rfl,rfl⟩⟩⟩⟩
theorem TU:((((aF 0 3 (some 2)=[])∧(aF 1 8 (some 9)=[(3,6)]))∧((aF 2 41 (some 13)=[])∧(aF 3 1 (some 4)=[])))∧(((aF 4 38 (some 54)=[])∧(aF 5 1 (some 4)=[]))∧((aF 6 1 (some 7)=[])∧(aF 7 6 (some 131)=[]))))∧((((aF 9 14 (some 139)=[])∧(aF 10 1 (some 4)=[]))∧((aF 8 3 (some 137)=[])∧(aF 11 1 (some 8)=[])))∧(((aF 12 6 (some 153)=[])∧(aF 14 13 (some 161)=[]))∧((aF 15 1 (some 4)=[])∧((aF 13 3 (some 159)=[])∧(aF 16 1 (some 4)=[]))))):=⟨⟨⟨⟨rfl,rfl⟩,⟨rfl,rfl⟩⟩,⟨⟨rfl,rfl⟩,⟨rfl,rfl⟩⟩⟩,⟨⟨⟨rfl,rfl⟩,⟨rfl,rfl⟩⟩,⟨⟨rfl,rfl⟩,⟨rfl,⟨rfl,rfl⟩⟩⟩⟩⟩
theorem rO:(((((aF 0 2 (some 3)=[])∧(aF 1 7 (some 12)=[]))∧((aF 2 4 (some 18)=[])∧(aF 3 14 (some 22)=[])))∧(((aF 4 8 (some 35)=[])∧(aF 5 23 (some 41)=[]))∧((aF 6 9 (some 62)=[])∧((aF 7 5 (some 71)=[])∧(aF 8 4 (some 75)=[])))))∧((((aF 9 9 (some 79)=[])∧(aF 10 7 (some 87)=[]))∧((aF 11 6 (some 93)=[])∧((aF 12 13 (some 97)=[])∧(aF 13 4 (some 110)=[]))))∧(((aF 14 6 (some 114)=[])∧(aF 15 4 (some 119)=[]))∧((aF 16 15 (some 122)=[])∧((aF 17 12 (some 137)=[(7,9)])∧(aF 18 11 (some 147)=[]))))))∧(((((aF 19 5 (some 158)=[])∧(aF 20 8 (some 162)=[(3,5)]))∧((aF 21 3 (some 168)=[])∧((aF 22 2 (some 172)=[])∧(aF 23 6 (some 173)=[]))))∧(((aF 24 2 (some 179)=[])∧(aF 25 5 (some 180)=[]))∧((aF 26 2 (some 185)=[])∧((aF 27 5 (some 186)=[])∧(aF 28 2 (some 191)=[])))))∧((((aF 29 9 (some 192)=[])∧(aF 30 2 (some 201)=[]))∧((aF 31 5 (some 202)=[])∧((aF 32 2 (some 207)=[])∧(aF 33 16 (some 208)=[]))))∧(((aF 34 2 (some 224)=[])∧(aF 35 5 (some 225)=[]))∧((aF 36 2 (some 230)=[])∧((aF 37 3 (some 231)=[])∧(aF 38 2 (some 233)=[])))))):=⟨⟨⟨⟨⟨rfl,rfl⟩,⟨rfl,rfl⟩⟩,⟨⟨rfl,rfl⟩,⟨rfl,⟨rfl,rfl⟩⟩⟩⟩,⟨⟨⟨rfl,rfl⟩,⟨rfl,⟨rfl,rfl⟩⟩⟩,⟨⟨rfl,rfl⟩,⟨rfl,⟨rfl,rfl⟩⟩⟩⟩⟩,⟨⟨⟨⟨rfl,rfl⟩,⟨rfl,⟨rfl,rfl⟩⟩⟩,⟨⟨rfl,rfl⟩,⟨rfl,⟨rfl,rfl⟩⟩⟩⟩,⟨⟨⟨rfl,rfl⟩,⟨rfl,⟨rfl,rfl⟩⟩⟩,⟨⟨rfl,rfl⟩,⟨rfl,⟨rfl,rfl⟩⟩⟩⟩⟩⟩
theorem mL:(((aF 0 6 (some 3)=[])∧(aF 1 10 (some 13)=[(5,8)]))∧((aF 2 5 (some 19)=[])∧((aF 3 2 (some 24)=[])∧(aF 4 5 (some 25)=[]))))∧(((aF 5 2 (some 30)=[])∧(aF 6 12 (some 31)=[]))∧((aF 7 36 (some 41)=[])∧((aF 8 5 (some 114)=[])∧(aF 9 5 (some 116)=[(1,2)])))):=⟨⟨⟨rfl,rfl⟩,⟨rfl,⟨rfl,rfl⟩⟩⟩,⟨⟨rfl,rfl⟩,⟨rfl,⟨rfl,rfl⟩⟩⟩⟩
theorem sB:((((aF 0 4 (some 3)=[])∧(aF 1 13 (some 16)=[]))∧((aF 2 2 (some 23)=[])∧((aF 3 2 (some 25)=[])∧(aF 4 7 (some 26)=[]))))∧(((aF 5 6 (some 32)=[])∧(aF 6 8 (some 37)=[(1,4)]))∧((aF 7 2 (some 43)=[])∧((aF 8 2 (some 45)=[])∧(aF 9 14 (some 47)=[])))))∧((((aF 10 6 (some 59)=[])∧(aF 11 3 (some 65)=[]))∧((aF 12 9 (some 68)=[])∧((aF 13 1 (some 13)=[])∧(aF 14 1 (some 14)=[]))))∧(((aF 15 6 (some 74)=[])∧((aF 17 9 (some 82)=[])∧(aF 18 10 (some 91)=[])))∧((aF 16 3 (some 80)=[])∧((aF 19 4 (some 100)=[])∧(aF 20 2 (some 103)=[]))))):=⟨⟨⟨⟨rfl,rfl⟩,⟨rfl,⟨rfl,rfl⟩⟩⟩,⟨⟨rfl,rfl⟩,⟨rfl,⟨rfl,rfl⟩⟩⟩⟩,⟨⟨⟨rfl,rfl⟩,⟨rfl,⟨rfl,rfl⟩⟩⟩,⟨⟨rfl,⟨rfl,rfl⟩⟩,⟨rfl,⟨rfl,rfl⟩⟩⟩⟩⟩
theorem Jl:(((aF 0 2 (some 1)=[])∧(aF 1 3 (some 5)=[]))∧((aF 2 2 (some 7)=[])∧((aF 3 1 (some 4)=[])∧(aF 4 4 (some 8)=[]))))∧(((aF 6 9 (some 14)=[])∧((aF 7 10 (some 23)=[])∧(aF 8 7 (some 32)=[])))∧((aF 9 13 (some 39)=[])∧((aF 5 3 (some 12)=[])∧(aF 10 2 (some 51)=[])))):=⟨⟨⟨rfl,rfl⟩,⟨rfl,⟨rfl,rfl⟩⟩⟩,⟨⟨rfl,⟨rfl,rfl⟩⟩,⟨rfl,⟨rfl,rfl⟩⟩⟩⟩
theorem Xb:((((aF 0 3 (some 2)=[])∧(aF 1 4 (some 14)=[]))∧((aF 2 10 (some 17)=[])∧(aF 3 1 (some 9)=[])))∧(((aF 4 4 (some 22)=[])∧(aF 5 4 (some 25)=[]))∧((aF 6 1 (some 10)=[])∧(aF 7 1 (some 11)=[]))))∧((((aF 8 3 (some 29)=[])∧(aF 10 5 (some 34)=[]))∧((aF 11 2 (some 38)=[])∧(aF 12 1 (some 12)=[])))∧(((aF 13 7 (some 40)=[])∧(aF 14 5 (some 45)=[]))∧((aF 15 8 (some 50)=[])∧((aF 9 3 (some 32)=[])∧(aF 16 6 (some 56)=[(2,3)]))))):=⟨⟨⟨⟨rfl,rfl⟩,⟨rfl,rfl⟩⟩,⟨⟨rfl,rfl⟩,⟨rfl,rfl⟩⟩⟩,⟨⟨⟨rfl,rfl⟩,⟨rfl,rfl⟩⟩,⟨⟨rfl,rfl⟩,⟨rfl,⟨rfl,rfl⟩⟩⟩⟩⟩
theorem M3:((aF 0 3 (some 1)=[])∧((aF 1 5 (some 5)=[])∧(aF 2 8 (some 8)=[])))∧((aF 3 3 (some 16)=[])∧((aF 4 5 (some 17)=[(0,2)])∧(aF 5 5 (some 20)=[(1,3)]))):=⟨⟨rfl,⟨rfl,rfl⟩⟩,⟨rfl,⟨rfl,rfl⟩⟩⟩
theorem Jy:((((aF 0 2 (some 1)=[])∧(aF 1 8 (some 6)=[]))∧((aF 2 1 (some 2)=[])∧((aF 3 7 (some 15)=[])∧(aF 4 2 (some 19)=[]))))∧(((aF 5 2 (some 21)=[])∧((aF 6 5 (some 22)=[])∧(aF 7 2 (some 25)=[])))∧((aF 8 2 (some 28)=[])∧((aF 9 4 (some 29)=[])∧(aF 10 2 (some 33)=[])))))∧((((aF 11 4 (some 34)=[])∧((aF 12 2 (some 38)=[])∧(aF 13 4 (some 39)=[])))∧((aF 14 2 (some 43)=[])∧((aF 15 4 (some 44)=[])∧(aF 16 2 (some 48)=[]))))∧(((aF 17 4 (some 49)=[])∧((aF 18 2 (some 53)=[])∧(aF 19 8 (some 54)=[(3,5)])))∧((aF 20 4 (some 60)=[])∧((aF 21 1 (some 2)=[])∧(aF 22 1 (some 2)=[]))))):=⟨⟨⟨⟨rfl,rfl⟩,⟨rfl,⟨rfl,rfl⟩⟩⟩,⟨⟨rfl,⟨rfl,rfl⟩⟩,⟨rfl,⟨rfl,rfl⟩⟩⟩⟩,⟨⟨⟨rfl,⟨rfl,rfl⟩⟩,⟨rfl,⟨rfl,rfl⟩⟩⟩,⟨⟨rfl,⟨rfl,rfl⟩⟩,⟨rfl,⟨rfl,rfl⟩⟩⟩⟩⟩
theorem LJ:((aF 0 2 (some 3)=[])∧(aF 1 1 (some 5)=[]))∧((aF 2 15 (some 6)=[])∧((aF 3 3 (some 21)=[])∧(aF 4 13 (some 23)=[(7,10)]))):=⟨⟨rfl,rfl⟩,⟨rfl,⟨rfl,rfl⟩⟩⟩
theorem Aq:((((aF 0 3 (some 1)=[])∧(aF 1 3 (some 9)=[]))∧((aF 2 3 (some 12)=[])∧(aF 3 5 (some 13)=[])))∧(((aF 4 3 (some 17)=[])∧(aF 5 7 (some 19)=[]))∧((aF 6 4 (some 26)=[])∧((aF 7 7 (some 28)=[])∧(aF 8 4 (some 34)=[])))))∧((((aF 9 3 (some 37)=[])∧(aF 10 1 (some 6)=[]))∧((aF 11 4 (some 39)=[])∧((aF 13 8 (some 45)=[])∧(aF 14 12 (some 53)=[]))))∧(((aF 15 11 (some 65)=[])∧(aF 16 2 (some 73)=[]))∧((aF 17 7 (some 75)=[])∧((aF 12 3 (some 43)=[])∧(aF 18 3 (some 81)=[]))))):=⟨⟨⟨⟨rfl,rfl⟩,⟨rfl,rfl⟩⟩,⟨⟨rfl,rfl⟩,⟨rfl,⟨rfl,rfl⟩⟩⟩⟩,⟨⟨⟨rfl,rfl⟩,⟨rfl,⟨rfl,rfl⟩⟩⟩,⟨⟨rfl,rfl⟩,⟨rfl,⟨rfl,rfl⟩⟩⟩⟩⟩
theorem aK1:((aF 0 2 (some 3)=[])∧(aF 1 14 (some 5)=[(3,5),(3,8),(6,8),(3,11),(6,11),(9,11)]))∧((aF 2 8 (some 18)=[(3,5)])∧((aF 3 8 (some 25)=[(3,5)])∧(aF 4 13 (some 32)=[(4,7),(4,10),(8,10)]))):=⟨⟨rfl,rfl⟩,⟨rfl,⟨rfl,rfl⟩⟩⟩
theorem aEm:((aF 0 3 (some 1)=[])∧(aF 1 4 (some 5)=[]))∧((aF 2 2 (some 8)=[])∧((aF 3 3 (some 10)=[])∧(aF 4 14 (some 11)=[(5,7),(5,10),(8,10)]))):=⟨⟨rfl,rfl⟩,⟨rfl,⟨rfl,rfl⟩⟩⟩
theorem LY:(((aF 0 3 (some 1)=[])∧(aF 1 4 (some 6)=[]))∧((aF 2 2 (some 2)=[])∧(aF 3 14 (some 10)=[(7,9),(7,10)])))∧(((aF 4 1 (some 5)=[])∧(aF 5 5 (some 23)=[]))∧((aF 7 8 (some 30)=[])∧((aF 6 3 (some 28)=[])∧(aF 8 3 (some 37)=[])))):=⟨⟨⟨rfl,rfl⟩,⟨rfl,rfl⟩⟩,⟨⟨rfl,rfl⟩,⟨rfl,⟨rfl,rfl⟩⟩⟩⟩
theorem N2:((aF 0 3 (some 1)=[])∧(aF 1 8 (some 4)=[]))∧((aF 2 2 (some 2)=[])∧(aF 3 13 (some 12)=[(7,9)])):=⟨⟨rfl,rfl⟩,⟨rfl,rfl⟩⟩
theorem aKL:(aF 0 2 (some 3)=[])∧(aF 1 8 (some 5)=[(3,5)]):=⟨rfl,rfl⟩
theorem aEl:(aF 0 2 (some 3)=[])∧(aF 1 14 (some 5)=[(3,5),(3,8),(6,8),(3,11),(6,11),(9,11)]):=⟨rfl,rfl⟩
theorem Wl:((aF 0 1 (some 4)=[])∧((aF 1 1 (some 5)=[])∧(aF 2 12 (some 6)=[])))∧(((aF 3 3 (some 18)=[])∧(aF 4 12 (some 20)=[]))∧((aF 5 2 (some 32)=[])∧(aF 6 12 (some 33)=[(6,9)]))):=⟨⟨rfl,⟨rfl,rfl⟩⟩,⟨⟨rfl,rfl⟩,⟨rfl,rfl⟩⟩⟩
end Go.Ab.Tryz
namespace Go.Ab.Tryz
open Classical Go.Proofs Go.Ab
theorem Dl (x:Int) (h1:-9223372036854775808≤x) (h2:x≤9223372036854775807):IntKind.i64.wrap x=x:=wrap_i64 x h1 h2
theorem c87 (ns:List Node) (i:Int):aB Tryz.prog 87 [.agg (cD ⟨ns⟩),.v (.int .i64 i)]=some (.v (.bool (decide (0≤i) && decide (i<ns.length)))):=by
 rw[cL Tryz.func87 rfl aTP rfl];by_cases h:0≤i
 all_goals
  simp only[ZZ,seval,h,decide_true,decide_false,Bool.false_eq_true,Bool.true_and,Bool.false_and];exact bP rfl (by simp only[EV,seval]) (.v _)
theorem RA (ns:List Node) (i:Int) (st:St) (d:Option Nat):aN (aB Tryz.prog) 87 [.agg (cD ⟨ns⟩),.v (.int .i64 i)] st d=some { dst:=d,val:=.v (.bool (decide (0≤i) && decide (i<ns.length)))}:=bF (bA (lN _) (.v _)) (c87 ns i) (.v _)
def RP (n:Int):Bool:=decide (0≤n) && decide (n≤2)
theorem aND (i:Int):aB Tryz.prog 186 [.v (.int .i64 i)]=some (.v (.bool (RP i))):=by
 rw[cL Tryz.func186 rfl aMX rfl];by_cases h:0≤i
 all_goals
  simp only[ZZ,seval,h,decide_true,decide_false,Bool.false_eq_true,Bool.true_and,Bool.false_and];exact bP rfl (by simp only[EV,seval,RP,h,decide_true,decide_false,Bool.false_and,Bool.true_and]) (.v _)
noncomputable def aJ (ns:List Node) (r:bX):Int:=match ns.findIdx? (fun n=>decide (n.block.root=r)) with
 | some k=>(k:Int)
 | none=>-1
theorem KN {ns:List Node} {r:bX} {i:Int} (h0:0≤i) (h1:i<ns.length) (hr:(nd ns i).block.root=r) (hb:∀j,0≤j→j<i→(nd ns j).block.root≠r):aJ ns r=i:=by
 obtain⟨hi,e⟩:=Ku h0 h1
 have:ns.findIdx? (fun n=>decide (n.block.root=r))=some i.toNat:=by
  rw[List.findIdx?_eq_some_iff_getElem];refine⟨hi,by simp[← e,hr],fun j hj=>?_⟩
  have h:=hb j (by omega) (by omega)
  have hj':j<ns.length:=by omega
  simp[nd,hj'] at h
  simpa using h
 unfold aJ;rw[this];simp;omega
theorem Vp {ns:List Node} {r:bX} (hb:∀j,0≤j→j<(ns.length:Int)→(nd ns j).block.root≠r):aJ ns r=-1:=by
 have:ns.findIdx? (fun n=>decide (n.block.root=r))=none:=by
  rw[List.findIdx?_eq_none_iff];intro n hn;obtain⟨j,hj,rfl⟩:=List.getElem_of_mem hn
  have h:=hb j (by omega) (by omega)
  simp[nd,hj] at h
  simpa using h
 unfold aJ;rw[this]
theorem c46 (ns:List Node) (r:bX) (hn:(ns.length:Int)<1000000):aB Tryz.prog 46 [.agg (cD ⟨ns⟩),.agg (aY r)]=some (.v (.int .i64 (aJ ns r))):=by
 rw[cL Tryz.func46 rfl aTN rfl];simp only[ZZ,seval];refine jP (fun n st=>∃i:Int,st.env 2=.ptr 2 0 0∧st.env 3=.ptr 3 0 0∧st.heap 2 0=some (.cells (cD ⟨ns⟩))∧st.heap 3 0=some (.cells (aY r))∧st.env 5=.v (.int .i64 i)∧0≤i∧i≤ns.length∧n=(ns.length-i).toNat ∧
  ∀j,0≤j→j<i→(nd ns j).block.root≠r)
  (fun e st=>(e=.ret∧st.env 4=.v (.int .i64 (aJ ns r)))∨(e=.exit 0∧aJ ns r=-1)) ns.length ?step ?start ?rest
 case step =>
  rintro n st ⟨i,h2,h3,tU,CU,h5,i0,i1,Gd,hb⟩
  by_cases aZ:i<ns.length
  ·have hw:IntKind.i64.wrap (i+1)=i+1:=Dl _ (by omega) (by omega)
   by_cases hr:(nd ns i).block.root=r
   ·apply oT (.ret)
    ·simp only[ZZ,seval,h2,h3,tU,CU,h5,aZ,i0,hr];rfl
    ·exact .inl ⟨rfl,by simp only[EV,seval,KN i0 aZ hr hb]⟩
   ·apply oN ((ns.length-(i+1)).toNat)
    ·simp only[ZZ,seval,h2,h3,tU,CU,h5,aZ,i0,hr,hw];rfl
    ·exact⟨i+1,by simp only[EV,seval,h2],by simp only[EV,seval,h3],by simp only[EV,seval,tU],by simp only[EV,seval,CU],(by simp only[EV,seval]),by omega,by omega,rfl,fun j j0 j1=>by
     rcases Int.lt_or_eq_of_le (show j≤i by omega) with h|rfl
     ·exact hb j j0 h
     ·exact hr⟩
  ·apply oT (.exit 0)
   ·simp only[ZZ,seval,h2,h3,tU,CU,h5,aZ,i0];rfl
   ·exact .inr ⟨rfl,Vp fun j j0 j1=>hb j j0 (by omega)⟩
 case start=>exact⟨0,(by simp only[EV,seval]),(by simp only[EV,seval]),(by simp only[EV,seval]),(by simp only[EV,seval]),(by simp only[EV,seval]),by omega,by omega,by omega,fun j _ _=>by omega⟩
 case rest =>
  rintro e st (⟨rfl,h⟩|⟨rfl,h⟩)
  ·simp only[ZZ,seval];exact bP rfl h (.v _)
  ·simp only[ZZ,seval];exact bP rfl (by simp only[EV,seval,h]) (.v _)
theorem q49 (args:List AV) (st:St) (d:Option Nat):aN (aB Tryz.prog) 49 args st d=vN (aB Tryz.prog) 49 (bY (args.map (fV st))) (decide (∀x∈args,Flat x)) st d:=nH _ _ _ _ _
theorem c49 (l:List Int) (a:Int) (hn:(l.length:Int)<1000000):aB Tryz.prog 49 [.sl l.length (aH l),.v (.int .i64 a)]=some (.v (.bool (decide (a∈l)))):=by
 rw[cL Tryz.func49 rfl aMV rfl];simp only[ZZ,seval];refine jP (fun n st=>∃i:Int,st.env 0=.sl l.length (aH l)∧st.env 1=.v (.int .i64 a)∧st.env 5=.v (.int .i64 i)∧0≤i∧i≤l.length∧n=(l.length-i).toNat∧∀j,0≤j→j<i→it l j≠a)
  (fun e st=>(e=.ret∧st.env 4=.v (.bool (decide (a∈l))))∨(e=.exit 0∧decide (a∈l)=false)) l.length ?step ?start ?rest
 case step =>
  rintro n st ⟨i,h0,h1,h5,i0,i1,Gd,hb⟩
  by_cases aZ:i<l.length
  ·have hw:IntKind.i64.wrap (i+1)=i+1:=Dl _ (by omega) (by omega)
   obtain⟨hi,he⟩:=wK i0 aZ
   by_cases hr:it l i=a
   ·have hm:decide (a∈l)=true:=by rw[decide_eq_true_eq,← hr,he];exact List.getElem_mem hi
    have I5:(it l i == a)=true:=by simp[hr]
    apply oT (.ret)
    ·simp only[ZZ,seval,h0,h1,h5,aZ,i0,I5];rfl
    ·exact .inl ⟨rfl,by simp only[EV,seval,hm]⟩
   ·have I5:(it l i == a)=false:=by simp[hr]
    apply oN ((l.length-(i+1)).toNat)
    ·simp only[ZZ,seval,h0,h1,h5,aZ,i0,I5,hw];rfl
    ·exact⟨i+1,by simp only[EV,seval,h0],by simp only[EV,seval,h1],(by simp only[EV,seval]),by omega,by omega,rfl,fun j j0 j1=>by
     rcases Int.lt_or_eq_of_le (show j≤i by omega) with h|rfl
     ·exact hb j j0 h
     ·exact hr⟩
  ·apply oT (.exit 0)
   ·simp only[ZZ,seval,h0,h1,h5,aZ,i0];rfl
   ·exact .inr ⟨rfl,by
    rw[decide_eq_false_iff_not];intro hm;obtain⟨j,hj,rfl⟩:=List.getElem_of_mem hm
    exact hb j (by omega) (by omega) (by simp[it,hj])⟩
 case start=>exact⟨0,(by simp only[EV,seval]),(by simp only[EV,seval]),(by simp only[EV,seval]),by omega,by omega,by omega,fun j _ _=>by omega⟩
 case rest =>
  rintro e st (⟨rfl,h⟩|⟨rfl,h⟩)
  ·simp only[ZZ,seval];exact bP rfl h (.v _)
  ·simp only[ZZ,seval];exact bP rfl (by simp only[EV,seval,h]) (.v _)
theorem aJ9 (a:Int):aB Tryz.prog 49 [.v (.slice none 0 0),.v (.int .i64 a)]=some (.v (.bool false)):=by
 rw[cL Tryz.func49 rfl aMV rfl];simp only[ZZ,seval,Cb,Int.natCast_zero,Int.lt_irrefl,decide_false];exact bP rfl (by simp only[EV,seval]) (.v _)
theorem k49 (l:List Int) (a:Int) (hn:(l.length:Int)<1000000) (fl:Bool) (st:St) (d:Option Nat):vN (aB Tryz.prog) 49 (some [.sl l.length (aH l),.v (.int .i64 a)]) fl st d=some { dst:=d,val:=.v (.bool (decide (a∈l)))}:=TO (c49 l a hn)
theorem aTS (a:Int) (fl:Bool) (st:St) (d:Option Nat):vN (aB Tryz.prog) 49 (some [.v (.slice none 0 0),.v (.int .i64 a)]) fl st d=some { dst:=d,val:=.v (.bool false)}:=TO (aJ9 a)
def fZ (ns:List Node):Prop:=∀i:Int,0<i→i<ns.length→0≤(nd ns i).up∧(nd ns i).up<i
def Zy (ns:List Node):Nat→Int→List Int
 | 0,_=>[]
 | f+1,i=>if i=0 then [0] else Zy ns f (nd ns i).up++[i]
def path (ns:List Node) (i:Int):List Int:=if 0≤i∧i<ns.length then Zy ns (i.toNat+1) i else []
theorem Zz {ns:List Node} (h:fZ ns):∀(f g:Nat) (i:Int),0≤i→i<ns.length→i.toNat<f→i.toNat<g→Zy ns f i=Zy ns g i
 | 0,_,i,_,_,h1,_=>by omega
 | f+1,0,i,_,_,_,h2=>by omega
 | f+1,g+1,i,i0,i1,h1,h2=>by
   simp only[Zy];by_cases hi:i=0
   ·rw[if_pos hi,if_pos hi]
   ·obtain⟨u0,u1⟩:=h i (by omega) i1
    rw[if_neg hi,if_neg hi,Zz h f g (nd ns i).up u0 (by omega) (by omega) (by omega)]
theorem lO {ns:List Node} (h:0<ns.length):path ns 0=[0]:=by
 unfold path;rw[if_pos ⟨by omega,by omega⟩]
 rfl
theorem lP {ns:List Node} (h:fZ ns) {i:Int} (i0:0<i) (i1:i<ns.length):path ns i=path ns (nd ns i).up++[i]:=by
 obtain⟨u0,u1⟩:=h i i0 i1
 unfold path;rw[if_pos ⟨by omega,i1⟩,if_pos ⟨u0,by omega⟩]
 show Zy ns (i.toNat+1) i=_
 rw[Zy,if_neg (by omega)]
 rw[Zz h i.toNat ((nd ns i).up.toNat+1) (nd ns i).up u0 (by omega) (by omega) (by omega)]
theorem xN {ns:List Node} {i:Int} (h:¬(0≤i∧i<ns.length)):path ns i=[]:=if_neg h
theorem aAR {ns:List Node} (h:fZ ns):∀(k:Nat) (i:Int),i.toNat=k→0≤i→i<ns.length→(path ns i).length≤i+1:=by
 intro k;induction k using Nat.strongRecOn with
 | _ k ih =>
   intro i hk i0 i1;by_cases hi:i=0
   ·subst hi;rw[lO (by omega)];simp
   ·obtain⟨u0,u1⟩:=h i (by omega) i1
    rw[lP h (by omega) i1]
    have:=ih (nd ns i).up.toNat (by omega) _ rfl u0 (by omega)
    simp only[List.length_append,List.length_singleton];omega
theorem xD {ns:List Node} (h:fZ ns) (i:Int):((path ns i).length:Int)≤ns.length:=by
 by_cases hi:0≤i∧i<ns.length
 ·have:=aAR h _ i rfl hi.1 hi.2;omega
 ·rw[xN hi];simp
theorem aTT (ns:List Node) (i:Int) (h:¬(0≤i∧i<ns.length)):aB Tryz.prog 76 [.agg (cD ⟨ns⟩),.v (.int .i64 i)]=some (.v (.slice none 0 0)):=by
 rw[cL Tryz.func76 rfl aMW rfl];have hd:(decide (0≤i) && decide (i<ns.length))=false:=by
  rw[← Bool.not_eq_true];simpa using h
 simp only[ZZ,seval,RA,hd];exact bP rfl (by simp only[EV,seval]) (.v _)
theorem c76 (ns:List Node) (hu:fZ ns) (hn:(ns.length:Int)<1000000):∀(k:Nat) (i:Int),i.toNat=k→0≤i→i<ns.length→aB Tryz.prog 76 [.agg (cD ⟨ns⟩),.v (.int .i64 i)]=some (.uniq 3 1 (path ns i).length (aH (path ns i))):=by
 intro k;induction k using Nat.strongRecOn with
 | _ k ih =>
   intro i hk i0 i1;have hd:(decide (0≤i) && decide (i<ns.length))=true:=by simp[i0,i1]
   rw[cL Tryz.func76 rfl aMW rfl];by_cases hi:i=0
   ·subst hi;simp only[ZZ,seval,RA,hd,i1,beq_self_eq_true];exact sU rfl (by simp only[EV,seval];rfl) (by simp only[EV,seval,lO (show 0<ns.length by omega)];rfl) (gB _)
   ·obtain⟨u0,u1⟩:=hu i (by omega) i1
    have hq:(i == 0)=false:=by simp[hi]
    have hr:=ih (nd ns i).up.toNat (by omega) _ rfl u0 (by omega)
    have hc:∀(st:St) (d:Nat),aN (aB Tryz.prog) 76 [.agg (cD ⟨ns⟩),.v (.int .i64 (nd ns i).up)] st (some d)=some { dst:=some d,val:=.own d (st.aQ d),new:=some (d,[.row 3 1 (path ns (nd ns i).up).length (aH (path ns (nd ns i).up))])}:=fun st d=>jA (bA (lN _) (.v _)) hr
    have hl:((path ns (nd ns i).up).length:Int)<1000000:=by have:=xD hu (nd ns i).up;omega
    simp only[ZZ,seval,RA,hd,hq,i0,i1,hc,hl];exact sU rfl (by simp only[EV,seval];rfl) (by simp only[EV,seval,lP hu (show 0<i by omega) i1]) (gB _)
theorem k76 (ns:List Node) (hu:fZ ns) (hn:(ns.length:Int)<1000000) (i:Int) (i0:0≤i) (i1:i<ns.length) (st:St) (d:Nat):aN (aB Tryz.prog) 76 [.agg (cD ⟨ns⟩),.v (.int .i64 i)] st (some d)=some { dst:=some d,val:=.own d (st.aQ d),new:=some (d,[.row 3 1 (path ns i).length (aH (path ns i))])}:=jA (bA (lN _) (.v _)) (c76 ns hu hn _ i rfl i0 i1)
theorem RR (ns:List Node) (i:Int) (h:¬(0≤i∧i<ns.length)) (st:St) (d:Option Nat):aN (aB Tryz.prog) 76 [.agg (cD ⟨ns⟩),.v (.int .i64 i)] st d=some { dst:=d,val:=.v (.slice none 0 0)}:=bF (bA (lN _) (.v _)) (aTT ns i h) (.v _)
def vE (ns:List Node) (a b:Int):Bool:=decide (a∈path ns b)
theorem c47 (ns:List Node) (hu:fZ ns) (hn:(ns.length:Int)<1000000) (a b:Int):aB Tryz.prog 47 [.agg (cD ⟨ns⟩),.v (.int .i64 a),.v (.int .i64 b)]=some (.v (.bool (vE ns a b))):=by
 rw[cL Tryz.func47 rfl aTO rfl];by_cases hb:0≤b∧b<ns.length
 ·have hl:((path ns b).length:Int)<1000000:=by have:=xD hu b;omega
  simp only[ZZ,seval,k76 ns hu hn b hb.1 hb.2,q49,k49,hl];exact bP rfl (by simp only[EV,seval,vE]) (.v _)
 ·simp only[ZZ,seval,RR ns b hb,q49,aTS];exact bP rfl (by simp only[EV,seval,vE,xN hb,List.not_mem_nil,decide_false]) (.v _)
theorem rV (ns:List Node) (hu:fZ ns) (hn:(ns.length:Int)<1000000) (a b:Int) (st:St) (d:Option Nat):aN (aB Tryz.prog) 47 [.agg (cD ⟨ns⟩),.v (.int .i64 a),.v (.int .i64 b)] st d=some { dst:=d,val:=.v (.bool (vE ns a b))}:=bF (mW (lN _) (.v _) (.v _)) (c47 ns hu hn a b) (.v _)
end Go.Ab.Tryz
