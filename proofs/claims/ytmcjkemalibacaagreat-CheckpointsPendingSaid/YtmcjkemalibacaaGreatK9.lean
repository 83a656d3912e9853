/-
  Part 9 of the proof: an evaluator of programs, its soundness, and what functions of this program compute.
-/
import Derived.Test.YtmcjkemalibacaaGreatK8
import Derived.Test.YtmcjkemalibacaaGreatK5
set_option linter.all false
set_option maxRecDepth 20000
set_option maxHeartbeats 40000000
section
namespace Go.Ab
open Classical
instance:Inhabited Node:=⟨A6⟩
def nd (ns:List Node) (i:Int):Node:=ns.getD i.toNat A6
def it (l:List Int) (i:Int):Int:=l.getD i.toNat 0
theorem Lr {ns:List Node} {i:Int} (h0:0≤i) (h1:i<ns.length):∃h:i.toNat<ns.length,nd ns i=ns[i.toNat]:=by
 have h:i.toNat<ns.length:=by omega
 exact⟨h,by simp[nd,h]⟩
theorem xP {l:List Int} {i:Int} (h0:0≤i) (h1:i<l.length):∃h:i.toNat<l.length,it l i=l[i.toNat]:=by
 have h:i.toNat<l.length:=by omega
 exact⟨h,by simp[it,h]⟩
theorem SM (l:List Int):aK l=l.map fun x=>.v (.int .i64 x):=by
 induction l with
 | nil=>rfl
 | cons a l ih=>simp only[aK,List.flatMap_cons,List.map_cons,qV] at *;rw[ih];rfl
theorem MF (l:List Int):bK l=l.map fun x=>.v (.int .u64 x):=by
 induction l with
 | nil=>rfl
 | cons a l ih=>simp only[bK,List.flatMap_cons,List.map_cons,lG] at *;rw[ih];rfl
theorem L9 (a b:List Int):aK (a++b)=aK a++aK b:=by simp[aK]
theorem BT (a b:List Node):bZ (a++b)=bZ a++bZ b:=by simp[bZ]
theorem F7 (l:List Int):∀c∈aK l,iE c:=by rw[SM];intro c hc;obtain⟨x,_,rfl⟩:=List.mem_map.1 hc;exact .v _
theorem M0 {l:List Int} {i:Int} (h0:0≤i) (h1:i<l.length):(aK l)[i.toNat]? = some (.v (.int .i64 (it l i))):=by
 obtain⟨h,e⟩:=xP h0 h1
 rw[SM,List.getElem?_map,List.getElem?_eq_getElem h,e];rfl
theorem F6 {l:List Int} {i:Int} (h0:0≤i) (h1:i<l.length):(bK l)[i.toNat]? = some (.v (.int .u64 (it l i))):=by
 obtain⟨h,e⟩:=xP h0 h1
 rw[MF,List.getElem?_map,List.getElem?_eq_getElem h,e];rfl
theorem YU {ns:List Node} {i:Int} (h0:0≤i) (h1:i<ns.length):((bZ ns).drop (i.toNat * 240)).take 240=fK (nd ns i):=by
 obtain⟨h,e⟩:=Lr h0 h1
 rw[e,← K5 ns i.toNat h];rfl
theorem LJ:((1:Nat)=0)=False:=by simp
theorem LK:((0:Nat)=1)=False:=by simp
theorem cU {x:AV} (h:Flat x):∀y∈[x],Flat y:=by simpa using h
theorem bE {x y:AV} (h:Flat x) (h':Flat y):∀z∈[x,y],Flat z:=by simp[h,h']
theorem lM {x y u:AV} (h:Flat x) (h':Flat y) (h2:Flat u):∀z∈[x,y,u],Flat z:=by simp[h,h',h2]
theorem lX (t:Tree):Flat (.agg (cJ t)):=.agg _ (XW t)
theorem qL (t:Block):Flat (.agg (aP t)):=.agg _ (Bx t)
theorem qU (t:cN):Flat (.agg (bF t)):=.agg _ (dX t)
theorem Eo (l:List Int):Flat (.sl l.length (aK l)):=.sl _ _ (gI l)
theorem aED (st:St) (n:Nat) (cs:List AV):aX st (.sl n cs)=some (n,cs):=rfl
theorem aBx (st:St):aX st (.v (.slice none 0 0))=some (0,[]):=rfl
theorem aJs (x:Int):qV x=[.v (.int .i64 x)]:=rfl
theorem aJt (x:Int):lG x=[.v (.int .u64 x)]:=rfl
theorem aEE (x:Bool):uT x=[.v (.bool x)]:=rfl
namespace Tryz
open Go.Proofs
theorem aO0 (st:St) {ns:List Node} {k:IntKind} {i:Int} (h0:0≤i) (h1:i<ns.length):bH Tryz.prog st 48 (.sl ns.length (bZ ns)) (.v (.int k i))=some (.ip (fK (nd ns i)) 0):=by
 have hl:i.toNat<ns.length:=by omega
 have:i.toNat * 240+240≤ns.length * 240:=by rw[← Nat.succ_mul];exact Nat.mul_le_mul_right _ hl
 simp only[bH,aJp,SK,h0,h1,Ls,this,and_self,if_true,YU h0 h1]
theorem aFl (st:St) {l:List Int} {k:IntKind} {i:Int} (h0:0≤i) (h1:i<l.length):bH Tryz.prog st 22 (.sl l.length (aK l)) (.v (.int k i))=some (.ip (qV (it l i)) 0):=by
 obtain⟨h,e⟩:=xP h0 h1
 have:i.toNat * 1+1≤l.length * 1:=by omega
 have hr:=aA5 l i.toNat h
 simp only[bH,aEB,Ln,h0,h1,Ju,this,and_self,if_true,e,← hr];rfl
theorem aBy {call:Nat→List AV→Option AV} {ops:Array Oper} {st:St} {d:Option Nat} {T:Nat} {pos:String} {eU:Array Edge} (g:Nat) (args:Array Operand) (tQ:Array Nat) (h:(g == 215 || g == 226 || g == 227 || g == 229 || g == 228 || g == 230 || g == 231 || g == 210 || g == 81 || g == 217 || g == 222 || g == 235 || g == 220 || g == 101 || g == 57 || g == 32 || (g == 43 && d == some 72))=false) :
 cI Tryz.prog call ops ⟨d,.call ⟨.value (.func g),args,tQ⟩,T,pos,eU,none⟩ st=cT (aM call g (args.toList.map st.ev) st d) fun e=>some (e.apply st):=by
 simp only[Bool.or_eq_false_iff] at h;exact aDJ g args tQ (aEf (by simp only[h,Bool.or_self])) (aBp (by simp only[h,Bool.or_self]))
theorem M1 {call:Nat→List AV→Option AV} {ops:Array Oper} {st:St} {d:Option Nat} {T:Nat} {pos:String} {eU:Array Edge} (g:Nat) (args:Array Operand) (tQ:Array Nat) (h:(g == 215 || g == 226 || g == 227 || g == 229 || g == 228 || g == 230 || g == 231 || g == 210 || g == 81)=true) :
 cI Tryz.prog call ops ⟨d,.call ⟨.value (.func g),args,tQ⟩,T,pos,eU,none⟩ st=cT (lQ call g (args.toList.map st.ev) st d) fun e=>some (e.apply st):=aAR g args tQ (A9 h)
theorem aBz {call:Nat→List AV→Option AV} {ops:Array Oper} {st:St} {d:Option Nat} {T:Nat} {pos:String} {eU:Array Edge} (g:Nat) (args:Array Operand) (tQ:Array Nat) (h:(g == 217 || g == 222 || g == 235 || g == 220 || g == 101 || g == 57 || g == 32 || (g == 43 && d == some 72))=true) :
 cI Tryz.prog call ops ⟨d,.call ⟨.value (.func g),args,tQ⟩,T,pos,eU,none⟩ st=cT (fG call g (args.toList.map st.ev) st d) fun e=>some (e.apply st):=by
 refine XK g args tQ ?_ (aBq h)
 simp only[Bool.or_eq_true,Bool.and_eq_true,beq_iff_eq] at h;rcases h with ((((((h|h)|h)|h)|h)|h)|h)|⟨h,_⟩<;>(subst h;rfl)
theorem aO1 {S d:Nat} (h:((S == 54 && (d == 36 || d == 42 || d == 26)) || (S == 45 && (d == 84 || d == 91)))=false):Ext.va S d=false:=A7 (by
 simp only[Bool.or_eq_false_iff,Bool.and_eq_false_iff] at h ⊢;exact h.1.imp id fun h=>h.2)
theorem aO2 {S d:Nat} (h:((S == 54 && (d == 36 || d == 42 || d == 26)) || (S == 45 && (d == 84 || d == 91)))=false):Ext.pa S d=false:=aEe (by
 simp only[Bool.or_eq_false_iff,Bool.and_eq_false_iff] at h ⊢;exact⟨h.1.imp id fun h=>h.1,h.2⟩)
theorem aBA {S d:Nat} (h:((S == 54 && (d == 36 || d == 42)) || (S == 45 && (d == 84 || d == 91)))=true):Ext.va S d=false:=A7 (by
 by_cases h2:d=26
 ·subst h2;simp at h
 ·simp[h2])
theorem aEF {call:Nat→List AV→Option AV} {ops:Array Oper} {st:St} {T:Nat} {pos:String} {eU:Array Edge} (s x:Operand) (S d:Nat) (h:((S == 54 && (d == 36 || d == 42 || d == 26)) || (S == 45 && (d == 84 || d == 91)))=false):cI Tryz.prog call ops ⟨some d,.call ⟨.builtin .append,#[s,x],#[S,S]⟩,T,pos,eU,none⟩ st=cT (dJ Tryz.prog st S (st.ev s) (st.ev x)) fun ur =>
 some (((match ur.1 with|some p=>st.jB p.1 p.2 none|none=>st).new d ur.2).put (some d) (.own d (st.aT d))):=XM s x S d (aO1 h) (aO2 h)
theorem iN {call:Nat→List AV→Option AV} {ops:Array Oper} {st:St} {T:Nat} {pos:String} {eU:Array Edge} (s x:Operand) (S d:Nat) (h:((S == 54 && (d == 36 || d == 42)) || (S == 45 && (d == 84 || d == 91)))=true) (hn:¬(st.ev s=.v (.slice none 0 0)∧(aX st (st.ev x)).map Prod.fst=some 0)):cI Tryz.prog call ops ⟨some d,.call ⟨.builtin .append,#[s,x],#[S,S]⟩,T,pos,eU,none⟩ st=cT (dJ Tryz.prog st S (st.ev s) (st.ev x)) fun ur =>
 some (((match ur.1 with|some p=>st.jB p.1 p.2 none|none=>st).new d ur.2).put (some d) (.own d (st.aT d))):=aAT s x S d (aBA h) (A8 h) hn
theorem iM {call:Nat→List AV→Option AV} {ops:Array Oper} {st:St} {T:Nat} {pos:String} {eU:Array Edge} (s x:Operand) (S d:Nat) (h:((S == 54 && (d == 36 || d == 42)) || (S == 45 && (d == 84 || d == 91)))=true) (hi:(dW Tryz.prog S).isSome=true) (h1:st.ev s=.v (.slice none 0 0)) (h2:(aX st (st.ev x)).map Prod.fst=some 0):cI Tryz.prog call ops ⟨some d,.call ⟨.builtin .append,#[s,x],#[S,S]⟩,T,pos,eU,none⟩ st=some (st.put (some d) (.v (.slice none 0 0))):=aAU s x S d (aBA h) (A8 h) hi h1 h2
end Tryz
end Go.Ab
end
section
namespace Go.Ab
open Classical
noncomputable def uD (call:Nat→List AV→Option AV) (g:Nat) (xs:Option (List AV)) (fl:Bool) (st:St) (d:Option Nat):Option rX :=
 cT xs fun xs=>cT (call g xs) fun r=>if fl=true∨Wq r then jC r st d else none
theorem Dk {st:St}:∀(args:List AV),(∀x∈args,Flat x)→cP (args.map (fO st))=some args
 | [],_=>rfl
 | x :: xs,h=>by
   simp only[List.map_cons,eC (h x (by simp)),cP,Dk xs fun y hy=>h y (by simp[hy]),Option.map_some]
theorem jU (call:Nat→List AV→Option AV) (g:Nat) (args:List AV) (st:St) (d:Option Nat):aM call g args st d=uD call g (cP (args.map (fO st))) (decide (∀x∈args,Flat x)) st d:=by
 unfold aM uD;by_cases h:∀x∈args,Flat x
 ·rw[if_pos h,Dk args h];have hd:decide (∀x∈args,Flat x)=true:=decide_eq_true h
  rw[hd];simp only[cO,true_or,if_true]
 ·rw[if_neg h];cases cP (args.map (fO st)) with
  | none=>rfl
  | some xs =>
    have hd:decide (∀x∈args,Flat x)=false:=decide_eq_false h
    rw[hd];simp only[cO,Bool.false_eq_true,false_or]
theorem D7 {call:Nat→List AV→Option AV} {g:Nat} {xs:List AV} {r:AV} {fl:Bool} {st:St} {d:Option Nat} (h:call g xs=some r) (hr:Wq r) (hf:Flat r):uD call g (some xs) fl st d=some { dst:=d,val:=r }:=by
 unfold uD;simp only[cO,h,hr,or_true,if_true,jC,if_pos hf]
theorem Rc {call:Nat→List AV→Option AV} {g:Nat} {xs:List AV} {b:Bool} {fl:Bool} {st:St} {d:Option Nat} (h:call g xs=some (.v (.bool b))):uD call g (some xs) fl st d=some { dst:=d,val:=.v (.bool b)}:=D7 h (.v _) (.v _)
theorem Tr {call:Nat→List AV→Option AV} {g:Nat} {xs:List AV} {k:IntKind} {b:Int} {fl:Bool} {st:St} {d:Option Nat} (h:call g xs=some (.v (.int k b))):uD call g (some xs) fl st d=some { dst:=d,val:=.v (.int k b)}:=D7 h (.v _) (.v _)
theorem T9 {call:Nat→List AV→Option AV} {g:Nat} {xs:List AV} {e sz n:Nat} {cs:List AV} {fl:Bool} {st:St} {d:Nat} (h:call g xs=some (.uniq e sz n cs)) (hr:∀c∈cs,iE c):uD call g (some xs) fl st (some d)=some { dst:=some d,val:=.own d (st.aT d),new:=some (d,[.row e sz n cs])}:=by
 have ZS:Wq (.uniq e sz n cs):=hr
 have hnf:¬Flat (.uniq e sz n cs):=by intro h;cases h
 unfold uD;simp only[cO,h,ZS,or_true,if_true,jC,if_neg hnf];rfl
noncomputable def jG (o:Option oB):Option AV :=
 match o with
 | some (.row _ _ n cs)=>if ∀c∈cs,Flat c then some (.sl n cs) else none
 | _=>none
theorem vT (st:St) (s g:Nat):fO st (.own s g)=jG (st.heap s g):=by
 unfold fO cS jG;rw[if_neg (nA s g)];simp only[if_neg (nA s g)];cases st.heap s g with
 | none=>rfl
 | some e=>cases e<;>rfl
theorem M3 (e sz n:Nat) (l:List Int):jG (some (.row e sz n (aK l)))=some (.sl n (aK l)):=by
 unfold jG;simp only;rw[if_pos (gI l)]
theorem M4 (e sz n:Nat) (l:List Int):jG (some (.row e sz n (bK l)))=some (.sl n (bK l)):=by
 unfold jG;simp only;rw[if_pos (iH l)]
theorem YV (e sz n:Nat) (l:List Node):jG (some (.row e sz n (bZ l)))=some (.sl n (bZ l)):=by
 unfold jG;simp only;rw[if_pos (iF l)]
theorem SN (e sz:Nat) (x:Node):jG (some (.row e sz 1 (fK x)))=some (.sl [x].length (bZ [x])):=by
 unfold jG;simp only;rw[if_pos (Lq x)];simp[bZ]
theorem Lu (st:St) (x:Value):fO st (.v x)=some (.v x):=eC (.v x)
theorem Jp (st:St) (t:Tree):fO st (.agg (cJ t))=some (.agg (cJ t)):=eC (lX t)
theorem Rr (st:St) (t:cN):fO st (.agg (bF t))=some (.agg (bF t)):=eC (qU t)
theorem Lz (st:St) (t:Block):fO st (.agg (aP t))=some (.agg (aP t)):=eC (qL t)
theorem aBB (st:St) (n:Nat) (l:List Int):fO st (.sl n (aK l))=some (.sl n (aK l)):=eC (.sl _ _ (gI l))
theorem aBC (st:St) (n:Nat) (l:List Int):fO st (.sl n (bK l))=some (.sl n (bK l)):=eC (.sl _ _ (iH l))
theorem aEG (st:St):fO st (.agg [.v (.slice none 0 0)])=some (.agg [.v (.slice none 0 0)]):=eC (.agg _ (by simp;exact .v _))
theorem fR {α:Type}:cP ([]:List (Option α))=some []:=rfl
theorem bO {α:Type} (x:α) (r:List (Option α)):cP (some x :: r)=(cP r).map (x :: ·):=rfl
theorem aEH (x:Int):yJ 3 1 8 (some (1,[.v (.int .i64 x)]))=some (none,.row 3 1 [x].length (aK [x])):=by
 simp[yJ,maxLen];rfl
theorem aEI (l:List Int) (x:Int) (s g:Nat) (h:(l.length:Int)<1000000):xY 3 1 8 (some (.row 3 1 l.length (aK l))) s g (some (1,[.v (.int .i64 x)]))=some (some (s,g),.row 3 1 (l++[x]).length (aK (l++[x]))):=by
 simp only[xY];rw[if_pos ⟨by simp,by simp,by simp,by omega,by simp only[maxLen];omega⟩,L9]
 simp[aK,qV]
theorem aBD (x:Node):yJ 76 240 352 (some (1,fK x))=some (none,.row 76 240 [x].length (bZ [x])):=by
 simp[yJ,maxLen,bZ]
theorem aBE (l:List Node) (x:Node) (s g:Nat) (h:(l.length:Int)<1000000):xY 76 240 352 (some (.row 76 240 l.length (bZ l))) s g (some (1,fK x))=some (some (s,g),.row 76 240 (l++[x]).length (bZ (l++[x]))):=by
 simp only[xY];rw[if_pos ⟨by simp,by simp,by simp,by omega,by simp only[maxLen];omega⟩,BT]
 simp[bZ]
theorem aBF (l:List Node) (h:(l.length:Int)<1000000):yJ 76 240 352 (some (l.length,bZ l))=some (none,.row 76 240 l.length (bZ l)):=by
 simp only[yJ];rw[if_pos (by refine⟨by simp, ?_, ?_⟩<;>(try simp only[maxLen])<;>omega)]
theorem aBG (l:List Node) (h:(l.length:Int)<1000000):acE 76 240 352 0 [] (some (l.length,bZ l))=some (none,.row 76 240 l.length (bZ l)):=by
 simp only[acE];rw[if_pos ⟨by simp,by simp,by simp,by omega,by simp only[maxLen];omega⟩]
 simp
theorem aBH (l:List Node) (x:Node) (h:(l.length:Int)<1000000):acE 76 240 352 l.length (bZ l) (some (1,fK x))=some (none,.row 76 240 (l++[x]).length (bZ (l++[x]))):=by
 simp only[acE];rw[if_pos (by refine⟨by simp,by simp,.inr (by omega), ?_, ?_⟩<;>(try simp only[maxLen])<;>omega),BT]
 simp[bZ]
def onI {α:Type} (x:AV) (k:Int→Option α):Option α :=
 match x with
 | .v (.int .i64 v)=>k v
 | _=>none
def aGl {α:Type} (z:Nat) (x:AV) (k:List AV→Option α):Option α :=
 match x with
 | .agg cs=>if cs.length=z then k cs else none
 | _=>none
@[congr] theorem aKj {α:Type} {x y:AV} {k:Int→Option α} (h:x=y):onI x k=onI y k:=by rw[h]
@[congr] theorem aGm {α:Type} {z:Nat} {x y:AV} {k:List AV→Option α} (h:x=y):aGl z x k=aGl z y k:=by rw[h]
def Lo {α:Type} (x:AV) (k:Int→Option α) (fb:Option α):Option α :=
 match x with
 | .v (.int .i64 v)=>k v
 | _=>fb
def SO {α:Type} (z:Nat) (x:AV) (k:List AV→Option α) (fb:Option α):Option α :=
 match x with
 | .agg cs=>if cs.length=z then k cs else fb
 | _=>fb
def SP {α:Type} (x:AV) (k:Nat→List AV→Option α) (fb:Option α):Option α :=
 match x with
 | .rW g cs=>k g cs
 | _=>fb
theorem aEJ {α:Type} (v:Int) (k:Int→Option α) (fb:Option α):Lo (.v (.int .i64 v)) k fb=k v:=rfl
theorem M5 {α:Type} (z:Nat) (cs:List AV) (k:List AV→Option α) (fb:Option α) (h:cs.length=z):SO z (.agg cs) k fb=k cs:=if_pos h
theorem M6 {α:Type} (g:Nat) (cs:List AV) (k:Nat→List AV→Option α) (fb:Option α):SP (.rW g cs) k fb=k g cs:=rfl
@[congr] theorem aKk {α:Type} {x y:AV} {k:Int→Option α} {fb:Option α} (h:x=y):Lo x k fb=Lo y k fb:=by rw[h]
@[congr] theorem aGn {α:Type} {z:Nat} {x y:AV} {k:List AV→Option α} {fb:Option α} (h:x=y):SO z x k fb=SO z y k fb:=by rw[h]
@[congr] theorem aGo {α:Type} {x y:AV} {k:Nat→List AV→Option α} {fb:Option α} (h:x=y):SP x k fb=SP y k fb:=by rw[h]
namespace Tryz
open Go.Proofs
theorem M7 (st:St) (x:AV):dJ Tryz.prog st 22 (.v (.slice none 0 0)) x=yJ 3 1 8 (aX st x):=uV Ln x
theorem M8 (st:St) (s g:Nat) (x:AV):dJ Tryz.prog st 22 (.own s g) x=xY 3 1 8 (st.heap s g) s g (aX st x):=sW Ln s g x
theorem M9 (st:St) (x:AV):dJ Tryz.prog st 48 (.v (.slice none 0 0)) x=yJ 76 240 352 (aX st x):=uV SK x
theorem N0 (st:St) (s g:Nat) (x:AV):dJ Tryz.prog st 48 (.own s g) x=xY 76 240 352 (st.heap s g) s g (aX st x):=sW SK s g x
theorem aBI (st:St) (n:Nat) (cs:List AV) (x:AV):dJ Tryz.prog st 48 (.cl n cs) x=acE 76 240 352 n cs (aX st x):=aHZ SK n cs x
theorem N1 (st:St) (s g:Nat) (k:IntKind) (i:Int):bH Tryz.prog st 22 (.own s g) (.v (.int k i))=LX 3 1 (st.heap s g) s g i:=by
 simp only[bH,aEB,Ln,LX];cases st.heap s g with
 | none=>rfl
 | some e=>cases e<;>rfl
theorem N2 (st:St) (s g:Nat) (k:IntKind) (i:Int):bH Tryz.prog st 48 (.own s g) (.v (.int k i))=LX 76 240 (st.heap s g) s g i:=by
 simp only[bH,aJp,SK,LX];cases st.heap s g with
 | none=>rfl
 | some e=>cases e<;>rfl
theorem aEK (l:List Int) (s g:Nat) (i:Int) (h0:0≤i) (h1:i<l.length):LX 3 1 (some (.row 3 1 l.length (aK l))) s g i=some (.ptr s g i.toNat):=by
 simp[LX,h0,h1]
theorem aBJ (l:List Node) (s g:Nat) (i:Int) (h0:0≤i) (h1:i<l.length):LX 76 240 (some (.row 76 240 l.length (bZ l))) s g i=some (.ptr s g (i.toNat * 240)):=by
 simp[LX,h0,h1]
theorem SQ (st:St) (s g:Nat):fO st (.agg [.own s g])=(jG (st.heap s g)).map fun y=>.agg [y]:=by
 have hn:¬Flat (.agg [.own s g]):=by intro h;cases h with|agg _ h=>exact nA s g (h _ (by simp))
 unfold fO jG;rw[if_neg hn];simp only[List.map_cons,List.map_nil];unfold cS;rw[if_neg (nA s g)];simp only
 cases st.heap s g with
 | none=>rfl
 | some e=>cases e with
   | row a b n cs =>
     by_cases h:∀c∈cs,Flat c
     ·simp only[if_pos h,cP,Option.map_some]
     ·simp only[if_neg h,cP,Option.map_none]
   | _=>rfl
theorem aJu (x:AV):rd [x] 0 1=[x]:=rfl
theorem aJv (x y:AV):dS [x] 0 [y] 1=[y]:=rfl
theorem aBK (x:AV) (t:Tree):dS [x] 0 (cJ t) 1=cJ t:=rfl
theorem aBL (x:AV) (t:Tree):dS (cJ t) 0 [x] 1=[x]:=rfl
theorem nX {l:List Int} {i:Int} (h0:0≤i) (h1:i<l.length):(aK l)[i.toNat]? = some (.v (.int .i64 (it l i))):=M0 h0 h1
def vow (o:Option oB):Option (Nat × List AV) :=
 match o with
 | some (.row _ _ n cs)=>some (n,cs)
 | _=>none
theorem aEL (e sz n:Nat) (cs:List AV):vow (some (.row e sz n cs))=some (n,cs):=rfl
theorem N3 (st:St) (s g:Nat):aX st (.own s g)=vow (st.heap s g):=by
 simp only[aX,vow];cases st.heap s g with
 | none=>rfl
 | some o=>cases o<;>rfl
section
variable {call:Nat→List AV→Option AV} {ops:Array Oper} {st:St} {T:Nat} {pos:String} {eU:Array Edge}
theorem aEM (d:Nat) (x:Operand) {v:Int} (h:st.ev x=.v (.int .i64 v)):cI Tryz.prog call ops ⟨some d,.buildSlice 22 1 #[(0,x)],T,pos,eU,none⟩ st=some ((st.new d (.row 3 1 1 [.v (.int .i64 v)])).put (some d) (.own d (st.aT d))):=by
 rw[kZ];simp[Ln,ze3,cT,h,AV.jD,Value.oneCell',gS,AV.cells]
theorem aEN (d:Nat) (x:Operand) {cs:List AV} (h:st.ev x=.agg cs) (hl:cs.length=240):cI Tryz.prog call ops ⟨some d,.buildSlice 48 1 #[(0,x)],T,pos,eU,none⟩ st=some ((st.new d (.row 76 240 1 cs)).put (some d) (.own d (st.aT d))):=by
 rw[kZ];have hz:(AN.map AV.v).length=240:=by rw[JZ];simp
 simp only[SK,aIv,cT,List.toList_toArray,List.all_cons,List.all_nil,h,AV.jD,Bool.and_self,List.map_cons,List.map_nil,gS,AV.cells,hl,Nat.zero_mul,Nat.zero_add,true_and,List.take_zero,List.nil_append];have h2:((List.range 1).flatMap fun _=>AN.map AV.v)=AN.map AV.v:=by simp[List.range,List.range.loop]
 rw[h2,if_pos (by simp),if_pos (by rw[hz];exact Nat.le_refl _)]
 rw[List.drop_of_length_le (by rw[hz];exact Nat.le_refl _),List.append_nil]
theorem aBM (d:Nat) (x:Operand):cI Tryz.prog call ops ⟨some d,.buildSlice 22 1 #[(0,x)],T,pos,eU,none⟩ st =
 Lo (st.ev x) (fun v=>some ((st.new d (.row 3 1 1 [.v (.int .i64 v)])).put (some d) (.own d (st.aT d)))) (cI Tryz.prog call ops ⟨some d,.buildSlice 22 1 #[(0,x)],T,pos,eU,none⟩ st):=by
 unfold Lo;split
 ·rename_i v h;exact aEM d x h
 ·rfl
theorem N4 (d:Nat) (x y z:Operand) {a b c:Int} (h1:st.ev x=.v (.int .i64 a)) (h2:st.ev y=.v (.int .i64 b)) (h3:st.ev z=.v (.int .i64 c)):cI Tryz.prog call ops ⟨some d,.buildSlice 22 3 #[(0,x),(1,y),(2,z)],T,pos,eU,none⟩ st =
 some ((st.new d (.row 3 1 [a,b,c].length (aK [a,b,c]))).put (some d) (.own d (st.aT d))):=by
 rw[kZ];simp[Ln,ze3,cT,h1,h2,h3,AV.jD,Value.oneCell',gS,AV.cells,List.range,List.range.loop,aK,qV]
theorem YW (d:Nat) (x y z:Operand):cI Tryz.prog call ops ⟨some d,.buildSlice 22 3 #[(0,x),(1,y),(2,z)],T,pos,eU,none⟩ st =
 Lo (st.ev x) (fun a=>Lo (st.ev y) (fun b=>Lo (st.ev z) (fun c=>some ((st.new d (.row 3 1 [a,b,c].length (aK [a,b,c]))).put (some d) (.own d (st.aT d)))) (cI Tryz.prog call ops ⟨some d,.buildSlice 22 3 #[(0,x),(1,y),(2,z)],T,pos,eU,none⟩ st))
  (cI Tryz.prog call ops ⟨some d,.buildSlice 22 3 #[(0,x),(1,y),(2,z)],T,pos,eU,none⟩ st)) (cI Tryz.prog call ops ⟨some d,.buildSlice 22 3 #[(0,x),(1,y),(2,z)],T,pos,eU,none⟩ st):=by
 unfold Lo;split
 ·rename_i a h1;try dsimp only
  split
  ·rename_i b h2;try dsimp only
   split
   ·rename_i c h3;exact N4 d x y z h1 h2 h3
   ·rfl
  ·rfl
 ·rfl
theorem aBN (d:Nat) (x:Operand):cI Tryz.prog call ops ⟨some d,.buildSlice 48 1 #[(0,x)],T,pos,eU,none⟩ st =
 SO 240 (st.ev x) (fun cs=>some ((st.new d (.row 76 240 1 cs)).put (some d) (.own d (st.aT d)))) (cI Tryz.prog call ops ⟨some d,.buildSlice 48 1 #[(0,x)],T,pos,eU,none⟩ st):=by
 unfold SO;split
 ·rename_i cs h;split
  ·rename_i hl;exact aEN d x h hl
  ·rfl
 ·rfl
theorem EM (S d:Nat) (l c:Operand):cI Tryz.prog call ops ⟨some d,.makeSlice S l c,T,pos,eU,none⟩ st =
 Lo (st.ev l) (fun n=>Lo (st.ev c) (fun m=>if 0≤n∧n=m then (cT (dW Tryz.prog S) fun t=>cT (eI Tryz.prog t.1) fun z =>
  if n * t.2.2≤140737488355328∧n≤maxLen then some ((st.new d (.row t.1 t.2.1 n.toNat ((List.range n.toNat).flatMap fun _=>z.map .v))).put (some d) (.own d (st.aT d))) else none)
  else cI Tryz.prog call ops ⟨some d,.makeSlice S l c,T,pos,eU,none⟩ st) (cI Tryz.prog call ops ⟨some d,.makeSlice S l c,T,pos,eU,none⟩ st)) (cI Tryz.prog call ops ⟨some d,.makeSlice S l c,T,pos,eU,none⟩ st):=by
 unfold Lo;split
 ·rename_i n hl;split
  ·rename_i m hc;dsimp only
   split
   ·rename_i hnm;obtain⟨h0,rfl⟩:=hnm
    have hn:n=(n.toNat:Int):=by omega
    rw[JR S d l c (n:=n.toNat) (by rw[hl,← hn]) (by rw[hc,← hn]),← hn]
   ·rfl
  ·rfl
 ·rfl
theorem N5 (t:Nat) (args:Array Operand) (tQ:Array Nat) (d:Option Nat):cI Tryz.prog call ops ⟨d,.call ⟨.value (.tmp t),args,tQ⟩,T,pos,eU,none⟩ st =
 SP (st.env t) (fun g mG=>cT (aM call g (args.toList.map st.ev++mG) st d) fun e=>some (e.apply st)) (cI Tryz.prog call ops ⟨d,.call ⟨.value (.tmp t),args,tQ⟩,T,pos,eU,none⟩ st):=by
 unfold SP;split
 ·rename_i g mG h;exact aAS t args tQ h
 ·rfl
end
end Tryz
end Go.Ab
end
namespace Go.Ab
open Classical
theorem aEO (b:Bool):unA .not (.v (.bool b))=some (.v (.bool (!b))):=rfl
theorem aEP (k:IntKind) (n:Int):unA .neg (.v (.int k n))=some (.v (.int k (k.wrap (0-n)))):=rfl
theorem aEQ (k:IntKind) (n:Int):unA .xor (.v (.int k n))=some (.v (.int k (k.wrap (BitVec.ofInt k.bits (if k.signed then -1 else k.max) ^^^ BitVec.ofInt k.bits n).toNat))):=rfl
def aBO (a b:Option IntKind) (n:Int):Option AV :=
 match a,b with
 | some k,some _=>some (.v (.int k (k.wrap n)))
 | _,_=>none
theorem YX (k k':IntKind) (n:Int):aBO (some k) (some k') n=some (.v (.int k (k.wrap n))):=rfl
theorem N6 (P:Program) (s d:Nat) (k:IntKind) (n:Int):QF P s d (.v (.int k n))=aBO (intKind P d) (intKind P s) n:=by
 simp only[QF,aBO];cases intKind P d with
 | none=>rfl
 | some a=>cases intKind P s<;>rfl
theorem aER (s g o k:Nat):vK (.ptr s g o) k=some (.ptr s g (o+k)):=rfl
theorem aJw (cs:List AV) (o k:Nat):vK (.ip cs o) k=if o+k≤cs.length then some (.ip cs (o+k)) else none:=rfl
def rE (P:Program) (T:Nat) (e:Option oB) (o:Nat):Option AV :=
 match e with
 | some (.cells cs)=>fB P T cs o
 | some (.row _ _ _ cs)=>fB P T cs o
 | _=>none
theorem SR (P:Program) (T o:Nat) (cs:List AV):rE P T (some (.cells cs)) o=fB P T cs o:=rfl
theorem N7 (P:Program) (T o e sz n:Nat) (cs:List AV):rE P T (some (.row e sz n cs)) o=fB P T cs o:=rfl
theorem aES (P:Program) (st:St) (T o:Nat) (cs:List AV):Gc P st T (.ip cs o)=fB P T cs o:=rfl
theorem aBP (P:Program) (st:St) (T s g o:Nat):Gc P st T (.ptr s g o)=rE P T (st.heap s g) o:=by
 simp only[Gc,rE];cases st.heap s g with
 | none=>rfl
 | some e=>cases e<;>rfl
theorem aJx (x:Value):(AV.v x).jD=x.oneCell':=rfl
theorem aBQ (cs:List AV):(AV.agg cs).jD=true:=rfl
theorem aET (n:Nat) (cs:List AV):(AV.sl n cs).jD=true:=rfl
theorem aEU (n:Nat) (cs:List AV):(AV.cl n cs).jD=true:=rfl
theorem aEV (n:Nat) (cs:List AV):(AV.ip cs n).jD=true:=rfl
theorem aBR (s g o:Nat):(AV.ptr s g o).jD=true:=rfl
theorem aBS (s g:Nat):(AV.own s g).jD=true:=rfl
theorem aEW (s g:Nat):(AV.mp s g).jD=true:=rfl
theorem aBT (f:Nat) (cs:List AV):(AV.rW f cs).jD=true:=rfl
theorem aO3 (x:Value):(AV.v x).cells=[.v x]:=rfl
theorem aEX (cs:List AV):(AV.agg cs).cells=cs:=rfl
theorem aJy (n:Nat) (cs:List AV):(AV.sl n cs).cells=[.sl n cs]:=rfl
theorem aJz (n:Nat) (cs:List AV):(AV.cl n cs).cells=[.cl n cs]:=rfl
theorem aJA (n:Nat) (cs:List AV):(AV.ip cs n).cells=[.ip cs n]:=rfl
theorem aEY (s g o:Nat):(AV.ptr s g o).cells=[.ptr s g o]:=rfl
theorem aEZ (s g:Nat):(AV.own s g).cells=[.own s g]:=rfl
theorem aJB (s g:Nat):(AV.mp s g).cells=[.mp s g]:=rfl
theorem aE0 (f:Nat) (cs:List AV):(AV.rW f cs).cells=[.rW f cs]:=rfl
theorem aE1 (k:IntKind) (n:Int):(Value.int k n).oneCell'=true:=rfl
theorem aBU (b:Bool):(Value.bool b).oneCell'=true:=rfl
theorem N8 (a:Option Addr) (n m:Nat):(Value.slice a n m).oneCell'=true:=rfl
theorem YY (id:Nat):Ex.normal.inBlock id=.normal:=rfl
theorem aE2 (id:Nat):Ex.ret.inBlock id=.ret:=rfl
theorem aBV (id i:Nat):(Ex.exit i).inBlock id=if i=id then .normal else .exit i:=rfl
theorem aE3 (l:List Oper) (j:Nat):A5 l.toArray j=(l[j]?).bind (·.dst):=by simp[A5]
theorem gei (a b:Int):(a≥b)=(b≤a):=rfl
theorem gti (a b:Int):(a > b)=(b<a):=rfl
theorem aWc (a b:Nat):(a≥b)=(b≤a):=rfl
theorem gtn (a b:Nat):(a > b)=(b<a):=rfl
end Go.Ab
section
namespace Go.Ab
open Classical
def cU8 (x:Int):List AV:=[.v (.int .u8 x)]
theorem aE4 (x:Int):(cU8 x).length=1:=rfl
theorem aBW (s:Int):∀x∈cU8 s,Flat x:=by intro x hx;simp[cU8] at hx;subst hx;exact .v _
def kI (l:List Int):List AV:=l.flatMap cU8
theorem vV (l:List Int):∀x∈kI l,Flat x:=by
 intro x hx;obtain⟨y,_,hy⟩:=List.mem_flatMap.1 hx
 exact aBW y x hy
section
variable {α:Type} {c:α→List AV} {sz:Nat}
theorem iL (hc:∀x,(c x).length=sz) (l:List α):(l.flatMap c).length=l.length * sz:=by
 induction l with
 | nil=>simp
 | cons x l ih=>simp only[List.flatMap_cons,List.length_append,hc,List.length_cons,ih];rw[Nat.succ_mul];omega
theorem wI (hc:∀x,(c x).length=sz):∀(l:List α) (k:Nat),(l.flatMap c).take (k * sz)=(l.take k).flatMap c
 | [],k=>by simp
 | x :: l,0=>by simp
 | x :: l,k+1=>by
   simp only[List.flatMap_cons,List.take_succ_cons];rw[List.take_append,List.take_of_length_le (by rw[hc,Nat.succ_mul];omega),hc,show (k+1) * sz-sz=k * sz by rw[Nat.succ_mul];omega,wI hc l k]
theorem Bp (hc:∀x,(c x).length=sz):∀(l:List α) (k:Nat),(l.flatMap c).drop (k * sz)=(l.drop k).flatMap c
 | [],k=>by simp
 | x :: l,0=>by simp
 | x :: l,k+1=>by
   simp only[List.flatMap_cons,List.drop_succ_cons];rw[List.drop_append,List.drop_of_length_le (by rw[hc,Nat.succ_mul];omega),List.nil_append,hc,show (k+1) * sz-sz=k * sz by rw[Nat.succ_mul];omega,Bp hc l k]
theorem Jg (hc:∀x,(c x).length=sz) {z:α} {l:List α} {i:Int} (h0:0≤i) (h1:i<l.length):((l.flatMap c).drop (i.toNat * sz)).take sz=c (gx z l i):=by
 obtain⟨h,e⟩:=YF (z:=z) h0 h1
 rw[Bp hc,e];have h2:=wI hc (l.drop i.toNat) 1
 rw[Nat.one_mul] at h2;rw[h2];have h3:(l.drop i.toNat).take 1=[l[i.toNat]]:=by rw[List.take_one];simp[List.head?_drop,h]
 rw[h3];simp
theorem Tk (hc:∀x,(c x).length=sz) (l:List α) (k:Nat) (x:α) (h:k<l.length):dS (l.flatMap c) (k * sz) (c x) (k * sz+sz)=(l.set k x).flatMap c:=by
 unfold dS;rw[wI hc,show k * sz+sz=(k+1) * sz by rw[Nat.succ_mul],Bp hc,List.set_eq_take_append_cons_drop,if_pos h]
 simp
theorem GZ [Ext] {P:Program} {T e n k off:Nat} (hc:∀x,(c x).length=sz) {z:α} {l:List α} {i:Int} (h0:0≤i) (h1:i<l.length) (hk:sL P T=some k) (qC:0<k) (ho:off+k≤sz) :
 rE P T (some (.row e sz n (l.flatMap c))) (i.toNat * sz+off)=fB P T (c (gx z l i)) off:=by
 obtain⟨hn,_⟩:=YF (z:=z) h0 h1
 have hat:=Jg hc (z:=z) h0 h1
 have hle:i.toNat * sz+sz≤(l.flatMap c).length:=by
  rw[iL hc,← Nat.succ_mul];exact Nat.mul_le_mul_right _ hn
 have zK:=hc (gx z l i)
 simp only[rE,fB];unfold sL at hk;cases hi:fQ P T with
 | none=>rfl
 | some r =>
   obtain⟨b,k'⟩:=r
   rw[hi] at hk;simp only[Option.map_some,Option.some.injEq] at hk;subst hk;have hg:∀j,j<sz→(l.flatMap c)[i.toNat * sz+j]? = (c (gx z l i))[j]?:=fun j hj=>by
    rw[← hat,List.getElem?_take,if_pos hj,List.getElem?_drop]
   cases b with
   | true =>
     simp only
     have e1:rd (l.flatMap c) (i.toNat * sz+off) k'=rd (c (gx z l i)) off k':=by
      unfold rd;rw[← hat,List.drop_take,List.drop_drop,List.take_take,Nat.min_eq_left (by omega)]
     rw[e1];have l1:k'≤(l.flatMap c).length-(i.toNat * sz+off):=by omega
     have l2:k'≤(c (gx z l i)).length-off:=by omega
     rw[if_pos ⟨qC,l1⟩,if_pos ⟨qC,l2⟩]
   | false =>
     simp only
     exact hg off (by omega)
end
theorem aBX (ns:List Node):mV ⟨.sl ns.length (bZ ns)⟩=cJ ⟨ns⟩:=rfl
theorem BU (s:aL) (l:List Node):dS (aA s) 115 (cJ ⟨l⟩) 116=aA { s with tree:=⟨.sl l.length (bZ l)⟩}:=Cu s ⟨.sl l.length (bZ l)⟩
theorem BV (s:State) (l:List Node):dS (aQ s) 115 (cJ ⟨l⟩) 116=aQ { s with store:={ s.store with tree:=⟨.sl l.length (bZ l)⟩} }:=yC s ⟨.sl l.length (bZ l)⟩
namespace Tryz
open Go.Proofs
theorem N9 (st:St) (t:dP):fO st (.agg (aW t))=some (.agg (aW t)):=eC (.agg _ (bM t))
theorem LM (st:St) (t:Request):fO st (.agg (dF t))=some (.agg (dF t)):=eC (.agg _ (jQ t))
theorem SS (st:St) (s:aL) (h:Flat (.agg (aA s))):fO st (.agg (aA s))=some (.agg (aA s)):=eC h
theorem SU (st:St) (s:State) (h:Flat (.agg (aQ s))):fO st (.agg (aQ s))=some (.agg (aQ s)):=eC h
theorem aE5 (st:St) {l:List dP} {kk:IntKind} {i:Int} (h0:0≤i) (h1:i<l.length):bH Tryz.prog st 109 (.sl l.length (nP l)) (.v (.int kk i))=some (.ip (aW (gx fV l i)) 0):=by
 have hl:i.toNat<l.length:=by omega
 have h2:i.toNat * 33+33≤(l.flatMap aW).length:=by rw[iL bR,← Nat.succ_mul];exact Nat.mul_le_mul_right _ hl
 have h3:((nP l).drop (i.toNat * 33)).take 33=aW (gx fV l i):=Jg bR h0 h1
 have h4:(nP l).length=(l.flatMap aW).length:=rfl
 (simp only[bH,aBw,MZ,h0,h1,h4,h2,and_self,if_true,h3])<;>rfl
theorem HK {T n k off:Nat} {l:List dP} {i:Int} (h0:0≤i) (h1:i<l.length) (hk:sL Tryz.prog T=some k) (qC:0<k) (ho:off+k≤33):rE Tryz.prog T (some (.row 41 33 n (nP l))) (i.toNat * 33+off)=fB Tryz.prog T (aW (gx fV l i)) off:=GZ bR h0 h1 hk qC ho
theorem HL {T n k:Nat} {l:List dP} {i:Int} (h0:0≤i) (h1:i<l.length) (hk:sL Tryz.prog T=some k) (qC:0<k) (ho:k≤33):rE Tryz.prog T (some (.row 41 33 n (nP l))) (i.toNat * 33)=fB Tryz.prog T (aW (gx fV l i)) 0:=by
 have h:=HK (n:=n) (off:=0) h0 h1 hk qC (by omega)
 rw[Nat.add_zero] at h;exact h
theorem Of (l:List dP) (i:Int) (x:dP) (h:i.toNat<l.length):dS (nP l) (i.toNat * 33) (aW x) (i.toNat * 33+33)=nP (l.set i.toNat x):=by
 generalize i.toNat=k at h ⊢
 have:=Tk (c:=aW) (sz:=33) bR l k x h
 exact this
theorem SW (st:St) (o:Option (List kO)):aX st (ov dD o)=some ((ol o).length,dD (ol o)):=by cases o<;>rfl
theorem rC (o:Option (List kO)):Flat (ov dD o):=by
 cases o with
 | none=>exact .v _
 | some l=>exact .sl _ _ (nD l)
theorem aBY (st:St) {l:List kO} {kk:IntKind} {i:Int} (h0:0≤i) (h1:i<l.length):bH Tryz.prog st 37 (.sl l.length (dD l)) (.v (.int kk i))=some (.ip (jO (gx tN l i)) 0):=by
 have hl:i.toNat<l.length:=by omega
 have h2:i.toNat * 34+34≤(l.flatMap jO).length:=by rw[iL rV,← Nat.succ_mul];exact Nat.mul_le_mul_right _ hl
 have h3:((dD l).drop (i.toNat * 34)).take 34=jO (gx tN l i):=Jg rV h0 h1
 have h4:(dD l).length=(l.flatMap jO).length:=rfl
 (simp only[bH,aJn,L7,h0,h1,h4,h2,and_self,if_true,h3])<;>rfl
theorem aJC (st:St) {o:Option (List kO)} {kk:IntKind} {i:Int} (h0:0≤i) (h1:i<(ol o).length):bH Tryz.prog st 37 (ov dD o) (.v (.int kk i))=some (.ip (jO (gx tN (ol o) i)) 0):=by
 cases o with
 | none=>simp[ol] at h1;omega
 | some l=>exact aBY st h0 h1
theorem ND (l:List kO) (h:(l.length:Int)<1000000):yJ 100 34 48 (some (l.length,dD l))=some (none,.row 100 34 l.length (dD l)):=by
 unfold yJ;simp only
 rw[if_pos ⟨iL rV l,by omega,by simp only[maxLen];omega⟩]
theorem Wc (n:Nat) (l:List kO):jG (some (.row 100 34 n (dD l)))=some (.sl n (dD l)):=by
 unfold jG;simp only;rw[if_pos (nD l)]
theorem B9 {T n k off:Nat} {l:List kO} {i:Int} (h0:0≤i) (h1:i<l.length) (hk:sL Tryz.prog T=some k) (qC:0<k) (ho:off+k≤34):rE Tryz.prog T (some (.row 100 34 n (dD l))) (i.toNat * 34+off)=fB Tryz.prog T (jO (gx tN l i)) off:=GZ rV h0 h1 hk qC ho
theorem l9 {T n k:Nat} {l:List kO} {i:Int} (h0:0≤i) (h1:i<l.length) (hk:sL Tryz.prog T=some k) (qC:0<k) (ho:k≤34):rE Tryz.prog T (some (.row 100 34 n (dD l))) (i.toNat * 34)=fB Tryz.prog T (jO (gx tN l i)) 0:=by
 have h:=B9 (n:=n) (off:=0) h0 h1 hk qC (by omega)
 rw[Nat.add_zero] at h;exact h
theorem HO (l:List kO) (i:Int) (x:kO) (h:i.toNat<l.length):dS (dD l) (i.toNat * 34) (jO x) (i.toNat * 34+34)=dD (l.set i.toNat x):=by
 generalize i.toNat=k at h ⊢
 have:=Tk (c:=jO) (sz:=34) rV l k x h
 exact this
theorem YZ (st:St) (o:Option (List sG)):aX st (ov dR o)=some ((ol o).length,dR (ol o)):=by cases o<;>rfl
theorem Xu (o:Option (List sG)) (h:∀y∈ol o,Flat y.eZ):Flat (ov dR o):=by
 cases o with
 | none=>exact .v _
 | some l=>exact .sl _ _ (tD l h)
theorem aBZ (st:St) {l:List sG} {kk:IntKind} {i:Int} (h0:0≤i) (h1:i<l.length):bH Tryz.prog st 44 (.sl l.length (dR l)) (.v (.int kk i))=some (.ip (iD (gx Hw l i)) 0):=by
 have hl:i.toNat<l.length:=by omega
 have h2:i.toNat * 67+67≤(l.flatMap iD).length:=by rw[iL iJ,← Nat.succ_mul];exact Nat.mul_le_mul_right _ hl
 have h3:((dR l).drop (i.toNat * 67)).take 67=iD (gx Hw l i):=Jg iJ h0 h1
 have h4:(dR l).length=(l.flatMap iD).length:=rfl
 (simp only[bH,aOy,aBv,h0,h1,h4,h2,and_self,if_true,h3])<;>rfl
theorem aJD (st:St) {o:Option (List sG)} {kk:IntKind} {i:Int} (h0:0≤i) (h1:i<(ol o).length):bH Tryz.prog st 44 (ov dR o) (.v (.int kk i))=some (.ip (iD (gx Hw (ol o) i)) 0):=by
 cases o with
 | none=>simp[ol] at h1;omega
 | some l=>exact aBZ st h0 h1
theorem HZ (x:sG):yJ 87 67 104 (some (1,iD x))=some (none,.row 87 67 [x].length (dR [x])):=by
 simp[yJ,maxLen,dR]
theorem o0 (l:List sG) (h:(l.length:Int)<1000000):yJ 87 67 104 (some (l.length,dR l))=some (none,.row 87 67 l.length (dR l)):=by
 unfold yJ;simp only
 rw[if_pos ⟨iL iJ l,by omega,by simp only[maxLen];omega⟩]
theorem We (l:List sG) (x:sG) (s g:Nat) (h:(l.length:Int)<1000000):xY 87 67 104 (some (.row 87 67 l.length (dR l))) s g (some (1,iD x))=some (some (s,g),.row 87 67 (l++[x]).length (dR (l++[x]))):=by
 simp only[xY];rw[if_pos ⟨by simp,trivial,trivial,by omega,by simp only[maxLen];omega⟩]
 simp[dR,List.flatMap_append]
theorem W7 (n:Nat) (l:List sG) (h:∀y∈l,Flat y.eZ):jG (some (.row 87 67 n (dR l)))=some (.sl n (dR l)):=by
 unfold jG;simp only;rw[if_pos (tD l h)]
theorem LN (st:St) (o:Option (List Table)):aX st (ov aI o)=some ((ol o).length,aI (ol o)):=by cases o<;>rfl
theorem fZ (o:Option (List Table)) (h:∀y∈ol o,Flat y.iP):Flat (ov aI o):=by
 cases o with
 | none=>exact .v _
 | some l=>exact .sl _ _ (jY l h)
theorem nG (st:St) (o:Option (List Table)) (h:∀y∈ol o,Flat y.iP):fO st (ov aI o)=some (ov aI o):=eC (fZ o h)
theorem LP (o:Option (List Table)):(ov aI o).jD=true:=by cases o<;>rfl
theorem SX (o:Option (List Table)):(ov aI o).cells=[ov aI o]:=by cases o<;>rfl
theorem aB0 (st:St) {l:List Table} {kk:IntKind} {i:Int} (h0:0≤i) (h1:i<l.length):bH Tryz.prog st 51 (.sl l.length (aI l)) (.v (.int kk i))=some (.ip (cA (gx dZ l i)) 0):=by
 have hl:i.toNat<l.length:=by omega
 have h2:i.toNat * 34+34≤(l.flatMap cA).length:=by rw[iL eN,← Nat.succ_mul];exact Nat.mul_le_mul_right _ hl
 have h3:((aI l).drop (i.toNat * 34)).take 34=cA (gx dZ l i):=Jg eN h0 h1
 have h4:(aI l).length=(l.flatMap cA).length:=rfl
 (simp only[bH,aJq,Sa,h0,h1,h4,h2,and_self,if_true,h3])<;>rfl
theorem aJE (st:St) {o:Option (List Table)} {kk:IntKind} {i:Int} (h0:0≤i) (h1:i<(ol o).length):bH Tryz.prog st 51 (ov aI o) (.v (.int kk i))=some (.ip (cA (gx dZ (ol o) i)) 0):=by
 cases o with
 | none=>simp[ol] at h1;omega
 | some l=>exact aB0 st h0 h1
theorem GB (x:Table):yJ 118 34 64 (some (1,cA x))=some (none,.row 118 34 [x].length (aI [x])):=by
 simp[yJ,maxLen,aI]
theorem FO (l:List Table) (h:(l.length:Int)<1000000):yJ 118 34 64 (some (l.length,aI l))=some (none,.row 118 34 l.length (aI l)):=by
 unfold yJ;simp only
 rw[if_pos ⟨iL eN l,by omega,by simp only[maxLen];omega⟩]
theorem Rk (l:List Table) (x:Table) (s g:Nat) (h:(l.length:Int)<1000000):xY 118 34 64 (some (.row 118 34 l.length (aI l))) s g (some (1,cA x))=some (some (s,g),.row 118 34 (l++[x]).length (aI (l++[x]))):=by
 simp only[xY];rw[if_pos ⟨by simp,trivial,trivial,by omega,by simp only[maxLen];omega⟩]
 simp[aI,List.flatMap_append]
theorem FP (l m:List Table) (s g:Nat) (h:(l.length:Int)<1000000) (h2:(m.length:Int)<1000000):xY 118 34 64 (some (.row 118 34 l.length (aI l))) s g (some (m.length,aI m))=some (some (s,g),.row 118 34 (l++m).length (aI (l++m))):=by
 simp only[xY];rw[if_pos ⟨iL eN m,trivial,trivial,by omega,by simp only[maxLen];omega⟩]
 simp[aI,List.flatMap_append]
theorem Og (n:Nat) (l:List Table) (h:∀y∈l,Flat y.iP):jG (some (.row 118 34 n (aI l)))=some (.sl n (aI l)):=by
 unfold jG;simp only;rw[if_pos (jY l h)]
theorem SY {T n k off:Nat} {l:List Table} {i:Int} (h0:0≤i) (h1:i<l.length) (hk:sL Tryz.prog T=some k) (qC:0<k) (ho:off+k≤34):rE Tryz.prog T (some (.row 118 34 n (aI l))) (i.toNat * 34+off)=fB Tryz.prog T (cA (gx dZ l i)) off:=GZ eN h0 h1 hk qC ho
theorem OU {T n k:Nat} {l:List Table} {i:Int} (h0:0≤i) (h1:i<l.length) (hk:sL Tryz.prog T=some k) (qC:0<k) (ho:k≤34):rE Tryz.prog T (some (.row 118 34 n (aI l))) (i.toNat * 34)=fB Tryz.prog T (cA (gx dZ l i)) 0:=by
 have h:=SY (n:=n) (off:=0) h0 h1 hk qC (by omega)
 rw[Nat.add_zero] at h;exact h
theorem aB1 (l:List Table) (i:Int) (x:Table) (h:i.toNat<l.length):dS (aI l) (i.toNat * 34) (cA x) (i.toNat * 34+34)=aI (l.set i.toNat x):=by
 generalize i.toNat=k at h ⊢
 have:=Tk (c:=cA) (sz:=34) eN l k x h
 exact this
theorem aO4 (st:St) (o:Option (List Table)) (hi:Operand):dB Tryz.prog st 51 (ov aI o) none (some hi)=Lo (st.ev hi) (fun j=>if 0≤j∧j≤(ol o).length then some (ov aI (o.map (·.take j.toNat))) else dB Tryz.prog st 51 (ov aI o) none (some hi)) (dB Tryz.prog st 51 (ov aI o) none (some hi)):=by
 unfold Lo;split
 ·rename_i j hj;dsimp only
  split
  ·rename_i hc;obtain⟨j0,j1⟩:=hc
   cases o with
   | none =>
     have:j=0:=by simp[ol] at j1;omega
     subst this;simp[dB,Sa,ov,hj]
   | some l =>
     have j1:j≤l.length:=j1
     have hn:j.toNat≤l.length:=by omega
     simp only[dB,Sa,ov,hj];rw[if_pos ⟨Int.le_refl _,j0,j1,iL eN l⟩];simp only[Int.toNat_zero,Nat.zero_mul,List.drop_zero,Int.sub_zero,Option.map_some];rw[show (aI l).take (j.toNat * 34)=aI (l.take j.toNat) from wI eN l j.toNat,List.length_take,Nat.min_eq_left hn]
  ·rfl
 ·rfl
theorem aE6 (st:St) (o:Option (List Table)) (lo:Operand):dB Tryz.prog st 51 (ov aI o) (some lo) none=Lo (st.ev lo) (fun j=>if 0≤j∧j≤(ol o).length then some (ov aI (o.map (·.drop j.toNat))) else dB Tryz.prog st 51 (ov aI o) (some lo) none) (dB Tryz.prog st 51 (ov aI o) (some lo) none):=by
 unfold Lo;split
 ·rename_i j hj;dsimp only
  split
  ·rename_i hc;obtain⟨j0,j1⟩:=hc
   cases o with
   | none =>
     have:j=0:=by simp[ol] at j1;omega
     subst this;simp[dB,Sa,ov,hj]
   | some l =>
     have j1:j≤l.length:=j1
     have hn:j.toNat≤l.length:=by omega
     have e1:((l.length:Int)-j).toNat=l.length-j.toNat:=by omega
     simp only[dB,Sa,ov,hj];rw[if_pos ⟨j0,j1,Int.le_refl _,iL eN l⟩];simp only[Option.map_some,e1];rw[show (aI l).drop (j.toNat * 34)=aI (l.drop j.toNat) from Bp eN l j.toNat,List.length_drop,List.take_of_length_le];rw[show aI (l.drop j.toNat)=(l.drop j.toNat).flatMap cA from rfl,iL eN,List.length_drop];exact Nat.le_refl _
  ·rfl
 ·rfl
theorem LQ (st:St) (o:Option (List Block)):aX st (ov aG o)=some ((ol o).length,aG (ol o)):=by cases o<;>rfl
theorem uJ (o:Option (List Block)):Flat (ov aG o):=by
 cases o with
 | none=>exact .v _
 | some l=>exact .sl _ _ (lB l)
theorem aB2 (st:St) {l:List Block} {kk:IntKind} {i:Int} (h0:0≤i) (h1:i<l.length):bH Tryz.prog st 45 (.sl l.length (aG l)) (.v (.int kk i))=some (.ip (aP (gx eA l i)) 0):=by
 have hl:i.toNat<l.length:=by omega
 have h2:i.toNat * 238+238≤(l.flatMap aP).length:=by rw[iL bT,← Nat.succ_mul];exact Nat.mul_le_mul_right _ hl
 have h3:((aG l).drop (i.toNat * 238)).take 238=aP (gx eA l i):=Jg bT h0 h1
 have h4:(aG l).length=(l.flatMap aP).length:=rfl
 (simp only[bH,aJo,nU,h0,h1,h4,h2,and_self,if_true,h3])<;>rfl
theorem aJF (st:St) {o:Option (List Block)} {kk:IntKind} {i:Int} (h0:0≤i) (h1:i<(ol o).length):bH Tryz.prog st 45 (ov aG o) (.v (.int kk i))=some (.ip (aP (gx eA (ol o) i)) 0):=by
 cases o with
 | none=>simp[ol] at h1;omega
 | some l=>exact aB2 st h0 h1
theorem O0 (x:Block):yJ 74 238 336 (some (1,aP x))=some (none,.row 74 238 [x].length (aG [x])):=by
 simp[yJ,maxLen,aG]
theorem iV (l:List Block) (h:(l.length:Int)<1000000):yJ 74 238 336 (some (l.length,aG l))=some (none,.row 74 238 l.length (aG l)):=by
 unfold yJ;simp only
 rw[if_pos ⟨iL bT l,by omega,by simp only[maxLen];omega⟩]
theorem FZ (l:List Block) (x:Block) (s g:Nat) (h:(l.length:Int)<1000000):xY 74 238 336 (some (.row 74 238 l.length (aG l))) s g (some (1,aP x))=some (some (s,g),.row 74 238 (l++[x]).length (aG (l++[x]))):=by
 simp only[xY];rw[if_pos ⟨by simp,trivial,trivial,by omega,by simp only[maxLen];omega⟩]
 simp[aG,List.flatMap_append]
theorem rT (l m:List Block) (s g:Nat) (h:(l.length:Int)<1000000) (h2:(m.length:Int)<1000000):xY 74 238 336 (some (.row 74 238 l.length (aG l))) s g (some (m.length,aG m))=some (some (s,g),.row 74 238 (l++m).length (aG (l++m))):=by
 simp only[xY];rw[if_pos ⟨iL bT m,trivial,trivial,by omega,by simp only[maxLen];omega⟩]
 simp[aG,List.flatMap_append]
theorem uM (n:Nat) (l:List Block):jG (some (.row 74 238 n (aG l)))=some (.sl n (aG l)):=by
 unfold jG;simp only;rw[if_pos (lB l)]
theorem SZ {T n k off:Nat} {l:List Block} {i:Int} (h0:0≤i) (h1:i<l.length) (hk:sL Tryz.prog T=some k) (qC:0<k) (ho:off+k≤238):rE Tryz.prog T (some (.row 74 238 n (aG l))) (i.toNat * 238+off)=fB Tryz.prog T (aP (gx eA l i)) off:=GZ bT h0 h1 hk qC ho
theorem xA {T n k:Nat} {l:List Block} {i:Int} (h0:0≤i) (h1:i<l.length) (hk:sL Tryz.prog T=some k) (qC:0<k) (ho:k≤238):rE Tryz.prog T (some (.row 74 238 n (aG l))) (i.toNat * 238)=fB Tryz.prog T (aP (gx eA l i)) 0:=by
 have h:=SZ (n:=n) (off:=0) h0 h1 hk qC (by omega)
 rw[Nat.add_zero] at h;exact h
theorem aB3 (l:List Block) (i:Int) (x:Block) (h:i.toNat<l.length):dS (aG l) (i.toNat * 238) (aP x) (i.toNat * 238+238)=aG (l.set i.toNat x):=by
 generalize i.toNat=k at h ⊢
 have:=Tk (c:=aP) (sz:=238) bT l k x h
 exact this
theorem aO5 (st:St) (o:Option (List Block)) (hi:Operand):dB Tryz.prog st 45 (ov aG o) none (some hi)=Lo (st.ev hi) (fun j=>if 0≤j∧j≤(ol o).length then some (ov aG (o.map (·.take j.toNat))) else dB Tryz.prog st 45 (ov aG o) none (some hi)) (dB Tryz.prog st 45 (ov aG o) none (some hi)):=by
 unfold Lo;split
 ·rename_i j hj;dsimp only
  split
  ·rename_i hc;obtain⟨j0,j1⟩:=hc
   cases o with
   | none =>
     have:j=0:=by simp[ol] at j1;omega
     subst this;simp[dB,nU,ov,hj]
   | some l =>
     have j1:j≤l.length:=j1
     have hn:j.toNat≤l.length:=by omega
     simp only[dB,nU,ov,hj];rw[if_pos ⟨Int.le_refl _,j0,j1,iL bT l⟩];simp only[Int.toNat_zero,Nat.zero_mul,List.drop_zero,Int.sub_zero,Option.map_some];rw[show (aG l).take (j.toNat * 238)=aG (l.take j.toNat) from wI bT l j.toNat,List.length_take,Nat.min_eq_left hn]
  ·rfl
 ·rfl
theorem aE7 (st:St) (o:Option (List Block)) (lo:Operand):dB Tryz.prog st 45 (ov aG o) (some lo) none=Lo (st.ev lo) (fun j=>if 0≤j∧j≤(ol o).length then some (ov aG (o.map (·.drop j.toNat))) else dB Tryz.prog st 45 (ov aG o) (some lo) none) (dB Tryz.prog st 45 (ov aG o) (some lo) none):=by
 unfold Lo;split
 ·rename_i j hj;dsimp only
  split
  ·rename_i hc;obtain⟨j0,j1⟩:=hc
   cases o with
   | none =>
     have:j=0:=by simp[ol] at j1;omega
     subst this;simp[dB,nU,ov,hj]
   | some l =>
     have j1:j≤l.length:=j1
     have hn:j.toNat≤l.length:=by omega
     have e1:((l.length:Int)-j).toNat=l.length-j.toNat:=by omega
     simp only[dB,nU,ov,hj];rw[if_pos ⟨j0,j1,Int.le_refl _,iL bT l⟩];simp only[Option.map_some,e1];rw[show (aG l).drop (j.toNat * 238)=aG (l.drop j.toNat) from Bp bT l j.toNat,List.length_drop,List.take_of_length_le];rw[show aG (l.drop j.toNat)=(l.drop j.toNat).flatMap aP from rfl,iL bT,List.length_drop];exact Nat.le_refl _
  ·rfl
 ·rfl
theorem BW (st:St) (o:Option (List Request)):aX st (ov aF o)=some ((ol o).length,aF (ol o)):=by cases o<;>rfl
theorem iZ (o:Option (List Request)):Flat (ov aF o):=by
 cases o with
 | none=>exact .v _
 | some l=>exact .sl _ _ (uK l)
theorem aB4 (st:St) {l:List Request} {kk:IntKind} {i:Int} (h0:0≤i) (h1:i<l.length):bH Tryz.prog st 54 (.sl l.length (aF l)) (.v (.int kk i))=some (.ip (dF (gx cY l i)) 0):=by
 have hl:i.toNat<l.length:=by omega
 have h2:i.toNat * 35+35≤(l.flatMap dF).length:=by rw[iL gR,← Nat.succ_mul];exact Nat.mul_le_mul_right _ hl
 have h3:((aF l).drop (i.toNat * 35)).take 35=dF (gx cY l i):=Jg gR h0 h1
 have h4:(aF l).length=(l.flatMap dF).length:=rfl
 (simp only[bH,aJr,Rw,h0,h1,h4,h2,and_self,if_true,h3])<;>rfl
theorem aJG (st:St) {o:Option (List Request)} {kk:IntKind} {i:Int} (h0:0≤i) (h1:i<(ol o).length):bH Tryz.prog st 54 (ov aF o) (.v (.int kk i))=some (.ip (dF (gx cY (ol o) i)) 0):=by
 cases o with
 | none=>simp[ol] at h1;omega
 | some l=>exact aB4 st h0 h1
theorem TA (x:Request):yJ 63 35 56 (some (1,dF x))=some (none,.row 63 35 [x].length (aF [x])):=by
 simp[yJ,maxLen,aF]
theorem rG (l:List Request) (h:(l.length:Int)<1000000):yJ 63 35 56 (some (l.length,aF l))=some (none,.row 63 35 l.length (aF l)):=by
 unfold yJ;simp only
 rw[if_pos ⟨iL gR l,by omega,by simp only[maxLen];omega⟩]
theorem tP (l:List Request) (x:Request) (s g:Nat) (h:(l.length:Int)<1000000):xY 63 35 56 (some (.row 63 35 l.length (aF l))) s g (some (1,dF x))=some (some (s,g),.row 63 35 (l++[x]).length (aF (l++[x]))):=by
 simp only[xY];rw[if_pos ⟨by simp,trivial,trivial,by omega,by simp only[maxLen];omega⟩]
 simp[aF,List.flatMap_append]
theorem Ty (l m:List Request) (s g:Nat) (h:(l.length:Int)<1000000) (h2:(m.length:Int)<1000000):xY 63 35 56 (some (.row 63 35 l.length (aF l))) s g (some (m.length,aF m))=some (some (s,g),.row 63 35 (l++m).length (aF (l++m))):=by
 simp only[xY];rw[if_pos ⟨iL gR m,trivial,trivial,by omega,by simp only[maxLen];omega⟩]
 simp[aF,List.flatMap_append]
theorem pM (n:Nat) (l:List Request):jG (some (.row 63 35 n (aF l)))=some (.sl n (aF l)):=by
 unfold jG;simp only;rw[if_pos (uK l)]
theorem Fc {T n k off:Nat} {l:List Request} {i:Int} (h0:0≤i) (h1:i<l.length) (hk:sL Tryz.prog T=some k) (qC:0<k) (ho:off+k≤35):rE Tryz.prog T (some (.row 63 35 n (aF l))) (i.toNat * 35+off)=fB Tryz.prog T (dF (gx cY l i)) off:=GZ gR h0 h1 hk qC ho
theorem Aa {T n k:Nat} {l:List Request} {i:Int} (h0:0≤i) (h1:i<l.length) (hk:sL Tryz.prog T=some k) (qC:0<k) (ho:k≤35):rE Tryz.prog T (some (.row 63 35 n (aF l))) (i.toNat * 35)=fB Tryz.prog T (dF (gx cY l i)) 0:=by
 have h:=Fc (n:=n) (off:=0) h0 h1 hk qC (by omega)
 rw[Nat.add_zero] at h;exact h
theorem Me (l:List Request) (i:Int) (x:Request) (h:i.toNat<l.length):dS (aF l) (i.toNat * 35) (dF x) (i.toNat * 35+35)=aF (l.set i.toNat x):=by
 generalize i.toNat=k at h ⊢
 have:=Tk (c:=dF) (sz:=35) gR l k x h
 exact this
theorem aO6 (st:St) (o:Option (List Request)) (hi:Operand):dB Tryz.prog st 54 (ov aF o) none (some hi)=Lo (st.ev hi) (fun j=>if 0≤j∧j≤(ol o).length then some (ov aF (o.map (·.take j.toNat))) else dB Tryz.prog st 54 (ov aF o) none (some hi)) (dB Tryz.prog st 54 (ov aF o) none (some hi)):=by
 unfold Lo;split
 ·rename_i j hj;dsimp only
  split
  ·rename_i hc;obtain⟨j0,j1⟩:=hc
   cases o with
   | none =>
     have:j=0:=by simp[ol] at j1;omega
     subst this;simp[dB,Rw,ov,hj]
   | some l =>
     have j1:j≤l.length:=j1
     have hn:j.toNat≤l.length:=by omega
     simp only[dB,Rw,ov,hj];rw[if_pos ⟨Int.le_refl _,j0,j1,iL gR l⟩];simp only[Int.toNat_zero,Nat.zero_mul,List.drop_zero,Int.sub_zero,Option.map_some];rw[show (aF l).take (j.toNat * 35)=aF (l.take j.toNat) from wI gR l j.toNat,List.length_take,Nat.min_eq_left hn]
  ·rfl
 ·rfl
theorem aE8 (st:St) (o:Option (List Request)) (lo:Operand):dB Tryz.prog st 54 (ov aF o) (some lo) none=Lo (st.ev lo) (fun j=>if 0≤j∧j≤(ol o).length then some (ov aF (o.map (·.drop j.toNat))) else dB Tryz.prog st 54 (ov aF o) (some lo) none) (dB Tryz.prog st 54 (ov aF o) (some lo) none):=by
 unfold Lo;split
 ·rename_i j hj;dsimp only
  split
  ·rename_i hc;obtain⟨j0,j1⟩:=hc
   cases o with
   | none =>
     have:j=0:=by simp[ol] at j1;omega
     subst this;simp[dB,Rw,ov,hj]
   | some l =>
     have j1:j≤l.length:=j1
     have hn:j.toNat≤l.length:=by omega
     have e1:((l.length:Int)-j).toNat=l.length-j.toNat:=by omega
     simp only[dB,Rw,ov,hj];rw[if_pos ⟨j0,j1,Int.le_refl _,iL gR l⟩];simp only[Option.map_some,e1];rw[show (aF l).drop (j.toNat * 35)=aF (l.drop j.toNat) from Bp gR l j.toNat,List.length_drop,List.take_of_length_le];rw[show aF (l.drop j.toNat)=(l.drop j.toNat).flatMap dF from rfl,iL gR,List.length_drop];exact Nat.le_refl _
  ·rfl
 ·rfl
theorem TB (st:St) (o:Option (List cN)):aX st (ov gZ o)=some ((ol o).length,gZ (ol o)):=by cases o<;>rfl
theorem Hr (o:Option (List cN)):Flat (ov gZ o):=by
 cases o with
 | none=>exact .v _
 | some l=>exact .sl _ _ (Um l)
theorem aB5 (st:St) {l:List cN} {kk:IntKind} {i:Int} (h0:0≤i) (h1:i<l.length):bH Tryz.prog st 70 (.sl l.length (gZ l)) (.v (.int kk i))=some (.ip (bF (gx dV l i)) 0):=by
 have hl:i.toNat<l.length:=by omega
 have h2:i.toNat * 32+32≤(l.flatMap bF).length:=by rw[iL aO,← Nat.succ_mul];exact Nat.mul_le_mul_right _ hl
 have h3:((gZ l).drop (i.toNat * 32)).take 32=bF (gx dV l i):=Jg aO h0 h1
 have h4:(gZ l).length=(l.flatMap bF).length:=rfl
 (simp only[bH,aOz,aEC,h0,h1,h4,h2,and_self,if_true,h3])<;>rfl
theorem aJH (st:St) {o:Option (List cN)} {kk:IntKind} {i:Int} (h0:0≤i) (h1:i<(ol o).length):bH Tryz.prog st 70 (ov gZ o) (.v (.int kk i))=some (.ip (bF (gx dV (ol o) i)) 0):=by
 cases o with
 | none=>simp[ol] at h1;omega
 | some l=>exact aB5 st h0 h1
theorem oU (l:List cN) (x:cN) (s g:Nat) (h:(l.length:Int)<1000000):xY 27 32 32 (some (.row 27 32 l.length (gZ l))) s g (some (1,bF x))=some (some (s,g),.row 27 32 (l++[x]).length (gZ (l++[x]))):=by
 simp only[xY];rw[if_pos ⟨by simp,trivial,trivial,by omega,by simp only[maxLen];omega⟩]
 simp[gZ,List.flatMap_append]
theorem wJ (n:Nat) (l:List cN):jG (some (.row 27 32 n (gZ l)))=some (.sl n (gZ l)):=by
 unfold jG;simp only;rw[if_pos (Um l)]
theorem aE9 (st:St) {l:List Bool} {kk:IntKind} {i:Int} (h0:0≤i) (h1:i<l.length):bH Tryz.prog st 262 (.sl l.length (mW l)) (.v (.int kk i))=some (.ip ([.v (.bool (gx false l i))]) 0):=by
 have hl:i.toNat<l.length:=by omega
 have h2:i.toNat * 1+1≤(l.flatMap uT).length:=by rw[iL iC,← Nat.succ_mul];exact Nat.mul_le_mul_right _ hl
 have h3:((mW l).drop (i.toNat * 1)).take 1=uT (gx false l i):=Jg iC h0 h1
 have h4:(mW l).length=(l.flatMap uT).length:=rfl
 (simp only[bH,aGk,SL,h0,h1,h4,h2,and_self,if_true,h3])<;>rfl
theorem aB6 (x:Bool):yJ 4 1 1 (some (1,[.v (.bool x)]))=some (none,.row 4 1 [x].length (mW [x])):=by
 simp[yJ,maxLen,mW,uT]
theorem NJ (l:List Bool) (x:Bool) (s g:Nat) (h:(l.length:Int)<1000000):xY 4 1 1 (some (.row 4 1 l.length (mW l))) s g (some (1,[.v (.bool x)]))=some (some (s,g),.row 4 1 (l++[x]).length (mW (l++[x]))):=by
 simp only[xY];rw[if_pos ⟨by simp,trivial,trivial,by omega,by simp only[maxLen];omega⟩]
 simp[mW,List.flatMap_append,uT]
theorem o6 (n:Nat) (l:List Bool):jG (some (.row 4 1 n (mW l)))=some (.sl n (mW l)):=by
 unfold jG;simp only;rw[if_pos (Tv l)]
theorem yW (o:Option (List Int)):Flat (ov kI o):=by
 cases o with
 | none=>exact .v _
 | some l=>exact .sl _ _ (vV l)
theorem rR (st:St) (o:Option (List Int)):fO st (ov kI o)=some (ov kI o):=eC (yW o)
theorem VI (x:Int):yJ 5 1 1 (some (1,[.v (.int .u8 x)]))=some (none,.row 5 1 [x].length (kI [x])):=by
 simp[yJ,maxLen,kI,cU8]
theorem Ly (l:List Int) (x:Int) (s g:Nat) (h:(l.length:Int)<1000000):xY 5 1 1 (some (.row 5 1 l.length (kI l))) s g (some (1,[.v (.int .u8 x)]))=some (some (s,g),.row 5 1 (l++[x]).length (kI (l++[x]))):=by
 simp only[xY];rw[if_pos ⟨by simp,trivial,trivial,by omega,by simp only[maxLen];omega⟩]
 simp[kI,List.flatMap_append,cU8]
theorem VJ (l m:List Int) (s g:Nat) (h:(l.length:Int)<1000000) (h2:(m.length:Int)<1000000):xY 5 1 1 (some (.row 5 1 l.length (kI l))) s g (some (m.length,kI m))=some (some (s,g),.row 5 1 (l++m).length (kI (l++m))):=by
 simp only[xY];rw[if_pos ⟨iL aE4 m,trivial,trivial,by omega,by simp only[maxLen];omega⟩]
 simp[kI,List.flatMap_append]
theorem Dl (n:Nat) (l:List Int):jG (some (.row 5 1 n (kI l)))=some (.sl n (kI l)):=by
 unfold jG;simp only;rw[if_pos (vV l)]
theorem ZA (st:St) (o:Option (List Int)):aX st (ov aK o)=some ((ol o).length,aK (ol o)):=by cases o<;>rfl
theorem bX (o:Option (List Int)):Flat (ov aK o):=by
 cases o with
 | none=>exact .v _
 | some l=>exact .sl _ _ (gI l)
theorem Fa (st:St) (o:Option (List Int)):fO st (ov aK o)=some (ov aK o):=eC (bX o)
theorem ZB (o:Option (List Int)):(ov aK o).jD=true:=by cases o<;>rfl
theorem O1 (o:Option (List Int)):(ov aK o).cells=[ov aK o]:=by cases o<;>rfl
theorem aB7 (st:St) {l:List Int} {kk:IntKind} {i:Int} (h0:0≤i) (h1:i<l.length):bH Tryz.prog st 22 (.sl l.length (aK l)) (.v (.int kk i))=some (.ip ([.v (.int .i64 (gx (0:Int) l i))]) 0):=by
 have hl:i.toNat<l.length:=by omega
 have h2:i.toNat * 1+1≤(l.flatMap qV).length:=by rw[iL bJ,← Nat.succ_mul];exact Nat.mul_le_mul_right _ hl
 have h3:((aK l).drop (i.toNat * 1)).take 1=qV (gx (0:Int) l i):=Jg bJ h0 h1
 have h4:(aK l).length=(l.flatMap qV).length:=rfl
 (simp only[bH,aEB,Ln,h0,h1,h4,h2,and_self,if_true,h3])<;>rfl
theorem aJI (st:St) {o:Option (List Int)} {kk:IntKind} {i:Int} (h0:0≤i) (h1:i<(ol o).length):bH Tryz.prog st 22 (ov aK o) (.v (.int kk i))=some (.ip ([.v (.int .i64 (gx (0:Int) (ol o) i))]) 0):=by
 cases o with
 | none=>simp[ol] at h1;omega
 | some l=>exact aB7 st h0 h1
theorem Ok (l:List Int) (h:(l.length:Int)<1000000):yJ 3 1 8 (some (l.length,aK l))=some (none,.row 3 1 l.length (aK l)):=by
 unfold yJ;simp only
 rw[if_pos ⟨iL bJ l,by omega,by simp only[maxLen];omega⟩]
theorem Ez (l:List Int) (x:Int) (s g:Nat) (h:(l.length:Int)<1000000):xY 3 1 8 (some (.row 3 1 l.length (aK l))) s g (some (1,[.v (.int .i64 x)]))=some (some (s,g),.row 3 1 (l++[x]).length (aK (l++[x]))):=by
 simp only[xY];rw[if_pos ⟨by simp,trivial,trivial,by omega,by simp only[maxLen];omega⟩]
 simp[aK,List.flatMap_append,qV]
theorem HQ (l m:List Int) (s g:Nat) (h:(l.length:Int)<1000000) (h2:(m.length:Int)<1000000):xY 3 1 8 (some (.row 3 1 l.length (aK l))) s g (some (m.length,aK m))=some (some (s,g),.row 3 1 (l++m).length (aK (l++m))):=by
 simp only[xY];rw[if_pos ⟨iL bJ m,trivial,trivial,by omega,by simp only[maxLen];omega⟩]
 simp[aK,List.flatMap_append]
theorem kA (n:Nat) (l:List Int):jG (some (.row 3 1 n (aK l)))=some (.sl n (aK l)):=by
 unfold jG;simp only;rw[if_pos (gI l)]
theorem aO7 (st:St) (o:Option (List Int)) (hi:Operand):dB Tryz.prog st 22 (ov aK o) none (some hi)=Lo (st.ev hi) (fun j=>if 0≤j∧j≤(ol o).length then some (ov aK (o.map (·.take j.toNat))) else dB Tryz.prog st 22 (ov aK o) none (some hi)) (dB Tryz.prog st 22 (ov aK o) none (some hi)):=by
 unfold Lo;split
 ·rename_i j hj;dsimp only
  split
  ·rename_i hc;obtain⟨j0,j1⟩:=hc
   cases o with
   | none =>
     have:j=0:=by simp[ol] at j1;omega
     subst this;simp[dB,Ln,ov,hj]
   | some l =>
     have j1:j≤l.length:=j1
     have hn:j.toNat≤l.length:=by omega
     simp only[dB,Ln,ov,hj];rw[if_pos ⟨Int.le_refl _,j0,j1,iL bJ l⟩];simp only[Int.toNat_zero,Nat.zero_mul,List.drop_zero,Int.sub_zero,Option.map_some];rw[show (aK l).take (j.toNat * 1)=aK (l.take j.toNat) from wI bJ l j.toNat,List.length_take,Nat.min_eq_left hn]
  ·rfl
 ·rfl
theorem aFa (st:St) (o:Option (List Int)) (lo:Operand):dB Tryz.prog st 22 (ov aK o) (some lo) none=Lo (st.ev lo) (fun j=>if 0≤j∧j≤(ol o).length then some (ov aK (o.map (·.drop j.toNat))) else dB Tryz.prog st 22 (ov aK o) (some lo) none) (dB Tryz.prog st 22 (ov aK o) (some lo) none):=by
 unfold Lo;split
 ·rename_i j hj;dsimp only
  split
  ·rename_i hc;obtain⟨j0,j1⟩:=hc
   cases o with
   | none =>
     have:j=0:=by simp[ol] at j1;omega
     subst this;simp[dB,Ln,ov,hj]
   | some l =>
     have j1:j≤l.length:=j1
     have hn:j.toNat≤l.length:=by omega
     have e1:((l.length:Int)-j).toNat=l.length-j.toNat:=by omega
     simp only[dB,Ln,ov,hj];rw[if_pos ⟨j0,j1,Int.le_refl _,iL bJ l⟩];simp only[Option.map_some,e1];rw[show (aK l).drop (j.toNat * 1)=aK (l.drop j.toNat) from Bp bJ l j.toNat,List.length_drop,List.take_of_length_le];rw[show aK (l.drop j.toNat)=(l.drop j.toNat).flatMap qV from rfl,iL bJ,List.length_drop];exact Nat.le_refl _
  ·rfl
 ·rfl
theorem ZD (st:St) (o:Option (List Int)):aX st (ov bK o)=some ((ol o).length,bK (ol o)):=by cases o<;>rfl
theorem dY (o:Option (List Int)):Flat (ov bK o):=by
 cases o with
 | none=>exact .v _
 | some l=>exact .sl _ _ (iH l)
theorem ZE (o:Option (List Int)):(ov bK o).jD=true:=by cases o<;>rfl
theorem O2 (o:Option (List Int)):(ov bK o).cells=[ov bK o]:=by cases o<;>rfl
theorem aB8 (st:St) {l:List Int} {kk:IntKind} {i:Int} (h0:0≤i) (h1:i<l.length):bH Tryz.prog st 34 (.sl l.length (bK l)) (.v (.int kk i))=some (.ip ([.v (.int .u64 (gx (0:Int) l i))]) 0):=by
 have hl:i.toNat<l.length:=by omega
 have h2:i.toNat * 1+1≤(l.flatMap lG).length:=by rw[iL bB,← Nat.succ_mul];exact Nat.mul_le_mul_right _ hl
 have h3:((bK l).drop (i.toNat * 1)).take 1=lG (gx (0:Int) l i):=Jg bB h0 h1
 have h4:(bK l).length=(l.flatMap lG).length:=rfl
 (simp only[bH,aJm,YT,h0,h1,h4,h2,and_self,if_true,h3])<;>rfl
theorem aJJ (st:St) {o:Option (List Int)} {kk:IntKind} {i:Int} (h0:0≤i) (h1:i<(ol o).length):bH Tryz.prog st 34 (ov bK o) (.v (.int kk i))=some (.ip ([.v (.int .u64 (gx (0:Int) (ol o) i))]) 0):=by
 cases o with
 | none=>simp[ol] at h1;omega
 | some l=>exact aB8 st h0 h1
theorem aFb (x:Int):yJ 23 1 8 (some (1,[.v (.int .u64 x)]))=some (none,.row 23 1 [x].length (bK [x])):=by
 simp[yJ,maxLen,bK,lG]
theorem Ew (l:List Int) (h:(l.length:Int)<1000000):yJ 23 1 8 (some (l.length,bK l))=some (none,.row 23 1 l.length (bK l)):=by
 unfold yJ;simp only
 rw[if_pos ⟨iL bB l,by omega,by simp only[maxLen];omega⟩]
theorem wK (l:List Int) (x:Int) (s g:Nat) (h:(l.length:Int)<1000000):xY 23 1 8 (some (.row 23 1 l.length (bK l))) s g (some (1,[.v (.int .u64 x)]))=some (some (s,g),.row 23 1 (l++[x]).length (bK (l++[x]))):=by
 simp only[xY];rw[if_pos ⟨by simp,trivial,trivial,by omega,by simp only[maxLen];omega⟩]
 simp[bK,List.flatMap_append,lG]
theorem uN (n:Nat) (l:List Int):jG (some (.row 23 1 n (bK l)))=some (.sl n (bK l)):=by
 unfold jG;simp only;rw[if_pos (iH l)]
theorem aB9 {T n k off:Nat} {l:List Int} {i:Int} (h0:0≤i) (h1:i<l.length) (hk:sL Tryz.prog T=some k) (qC:0<k) (ho:off+k≤1):rE Tryz.prog T (some (.row 23 1 n (bK l))) (i.toNat * 1+off)=fB Tryz.prog T ([.v (.int .u64 (gx (0:Int) l i))]) off:=GZ bB h0 h1 hk qC ho
theorem T7 {T n k:Nat} {l:List Int} {i:Int} (h0:0≤i) (h1:i<l.length) (hk:sL Tryz.prog T=some k) (qC:0<k) (ho:k≤1):rE Tryz.prog T (some (.row 23 1 n (bK l))) (i.toNat * 1)=fB Tryz.prog T ([.v (.int .u64 (gx (0:Int) l i))]) 0:=by
 have h:=aB9 (n:=n) (off:=0) h0 h1 hk qC (by omega)
 rw[Nat.add_zero] at h;exact h
theorem T6 (l:List Int) (i:Int) (x:Int) (h:i.toNat<l.length):dS (bK l) (i.toNat * 1) ([.v (.int .u64 x)]) (i.toNat * 1+1)=bK (l.set i.toNat x):=by
 generalize i.toNat=k at h ⊢
 have:=Tk (c:=lG) (sz:=1) bB l k x h
 exact this
end Tryz
end Go.Ab
end
section
namespace Go.Ab.Tryz
open Classical Go.Proofs Go.Ab
theorem aj {a b:Prop} (x:a) (y:b):a∧b:=⟨x,y⟩
def EN:=aj (aj (aj (aj (aj (aj (aj @cO (aj @NM @oY)) (aj @aAK (aj @I9 @XF))) (aj (aj @K2 (aj @decide_true @decide_false)) (aj (aj @Int.cast_ofNat_Int @Bool.not_true) (aj @Bool.not_false @Bool.false_eq_true)))) (aj (aj (aj @Bool.true_eq_false (aj @aDP @aDQ)) (aj @aDR (aj @aDS @aDT))) (aj (aj @aDU (aj @aDV @aDW)) (aj (aj @aDX @aDY) (aj @aD1 @aD2))))) (aj (aj (aj (aj @aDZ (aj @aD0 @not_false_eq_true)) (aj @ne_eq.{1} (aj @aA4 @K1))) (aj (aj @XR (aj @XS @Option.bind_some.{0,0})) (aj (aj @aDF @J0) (aj @aDG @aAL)))) (aj (aj (aj @aDH (aj @XG @JO)) (aj @JP (aj @aDI @XJ))) (aj (aj @aAN (aj @aAO @aAP)) (aj (aj @aHS @aAQ) (aj @aBy @Bool.or_false)))))) (aj (aj (aj (aj (aj @Bool.false_or (aj @Bool.false_and @Bool.or_true)) (aj @aDK (aj @aEF @J1))) (aj (aj @J2 (aj @XL @JQ)) (aj (aj @QG @vT) (aj @SQ @N1)))) (aj (aj (aj @N2 (aj @aEK @aBJ)) (aj @nX (aj @M3 @M4))) (aj (aj @YV (aj @SN @Option.map_some.{0,0})) (aj (aj @Lu @Jp) (aj @Rr @Lz))))) (aj (aj (aj (aj @aBB (aj @aBC @aEG)) (aj @fR (aj @bO @aBM))) (aj (aj @aBN (aj @EM @N5)) (aj (aj @aEJ @M5) (aj @M6 @aD5)))) (aj (aj (aj @aA6 (aj @aD6 @aD3)) (aj (aj @M7 @M8) (aj @M9 @N0))) (aj (aj @aBI (aj @N3 @aEL)) (aj (aj @aEH @aEI) (aj @aBD @aBE))))))) (aj (aj (aj (aj (aj (aj @aBF (aj @aBG @aBH)) (aj @J5 (aj @JT @aED))) (aj (aj @aBx (aj @aO0 @aFl)) (aj (aj @aAV @aHU) (aj @aDL @JS)))) (aj (aj (aj @aDM (aj @aAW @aDN)) (aj @aDO (aj @aAX
 @Yz))) (aj (aj @Za (aj @Dt @aAY)) (aj (aj @aAZ @J3) (aj @aA0 @QH))))) (aj (aj (aj (aj @J4 (aj @List.toList_toArray.{0} @List.map_cons.{0,0})) (aj @List.map_nil.{0,0} (aj @aDE @XE))) (aj (aj @I8 (aj @aAG @aAH)) (aj (aj @aDD @JU) (aj @K3 @XT)))) (aj (aj (aj @List.getElem?_cons_zero.{0} (aj @List.getElem?_cons_succ.{0} @List.getElem?_nil.{0})) (aj @Option.getD_some.{0} (aj @Option.getD_none.{0} @and_true))) (aj (aj @true_and (aj @and_self @false_and)) (aj (aj @and_false @if_true.{1}) (aj @if_false.{1} @Nat.succ_ne_zero)))))) (aj (aj (aj (aj (aj @LJ (aj @LK @Nat.add_zero)) (aj @Nat.zero_add (aj @YW @aAM))) (aj (aj @aH3 (aj @aH4 @aBd)) (aj (aj @aBe @M1) (aj @YA @aBz)))) (aj (aj (aj @aEO (aj @aEP @aEQ)) (aj @YX (aj @N6 @aER))) (aj (aj @aJw (aj @SR @N7)) (aj (aj @aES @aBP) (aj @aJx @aBQ))))) (aj (aj (aj (aj @aET (aj @aEU @aEV)) (aj @aBR (aj @aBS @aEW))) (aj (aj @aBT (aj @aO3 @aEX)) (aj (aj @aJy @aJz) (aj @aJA @aEY)))) (aj (aj (aj @aEZ (aj @aJB @aE0)) (aj (aj @aE1 @aBU) (aj @N8 @YY))) (aj (aj @aE2 (aj @aBV @aE3)) (aj (aj @gei @gti) (aj @aWc @gtn)))))))
def EV:=aj EN @K0
def LE:=aj (aj (aj (aj (aj (aj @aJu @aJv) (aj @aBK (aj @aBL @Ls))) (aj (aj @Ju @Rz) (aj @aJs (aj @aJt @aEE)))) (aj (aj (aj @bB @bJ) (aj @iC (aj @aO @dO))) (aj (aj @bR (aj @cH @bT)) (aj @vO (aj @Sr @Nat.sub_zero))))) (aj (aj (aj (aj @Nat.le_refl @NA) (aj @FN (aj @Option.map_some.{0,0} @List.all_cons.{0}))) (aj (aj @List.all_nil.{0} @Bool.and_true) (aj @Bool.true_and (aj @Bool.and_self @J6)))) (aj (aj (aj @List.length_cons.{0} @List.length_nil.{0}) (aj @jM (aj @jN @Qe))) (aj (aj @Bl (aj @So @JZ)) (aj @Nat.zero_le (aj @Nat.mul_one @Xy)))))) (aj (aj (aj (aj (aj @pC @gY) (aj @mE (aj @gB @bV))) (aj (aj @rV @iJ) (aj @iR (aj @fN @eN)))) (aj (aj (aj @gR @nH) (aj @dI (aj @dC @iK))) (aj (aj @mO (aj @dG @Nb)) (aj @BP (aj @YS @xD))))) (aj (aj (aj (aj @EL @Kc) (aj @Mu (aj @Sx @Sz))) (aj (aj @B6 @YI) (aj @AU (aj @Iv @AW)))) (aj (aj (aj @AY @Na) (aj @BG (aj @Iy @GY))) (aj (aj @SG (aj @BL @SH)) (aj @aBu (aj @Wg @aEg))))))
def RD:=aj (aj (aj (aj (aj (aj (aj (aj @QK @QL) (aj @QM @QN)) (aj (aj @kE @qA) (aj @uU (aj @Fq @QO)))) (aj (aj (aj @QP @Pw) (aj @Px (aj @yA @Af))) (aj (aj @Py @Pz) (aj @yB (aj @Ag @DJ))))) (aj (aj (aj (aj @DK @Gd) (aj @Vd @Ah)) (aj (aj @Mp @sC) (aj @Cs (aj @Ai @Mq)))) (aj (aj (aj @sD @Ct) (aj @Iq (aj @DL @La))) (aj (aj @DM @Ve) (aj @Vf (aj @Dz @Sp)))))) (aj (aj (aj (aj (aj @DN @DO) (aj @AK @AL)) (aj (aj @Lb @DP) (aj @Ir (aj @Ki @Qc)))) (aj (aj (aj @JW @Kj) (aj @Mr (aj @Qd @Sq))) (aj (aj @Vg @JX) (aj @JY (aj @DQ @DR))))) (aj (aj (aj (aj @Is @Ea) (aj @wB @Eb)) (aj (aj @wC @Kk) (aj @Ms (aj @Gr @Mt)))) (aj (aj (aj @Qf @QQ) (aj @XV (aj @Ga @Hi))) (aj (aj @QR @QS) (aj @AO (aj @QT @QU))))))) (aj (aj (aj (aj (aj (aj @Aj @Lc) (aj @Qh @Fs)) (aj (aj @Gs @Ss) (aj @Vh (aj @Qi @Qj)))) (aj (aj (aj @AR @AS) (aj
 @Ec (aj @Vi @Ed))) (aj (aj @Vj @Bz) (aj @Su (aj @Ca @Sv))))) (aj (aj (aj (aj @Cb @Sw) (aj @Ak @Qk)) (aj (aj @DU @DV) (aj @xH (aj @xI @vF)))) (aj (aj (aj @vG @vH) (aj @uW (aj @It @DW))) (aj (aj @Qm @Sy) (aj @Ld (aj @DX @Qn)))))) (aj (aj (aj (aj (aj @Qo @zM) (aj @Lf @DY)) (aj (aj @DZ @KI) (aj @RU (aj @AT @EA)))) (aj (aj (aj @KJ @KK) (aj @RV (aj @RW @KL))) (aj (aj @RX @RY) (aj @RZ (aj @EB @EC))))) (aj (aj (aj (aj @Iu @Kl) (aj @Mv (aj @Mw @Et))) (aj (aj @SA @YK) (aj @YL (aj @wD @Ge)))) (aj (aj (aj @wE @Gf) (aj @ED (aj @Lg @uI))) (aj (aj @EE @Qq) (aj @Qr (aj @Ax @Ay)))))))) (aj (aj (aj (aj (aj (aj (aj @oM @Mx) (aj @My @Al)) (aj (aj @Az @Am) (aj @Ba (aj @Ee @nN)))) (aj (aj (aj @Vk @Vl) (aj @SC (aj @SE @Mz))) (aj (aj @Tc @Cj) (aj @KN (aj @KO @KP))))) (aj (aj (aj (aj @Qs @Ft) (aj
 @Td @Te)) (aj (aj @Qt @Tf) (aj @Vm (aj @AX @AZ)))) (aj (aj (aj @BA @Vn) (aj @Vo (aj @BB @BD))) (aj (aj @BE @vQ) (aj @Gg (aj @xQ @Ix)))))) (aj (aj (aj (aj (aj @KR @KS) (aj @Eg @Eh)) (aj (aj @tS @vI) (aj @Gh (aj @Gi @uX)))) (aj (aj (aj @xJ @vR) (aj @Gj (aj @sZ @Cc))) (aj (aj @xR @Iz) (aj @Vp (aj @Vq @An))))) (aj (aj (aj (aj @Ao @yP) (aj @yQ @qO)) (aj (aj @pW @Ja) (aj @Km (aj @qX @Kn)))) (aj (aj (aj @BI @BJ) (aj @pH (aj @Gt @qD))) (aj (aj @Jb @Qv) (aj @Qw (aj @Fu @Fv))))))) (aj (aj (aj (aj (aj (aj @xK @qP) (aj @Gu @Gv)) (aj (aj @xW @rK) (aj @pI (aj @Gw @nM)))) (aj (aj (aj @Ej @Lh) (aj @Cu (aj @qY @Ko))) (aj (aj @Li @KT) (aj @Jc (aj @Jd @vS))))) (aj (aj (aj (aj @Vr @KU) (aj @KV @BM)) (aj (aj @BN @tX)
 (aj @tI (aj @qZ @pQ)))) (aj (aj (aj @qM @tY) (aj @uY (aj @pR @oL))) (aj (aj @Kp @yC) (aj @rA (aj @Kq @Je)))))) (aj (aj (aj (aj (aj @Jf @uH) (aj @zO @Qx)) (aj (aj @Bh @Th) (aj @Qy (aj @Ti @BO)))) (aj (aj (aj @EH @EI) (aj @EJ (aj @Qz @Tj))) (aj (aj @Vs @KX) (aj @KY (aj @KZ @SI))))) (aj (aj (aj (aj @LA @LB) (aj @YO (aj @YP @De))) (aj (aj @LC @LD) (aj @sJ (aj @rZ @LF)))) (aj (aj (aj @LG @Bi) (aj @BR (aj @BS @EK))) (aj (aj @LH @LI) (aj @SJ (aj @YQ @YR))))))))
def FA:=aj (aj (aj (aj (aj (aj (aj (aj @ld3 @ik3) (aj @lk3 (aj @ze3 @aTM))) (aj (aj @aTN @UW) (aj @aIa (aj @aTO @aTP)))) (aj (aj (aj @aTQ @ld5) (aj @ik5 (aj @lk5 @ze5))) (aj (aj @ik2 (aj @lk2 @ze2)) (aj @aTR (aj @aTS @aTT))))) (aj (aj (aj (aj @ld4 @lk4) (aj @ze4 (aj @be4 @aTU))) (aj (aj @aLr (aj @aN7 @aIb)) (aj @aTV (aj @aTW @aGG)))) (aj (aj (aj @aTX @aTY) (aj @aTZ (aj @aT0 @aN8))) (aj (aj @aT1 (aj @aLc @aT2)) (aj @aT3 (aj @aNd @aIc)))))) (aj (aj (aj (aj (aj @aId @aGK) (aj @aIe (aj @aT4 @aT5))) (aj (aj @aT6 @aT7) (aj @aT8 (aj @aIf @aIg)))) (aj (aj (aj @aT9 @aN9) (aj @aUa (aj @aUb @aUc))) (aj (aj @OA (aj @aIh @aIi)) (aj @aIj (aj @aIk @aIl))))) (aj (aj (aj (aj @aIm @aIn) (aj @aIo (aj @aIp @aIq))) (aj (aj @aDl (aj @aIr @aUd)) (aj @aUe (aj @aUf @aUg)))) (aj (aj (aj @aUh @aIs) (aj @aIt (aj @aIu @aIv))) (aj (aj @aOa (aj @aUi @aUj)) (aj @aUk (aj @aUl @aIw))))))) (aj (aj (aj (aj (aj (aj @aUm @aUn) (aj @aUo (aj @aIx @aUp))) (aj (aj @aUq @aUr) (aj @aUs (aj @aIy @aIz)))) (aj (aj (aj @aIA @aUt) (aj @aOb (aj @aUu @aUv))) (aj (aj @aUw (aj @aUx @aIB)) (aj @aIC (aj @aID @aIE))))) (aj (aj (aj (aj @aIF @aIG) (aj @aUy (aj @aOc @aUz))) (aj (aj @aUA (aj @aUB @aUC)) (aj @aIH (aj @aII @aIJ)))) (aj (aj (aj @aIK @aIL) (aj @aIM (aj @aUD @aUE))) (aj (aj @aOd (aj @aFu @aEi)) (aj @aEj (aj @aEk @aGg)))))) (aj (aj (aj (aj (aj @aGh @aOe) (aj @aOf (aj @aUF @aUG))) (aj (aj @aIN (aj @aIO @aIP)) (aj @aIQ (aj @aOg @aUH)))) (aj (aj (aj @aOh @aOi) (aj @aEl (aj @aEm @aEn))) (aj (aj @aEo (aj @aOj @aOk)) (aj @aOl (aj @aOm @aEp))))) (aj (aj (aj (aj @aEq @aOn) (aj @aOo (aj @aOp @aF5))) (aj (aj @aEr (aj @aEs @Z5)) (aj @aOq (aj @aUI @aHe)))) (aj (aj (aj @aIR @aIS) (aj @aIT (aj @aIU @aOr))) (aj (aj @aUJ (aj @aUK @aUL)) (aj
 @aIV (aj @aIW @aIX)))))))) (aj (aj (aj (aj (aj (aj (aj @aOs @aOt) (aj @aUM (aj @aUN @aUO))) (aj (aj @aUP @aIY) (aj @aIZ (aj @aUQ @aUR)))) (aj (aj (aj @aUS @aUT) (aj @aI0 (aj @aI1 @aUU))) (aj (aj @aOu (aj @aUV @aUW)) (aj @aUX (aj @aI2 @aI3))))) (aj (aj (aj (aj @aUY @aUZ) (aj @aU0 (aj @aI4 @aI5))) (aj (aj @aI6 (aj @aI7 @aI8)) (aj @aI9 (aj @aJa @aJb)))) (aj (aj (aj @aU1 @aU2) (aj @aU3 (aj @aU4 @aJc))) (aj (aj @aJd (aj @aJe @aJf)) (aj @aJg (aj @aJh @aJi)))))) (aj (aj (aj (aj (aj @aJj @aU5) (aj @aU6 (aj @aOv @aOw))) (aj (aj @aEt (aj @aEu @aEv)) (aj @aEw (aj @aEx @aEy)))) (aj (aj (aj @aEz @aEA) (aj @aGi (aj @aOx @aJk))) (aj (aj @aJl (aj @Ln @aEB)) (aj @aU7 (aj @aU8 @aU9))))) (aj (aj (aj (aj @aVa @aVb) (aj @YT (aj @aJm @aVc))) (aj (aj @aVd (aj @aVe @aVf)) (aj @aVg (aj @L7 @aJn)))) (aj (aj (aj @aVh @aVi) (aj @aVj (aj @aVk @aVl))) (aj (aj @aBv (aj @aOy @aVm)) (aj @aVn (aj @aVo @nU))))))) (aj (aj (aj (aj (aj (aj @aJo @aVp) (aj @aVq (aj @aVr @aVs))) (aj (aj @aVt @SK) (aj @aJp (aj @aVu @aVv)))) (aj (aj (aj @aVw @aVx) (aj @Sa (aj @aJq @aVy))) (aj (aj @aVz (aj @aVA @Rw)) (aj @aJr (aj @aVB @aVC))))) (aj (aj (aj (aj @aVD @aEC) (aj @aOz (aj @aVE @aVF))) (aj (aj @MZ (aj @aBw @aOA)) (aj @aOB (aj @B7 @aOC)))) (aj (aj (aj @aOD @aOE) (aj @aGj (aj @aOF @aOG))) (aj (aj @aOH (aj @B8 @aOI)) (aj @aOJ (aj @aOK @SL)))))) (aj (aj (aj (aj (aj @aGk @aOL) (aj @aOM (aj @aVG @aVH))) (aj (aj @aVI (aj @aVJ @aVK)) (aj @aVL (aj @aVM @aVN)))) (aj (aj (aj @aVO @aVP) (aj @aVQ (aj @aVR @aVS))) (aj (aj @aVT (aj @aVU @aVV)) (aj @aVW (aj @aVX @aVY))))) (aj (aj (aj (aj @aVZ @aV0) (aj @aV1 (aj @aV2 @aV3))) (aj (aj @aV4 (aj @aV5 @aV6)) (aj @aV7 (aj @aV8 @aON)))) (aj (aj (aj @aOO @aOP) (aj @aOQ (aj @aOR @aOS))) (aj (aj @aOT (aj
 @aOU @aOV)) (aj @aOW (aj @aOX @aOY))))))))
def ZZ:=aj (aj EV LE) (aj RD FA)
section
variable {f:Nat} {fn:Func} {st:St} {x y z:AV}
theorem bQ {t:Nat} (hr:fn.results.toList=[.tmp t]) (hx:st.env t=x) (hf:Flat x:=by exact .v _) (hk:Ext.qR f=false:=by exact aH (by decide)):At Tryz.prog f fn (.ret,st)=some x:=aA2 hk (.inl rfl) hr hx hf
theorem fJ {t T:Nat} (hr:fn.results.toList=[.cell t T]) (hy:st.env t=y) (hx:Gc Tryz.prog st T y=some x) (hf:Flat x) (hk:Ext.qR f=false:=by exact aH (by decide)):At Tryz.prog f fn (.ret,st)=some x:=J8 hk (.inl rfl) hr hy hx hf
theorem tU {t s g e' sz n:Nat} {cs:List AV} (hr:fn.results.toList=[.tmp t]) (hx:st.env t=.own s g) (hh:st.heap s g=some (.row e' sz n cs)) (hf:∀c∈cs,Flat c) (hk:Ext.qR f=false:=by exact aH (by decide)):At Tryz.prog f fn (.ret,st)=some (.uniq e' sz n cs):=Ym hk (.inl rfl) hr hx hh hf
theorem eH {t T:Nat} {cs:List AV} (hr:fn.results.toList=[.cell t T]) (hz:st.env t=z) (hx:Gc Tryz.prog st T z=some (.agg cs)) (hy:fO st (.agg cs)=some y) (hk:Ext.qR f=false:=by exact aH (by decide)):At Tryz.prog f fn (.ret,st)=some y:=XO hk (.inl rfl) hr hz hx hy
theorem dN {r1 r2:ResultVar} {x1 x2 y1 y2:AV} (hr:fn.results.toList=[r1,r2]) (h1:bY Tryz.prog st r1=some x1) (h2:bY Tryz.prog st r2=some x2) (e1:fO st x1=some y1) (e2:fO st x2=some y2) (hk:Ext.qR f=false:=by exact aH (by decide)):At Tryz.prog f fn (.ret,st)=some (.eG [y1,y2]):=aA3 hk (.inl rfl) hr h1 h2 e1 e2
theorem aMa {r1 r2:ResultVar} {x1 x2 y1 y2:AV} (hr:fn.results.toList=[r1,r2]) (h1:bY Tryz.prog st r1=some x1) (h2:bY Tryz.prog st r2=some x2) (e0:fO st x1=none) (e1:Nj st x1=some y1) (e2:fO st x2=some y2) (hk:Ext.qR f=false:=by exact aH (by decide)):At Tryz.prog f fn (.ret,st)=some (.eG [y1,y2]):=J9 hk (.inl rfl) hr h1 h2 e0 e1 e2
theorem fM {r1 r2 r3:ResultVar} {x1 x2 x3 y1 y2 y3:AV} (hr:fn.results.toList=[r1,r2,r3]) (h1:bY Tryz.prog st r1=some x1) (h2:bY Tryz.prog st r2=some x2) (h3:bY Tryz.prog st r3=some x3) (e1:fO st x1=some y1) (e2:fO st x2=some y2) (e3:fO st x3=some y3) (hk:Ext.qR f=false:=by exact aH (by decide)):At Tryz.prog f fn (.ret,st)=some (.eG [y1,y2,y3]):=XP hk (.inl rfl) hr h1 h2 h3 e1 e2 e3
theorem cL {c:Code} (hf:Tryz.prog.funcs[f]? = some fn) (hb:fn.body=some c) (oZ:bI fn=true) {xs:List AV} (hu:xs.any uA=false):aB Tryz.prog f xs=cT (zJ Tryz.prog c (St.init xs)) (At Tryz.prog f fn):=aAJ _ hf hb oZ xs (uP _ _) hu
theorem cG {c:Code} (hf:Tryz.prog.funcs[f]? = some fn) (hb:fn.body=some c) (oZ:sX fn=true) (hc:oE c=true) {xs:List AV} (hu:xs.any uA=false):aB Tryz.prog f xs=cT (wX Tryz.prog true c (St.init xs)) (At Tryz.prog f fn):=by
 rw[QE Tryz.prog hf hb oZ xs (uP _ _) hu,hc]
end
section
variable {b:Code} {st st':St} {n:Nat} {I:Nat→St→Prop} {Q:Ex→St→Prop}
theorem oN (m:Nat) (h:zJ Tryz.prog b st=some (.normal,st')) (hi:I m st') (hm:m<n:=by omega):∃e st',zJ Tryz.prog b st=some (e,st')∧((e=.normal∧∃m,m<n∧I m st')∨(e≠.normal∧Q e st')):=pD h m hm hi
theorem oT (e:Ex) (h:zJ Tryz.prog b st=some (e,st')) (hq:Q e st') (he:e≠.normal:=by simp):∃e st',zJ Tryz.prog b st=some (e,st')∧((e=.normal∧∃m,m<n∧I m st')∨(e≠.normal∧Q e st')):=aHW h he hq
theorem Au {bi:Bool} (m:Nat) (h:wX Tryz.prog bi b st=some (.normal,st')) (hi:I m st') (hm:m<n:=by omega):∃e st',wX Tryz.prog bi b st=some (e,st')∧((e=.normal∧∃m,m<n∧I m st')∨(e≠.normal∧Q e st')):=aH0 h m hm hi
theorem BZ {bi:Bool} (e:Ex) (h:wX Tryz.prog bi b st=some (e,st')) (hq:Q e st') (he:e≠.normal:=by simp):∃e st',wX Tryz.prog bi b st=some (e,st')∧((e=.normal∧∃m,m<n∧I m st')∨(e≠.normal∧Q e st')):=aD7 h he hq
end
end Go.Ab.Tryz
end
namespace Go.Ab.Tryz
open Classical Go.Proofs Go.Ab
def FT:=aj (aj (aj (aj (aj (aj @N9 (aj @LM @aBX)) (aj @BU (aj @BV @SS))) (aj (aj @SU (aj @aE5 @HK)) (aj (aj @HL @Of) (aj @SW @aBY)))) (aj (aj (aj @aJC (aj @ND @Wc)) (aj @B9 (aj @l9 @HO))) (aj (aj @YZ (aj @aBZ @aJD)) (aj (aj @HZ @o0) (aj @We @W7))))) (aj (aj (aj (aj @LN (aj @nG @LP)) (aj @SX (aj @aB0 @aJE))) (aj (aj @GB (aj @FO @Rk)) (aj (aj @FP @Og) (aj @SY @OU)))) (aj (aj (aj @aB1 (aj @aO4 @aE6)) (aj (aj @LQ @aB2) (aj @aJF @O0))) (aj (aj @iV (aj @FZ @rT)) (aj (aj @uM @SZ) (aj @xA @aB3)))))) (aj (aj (aj (aj (aj @aO5 (aj @aE7 @BW)) (aj @aB4 (aj @aJG @TA))) (aj (aj @rG (aj @tP @Ty)) (aj (aj @pM @Fc) (aj @Aa @Me)))) (aj (aj (aj @aO6 (aj @aE8 @TB)) (aj @aB5 (aj @aJH @oU))) (aj (aj @wJ (aj @aE9 @aB6)) (aj (aj @NJ @o6) (aj @rR @VI))))) (aj (aj (aj (aj @Ly (aj @VJ @Dl)) (aj @ZA (aj @Fa @ZB))) (aj (aj @O1 (aj @aB7 @aJI)) (aj (aj @Ok @Ez) (aj @HQ @kA)))) (aj (aj (aj @aO7 (aj @aFa @ZD)) (aj (aj @ZE @O2) (aj @aB8 @aJJ))) (aj (aj @aFb (aj @Ew @wK)) (aj (aj @uN @aB9) (aj @T7 @T6))))))
def E8:=EV
def L8:=LE
def R8:=RD
def F8:=aj FA FT
def EGn:=aj (aj (aj (aj (aj (aj @List.size_toArray.{0} @mJ) (aj @oQ @mK)) (aj (aj @mL @oR) (aj @QA @QB))) (aj (aj (aj @A2 @HV) (aj @GS @RP)) (aj (aj @YB @XX) (aj @QV (aj @bU @aV))))) (aj (aj (aj (aj @aZ @K9) (aj @XZ @L1)) (aj (aj @aA8 @aA9) (aj @QY (aj @QZ @RA)))) (aj (aj (aj @RC @RE) (aj @RF @RH)) (aj (aj @RI @RJ) (aj @RK (aj @RL @RM)))))) (aj (aj (aj (aj (aj @RN @RO) (aj @aH8 @aBr)) (aj (aj @Yr @A9) (aj @aD8 (aj @L2 @aD9)))) (aj (aj (aj @aBf @aH5) (aj @aBg @DS)) (aj (aj @KB @RQ) (aj @aEa (aj @aBh @aBi))))) (aj (aj (aj (aj @aEb @KC) (aj @aBj @KD)) (aj (aj @YC @YD) (aj @aBk (aj @YE @aH6)))) (aj (aj (aj @aEc @VP) (aj @aEd @aBl)) (aj (aj @aBm @aBn) (aj @aH7 (aj @L3 @aBo))))))
def ZC:=aj (aj L8 R8) F8
def Z8:=aj EV ZC
def ZG:=aj (aj EGn @K7) Z8
end Go.Ab.Tryz
namespace Go.Ab.Tryz
open Go.Ab
theorem Gq:(((aD 0 2 (some 2)=[])∧((aD 1 13 (some 11)=[])∧(aD 2 17 (some 22)=[])))∧(((aD 3 4 (some 37)=[])∧(aD 4 8 (some 40)=[]))∧((aD 5 10 (some 48)=[])∧(aD 6 9 (some 56)=[(4,7)]))))∧(((aD 7 6 (some 63)=[])∧((aD 8 6 (some 68)=[])∧(aD 9 9 (some 73)=[])))∧(((aD 10 18 (some 82)=[])∧(aD 11 4 (some 99)=[]))∧((aD 12 3 (some 103)=[])∧(aD 13 2 (some 105)=[])))):=⟨⟨⟨rfl,⟨rfl,rfl⟩⟩,⟨⟨rfl,rfl⟩,⟨rfl,rfl⟩⟩⟩,⟨⟨rfl,⟨rfl,rfl⟩⟩,⟨⟨rfl,rfl⟩,⟨rfl,rfl⟩⟩⟩⟩
theorem IE:(((aD 0 5 (some 2)=[])∧(aD 1 1 (some 7)=[]))∧((aD 2 5 (some 9)=[])∧(aD 4 11 (some 16)=[])))∧(((aD 5 7 (some 27)=[])∧(aD 6 13 (some 32)=[]))∧((aD 7 5 (some 44)=[(1,2)])∧((aD 3 3 (some 14)=[])∧(aD 8 5 (some 46)=[])))):=⟨⟨⟨rfl,rfl⟩,⟨rfl,rfl⟩⟩,⟨⟨rfl,rfl⟩,⟨rfl,⟨rfl,rfl⟩⟩⟩⟩
theorem Ov:((((aD 0 3 (some 2)=[])∧(aD 1 8 (some 9)=[(3,6)]))∧((aD 2 41 (some 13)=[])∧(aD 3 1 (some 4)=[])))∧(((aD 4 38 (some 54)=[])∧(aD 5 1 (some 4)=[]))∧((aD 6 1 (some 7)=[])∧(aD 7 6 (some 131)=[]))))∧((((aD 9 14 (some 139)=[])∧(aD 10 1 (some 4)=[]))∧((aD 8 3 (some 137)=[])∧(aD 11 1 (some 8)=[])))∧(((aD 12 6 (some 153)=[])∧(aD 14 13 (some 161)=[]))∧((aD 15 1 (some 4)=[])∧((aD 13 3 (some 159)=[])∧(aD 16 1 (some 4)=[]))))):=⟨⟨⟨⟨rfl,rfl⟩,⟨rfl,rfl⟩⟩,⟨⟨rfl,rfl⟩,⟨rfl,rfl⟩⟩⟩,⟨⟨⟨rfl,rfl⟩,⟨rfl,rfl⟩⟩,⟨⟨rfl,rfl⟩,⟨rfl,⟨rfl,rfl⟩⟩⟩⟩⟩
theorem sO:(((((aD 0 2 (some 3)=[])∧(aD 1 7 (some 12)=[]))∧((aD 2 4 (some 18)=[])∧(aD 3 14 (some 22)=[])))∧(((aD 4 8 (some 35)=[])∧(aD 5 23 (some 41)=[]))∧((aD 6 9 (some 62)=[])∧((aD 7 5 (some 71)=[])∧(aD 8 4 (some 75)=[])))))∧((((aD 9 9 (some 79)=[])∧(aD 10 7 (some 87)=[]))∧((aD 11 6 (some 93)=[])∧((aD 12 13 (some 97)=[])∧(aD 13 4 (some 110)=[]))))∧(((aD 14 6 (some 114)=[])∧(aD 15 4 (some 119)=[]))∧((aD 16 15 (some 122)=[])∧((aD 17 12 (some 137)=[(7,9)])∧(aD 18 11 (some 147)=[]))))))∧(((((aD 19 5 (some 158)=[])∧(aD 20 8 (some 162)=[(3,5)]))∧((aD 21 3 (some 168)=[])∧((aD 22 2 (some 172)=[])∧(aD 23 6 (some 173)=[]))))∧(((aD 24 2 (some 179)=[])∧(aD 25 5 (some 180)=[]))∧((aD 26 2 (some 185)=[])∧((aD 27 5 (some 186)=[])∧(aD 28 2 (some 191)=[])))))∧((((aD 29 9 (some 192)=[])∧(aD 30 2 (some 201)=[]))∧((aD 31 5 (some 202)=[])∧((aD 32 2 (some 207)=[])∧(aD 33 16 (some 208)=[]))))∧(((aD 34 2 (some 224)=[])∧(aD 35 5 (some 225)=[]))∧((aD 36 2 (some 230)=[])∧((aD 37 3 (some 231)=[])∧(aD 38 2 (some 233)=[])))))):=⟨⟨⟨⟨⟨rfl,rfl⟩,⟨rfl,rfl⟩⟩,⟨⟨rfl,rfl⟩,⟨rfl,⟨rfl,rfl⟩⟩⟩⟩,⟨⟨⟨rfl,rfl⟩,⟨rfl,⟨rfl,rfl⟩⟩⟩,⟨⟨rfl,rfl⟩,⟨rfl,⟨rfl,rfl⟩⟩⟩⟩⟩,⟨⟨⟨⟨rfl,rfl⟩,⟨rfl,⟨rfl,rfl⟩⟩⟩,⟨⟨rfl,rfl⟩,⟨rfl,⟨rfl,rfl⟩⟩⟩⟩,⟨⟨⟨rfl,rfl⟩,⟨rfl,⟨rfl,rfl⟩⟩⟩,⟨⟨rfl,rfl⟩,⟨rfl,⟨rfl,rfl⟩⟩⟩⟩⟩⟩
theorem aTo:(((aD 0 3 (some 2)=[])∧((aD 1 29 (some 11)=[(14,27),(20,27),(21,27),(23,27),(24,27)])∧(aD 2 12 (some 36)=[(7,10)])))∧((aD 3 7 (some 44)=[])∧((aD 4 3 (some 50)=[])∧(aD 5 2 (some 54)=[]))))∧(((aD 6 9 (some 55)=[])∧((aD 7 2 (some 64)=[])∧(aD 8 6 (some 65)=[])))∧(((aD 9 9 (some 70)=[])∧(aD 10 2 (some 79)=[]))∧((aD 11 10 (some 80)=[])∧(aD 12 4 (some 89)=[(1,2)])))):=⟨⟨⟨rfl,⟨rfl,rfl⟩⟩,⟨rfl,⟨rfl,rfl⟩⟩⟩,⟨⟨rfl,⟨rfl,rfl⟩⟩,⟨⟨rfl,rfl⟩,⟨rfl,rfl⟩⟩⟩⟩
theorem II:(((aD 0 6 (some 3)=[])∧((aD 1 8 (some 16)=[(5,6)])∧(aD 2 5 (some 22)=[])))∧((aD 3 2 (some 27)=[])∧((aD 4 5 (some 28)=[])∧(aD 5 2 (some 33)=[]))))∧(((aD 6 8 (some 35)=[])∧((aD 7 8 (some 41)=[])∧(aD 8 5 (some 46)=[])))∧(((aD 9 11 (some 51)=[])∧(aD 10 31 (some 59)=[]))∧((aD 11 5 (some 90)=[])∧(aD 12 5 (some 92)=[(1,2)])))):=⟨⟨⟨rfl,⟨rfl,rfl⟩⟩,⟨rfl,⟨rfl,rfl⟩⟩⟩,⟨⟨rfl,⟨rfl,rfl⟩⟩,⟨⟨rfl,rfl⟩,⟨rfl,rfl⟩⟩⟩⟩
theorem Rj:(((aD 0 6 (some 3)=[])∧(aD 1 10 (some 13)=[(5,8)]))∧((aD 2 5 (some 19)=[])∧((aD 3 2 (some 24)=[])∧(aD 4 5 (some 25)=[]))))∧(((aD 5 2 (some 30)=[])∧(aD 6 12 (some 31)=[]))∧((aD 7 36 (some 41)=[])∧((aD 8 5 (some 114)=[])∧(aD 9 5 (some 116)=[(1,2)])))):=⟨⟨⟨rfl,rfl⟩,⟨rfl,⟨rfl,rfl⟩⟩⟩,⟨⟨rfl,rfl⟩,⟨rfl,⟨rfl,rfl⟩⟩⟩⟩
theorem tA:((((aD 0 4 (some 3)=[])∧(aD 1 13 (some 16)=[]))∧((aD 2 2 (some 23)=[])∧((aD 3 2 (some 25)=[])∧(aD 4 7 (some 26)=[]))))∧(((aD 5 6 (some 32)=[])∧(aD 6 8 (some 37)=[(1,4)]))∧((aD 7 2 (some 43)=[])∧((aD 8 2 (some 45)=[])∧(aD 9 14 (some 47)=[])))))∧((((aD 10 6 (some 59)=[])∧(aD 11 3 (some 65)=[]))∧((aD 12 9 (some 68)=[])∧((aD 13 1 (some 13)=[])∧(aD 14 1 (some 14)=[]))))∧(((aD 15 6 (some 74)=[])∧((aD 17 9 (some 82)=[])∧(aD 18 10 (some 91)=[])))∧((aD 16 3 (some 80)=[])∧((aD 19 4 (some 100)=[])∧(aD 20 2 (some 103)=[]))))):=⟨⟨⟨⟨rfl,rfl⟩,⟨rfl,⟨rfl,rfl⟩⟩⟩,⟨⟨rfl,rfl⟩,⟨rfl,⟨rfl,rfl⟩⟩⟩⟩,⟨⟨⟨rfl,rfl⟩,⟨rfl,⟨rfl,rfl⟩⟩⟩,⟨⟨rfl,⟨rfl,rfl⟩⟩,⟨rfl,⟨rfl,rfl⟩⟩⟩⟩⟩
theorem Kg:(((aD 0 2 (some 1)=[])∧(aD 1 3 (some 5)=[]))∧((aD 2 2 (some 7)=[])∧((aD 3 1 (some 4)=[])∧(aD 4 4 (some 8)=[]))))∧(((aD 6 9 (some 14)=[])∧((aD 7 10 (some 23)=[])∧(aD 8 7 (some 32)=[])))∧((aD 9 13 (some 39)=[])∧((aD 5 3 (some 12)=[])∧(aD 10 2 (some 51)=[])))):=⟨⟨⟨rfl,rfl⟩,⟨rfl,⟨rfl,rfl⟩⟩⟩,⟨⟨rfl,⟨rfl,rfl⟩⟩,⟨rfl,⟨rfl,rfl⟩⟩⟩⟩
theorem Yu:((((aD 0 3 (some 2)=[])∧(aD 1 4 (some 14)=[]))∧((aD 2 10 (some 17)=[])∧(aD 3 1 (some 9)=[])))∧(((aD 4 4 (some 22)=[])∧(aD 5 4 (some 25)=[]))∧((aD 6 1 (some 10)=[])∧(aD 7 1 (some 11)=[]))))∧((((aD 8 3 (some 29)=[])∧(aD 10 5 (some 34)=[]))∧((aD 11 2 (some 38)=[])∧(aD 12 1 (some 12)=[])))∧(((aD 13 7 (some 40)=[])∧(aD 14 5 (some 45)=[]))∧((aD 15 8 (some 50)=[])∧((aD 9 3 (some 32)=[])∧(aD 16 6 (some 56)=[(2,3)]))))):=⟨⟨⟨⟨rfl,rfl⟩,⟨rfl,rfl⟩⟩,⟨⟨rfl,rfl⟩,⟨rfl,rfl⟩⟩⟩,⟨⟨⟨rfl,rfl⟩,⟨rfl,rfl⟩⟩,⟨⟨rfl,rfl⟩,⟨rfl,⟨rfl,rfl⟩⟩⟩⟩⟩
theorem U9:((aD 0 3 (some 1)=[])∧((aD 1 5 (some 5)=[])∧(aD 2 8 (some 8)=[])))∧((aD 3 3 (some 16)=[])∧((aD 4 5 (some 17)=[(0,2)])∧(aD 5 5 (some 20)=[(1,3)]))):=⟨⟨rfl,⟨rfl,rfl⟩⟩,⟨rfl,⟨rfl,rfl⟩⟩⟩
theorem Kv:((((aD 0 2 (some 1)=[])∧(aD 1 8 (some 6)=[]))∧((aD 2 1 (some 2)=[])∧((aD 3 7 (some 15)=[])∧(aD 4 2 (some 19)=[]))))∧(((aD 5 2 (some 21)=[])∧((aD 6 5 (some 22)=[])∧(aD 7 2 (some 25)=[])))∧((aD 8 2 (some 28)=[])∧((aD 9 4 (some 29)=[])∧(aD 10 2 (some 33)=[])))))∧((((aD 11 4 (some 34)=[])∧((aD 12 2 (some 38)=[])∧(aD 13 4 (some 39)=[])))∧((aD 14 2 (some 43)=[])∧((aD 15 4 (some 44)=[])∧(aD 16 2 (some 48)=[]))))∧(((aD 17 4 (some 49)=[])∧((aD 18 2 (some 53)=[])∧(aD 19 8 (some 54)=[(3,5)])))∧((aD 20 4 (some 60)=[])∧((aD 21 1 (some 2)=[])∧(aD 22 1 (some 2)=[]))))):=⟨⟨⟨⟨rfl,rfl⟩,⟨rfl,⟨rfl,rfl⟩⟩⟩,⟨⟨rfl,⟨rfl,rfl⟩⟩,⟨rfl,⟨rfl,rfl⟩⟩⟩⟩,⟨⟨⟨rfl,⟨rfl,rfl⟩⟩,⟨rfl,⟨rfl,rfl⟩⟩⟩,⟨⟨rfl,⟨rfl,rfl⟩⟩,⟨rfl,⟨rfl,rfl⟩⟩⟩⟩⟩
theorem NB:((aD 0 2 (some 3)=[])∧(aD 1 1 (some 5)=[]))∧((aD 2 15 (some 6)=[])∧((aD 3 3 (some 21)=[])∧(aD 4 13 (some 23)=[(7,10)]))):=⟨⟨rfl,rfl⟩,⟨rfl,⟨rfl,rfl⟩⟩⟩
theorem Bs:((((aD 0 3 (some 1)=[])∧(aD 1 3 (some 9)=[]))∧((aD 2 3 (some 12)=[])∧(aD 3 5 (some 13)=[])))∧(((aD 4 3 (some 17)=[])∧(aD 5 7 (some 19)=[]))∧((aD 6 4 (some 26)=[])∧((aD 7 7 (some 28)=[])∧(aD 8 4 (some 34)=[])))))∧((((aD 9 3 (some 37)=[])∧(aD 10 1 (some 6)=[]))∧((aD 11 4 (some 39)=[])∧((aD 13 8 (some 45)=[])∧(aD 14 12 (some 53)=[]))))∧(((aD 15 11 (some 65)=[])∧(aD 16 2 (some 73)=[]))∧((aD 17 7 (some 75)=[])∧((aD 12 3 (some 43)=[])∧(aD 18 3 (some 81)=[]))))):=⟨⟨⟨⟨rfl,rfl⟩,⟨rfl,rfl⟩⟩,⟨⟨rfl,rfl⟩,⟨rfl,⟨rfl,rfl⟩⟩⟩⟩,⟨⟨⟨rfl,rfl⟩,⟨rfl,⟨rfl,rfl⟩⟩⟩,⟨⟨rfl,rfl⟩,⟨rfl,⟨rfl,rfl⟩⟩⟩⟩⟩
theorem aMG:((aD 0 2 (some 3)=[])∧(aD 1 14 (some 5)=[(3,5),(3,8),(6,8),(3,11),(6,11),(9,11)]))∧((aD 2 8 (some 18)=[(3,5)])∧((aD 3 8 (some 25)=[(3,5)])∧(aD 4 13 (some 32)=[(4,7),(4,10),(8,10)]))):=⟨⟨rfl,rfl⟩,⟨rfl,⟨rfl,rfl⟩⟩⟩
theorem aFK:((aD 0 3 (some 1)=[])∧(aD 1 4 (some 5)=[]))∧((aD 2 2 (some 8)=[])∧((aD 3 3 (some 10)=[])∧(aD 4 14 (some 11)=[(5,7),(5,10),(8,10)]))):=⟨⟨rfl,rfl⟩,⟨rfl,⟨rfl,rfl⟩⟩⟩
theorem NR:(((aD 0 3 (some 1)=[])∧(aD 1 4 (some 6)=[]))∧((aD 2 2 (some 2)=[])∧(aD 3 14 (some 10)=[(7,9),(7,10)])))∧(((aD 4 1 (some 5)=[])∧(aD 5 5 (some 23)=[]))∧((aD 7 8 (some 30)=[])∧((aD 6 3 (some 28)=[])∧(aD 8 3 (some 37)=[])))):=⟨⟨⟨rfl,rfl⟩,⟨rfl,rfl⟩⟩,⟨⟨rfl,rfl⟩,⟨rfl,⟨rfl,rfl⟩⟩⟩⟩
theorem W3:((aD 0 3 (some 1)=[])∧(aD 1 8 (some 4)=[]))∧((aD 2 2 (some 2)=[])∧(aD 3 13 (some 12)=[(7,9)])):=⟨⟨rfl,rfl⟩,⟨rfl,rfl⟩⟩
theorem aMq:(aD 0 2 (some 3)=[])∧(aD 1 8 (some 5)=[(3,5)]):=⟨rfl,rfl⟩
theorem aFJ:(aD 0 2 (some 3)=[])∧(aD 1 14 (some 5)=[(3,5),(3,8),(6,8),(3,11),(6,11),(9,11)]):=⟨rfl,rfl⟩
theorem Yg:((aD 0 1 (some 4)=[])∧((aD 1 1 (some 5)=[])∧(aD 2 12 (some 6)=[])))∧(((aD 3 3 (some 18)=[])∧(aD 4 12 (some 20)=[]))∧((aD 5 2 (some 32)=[])∧(aD 6 12 (some 33)=[(6,9)]))):=⟨⟨rfl,⟨rfl,rfl⟩⟩,⟨⟨rfl,rfl⟩,⟨rfl,rfl⟩⟩⟩
end Go.Ab.Tryz
namespace Go.Ab.Tryz
open Classical Go.Proofs Go.Ab
theorem Gl (x:Int) (h1:-9223372036854775808≤x) (h2:x≤9223372036854775807):IntKind.i64.wrap x=x:=wrap_i64 x h1 h2
theorem c87 (ns:List Node) (i:Int):aB Tryz.prog 87 [.agg (cJ ⟨ns⟩),.v (.int .i64 i)]=some (.v (.bool (decide (0≤i) && decide (i<ns.length)))):=by
 rw[cL Tryz.func87 rfl aWa rfl];by_cases h:0≤i
 all_goals
  simp only[ZZ,seval,h,decide_true,decide_false,Bool.false_eq_true,Bool.true_and,Bool.false_and];exact bQ rfl (by simp only[EV,seval]) (.v _)
theorem TF (ns:List Node) (i:Int) (st:St) (d:Option Nat):aM (aB Tryz.prog) 87 [.agg (cJ ⟨ns⟩),.v (.int .i64 i)] st d=some { dst:=d,val:=.v (.bool (decide (0≤i) && decide (i<ns.length)))}:=bC (bE (lX _) (.v _)) (c87 ns i) (.v _)
def UC (n:Int):Bool:=decide (0≤n) && decide (n≤2)
theorem aPL (i:Int):aB Tryz.prog 186 [.v (.int .i64 i)]=some (.v (.bool (UC i))):=by
 rw[cL Tryz.func186 rfl aOZ rfl];by_cases h:0≤i
 all_goals
  simp only[ZZ,seval,h,decide_true,decide_false,Bool.false_eq_true,Bool.true_and,Bool.false_and];exact bQ rfl (by simp only[EV,seval,UC,h,decide_true,decide_false,Bool.false_and,Bool.true_and]) (.v _)
noncomputable def aN (ns:List Node) (r:cN):Int:=match ns.findIdx? (fun n=>decide (n.block.root=r)) with
 | some k=>(k:Int)
 | none=>-1
theorem MJ {ns:List Node} {r:cN} {i:Int} (h0:0≤i) (h1:i<ns.length) (hr:(nd ns i).block.root=r) (hb:∀j,0≤j→j<i→(nd ns j).block.root≠r):aN ns r=i:=by
 obtain⟨hi,e⟩:=Lr h0 h1
 have:ns.findIdx? (fun n=>decide (n.block.root=r))=some i.toNat:=by
  rw[List.findIdx?_eq_some_iff_getElem];refine⟨hi,by simp[← e,hr],fun j hj=>?_⟩
  have h:=hb j (by omega) (by omega)
  have O6:j<ns.length:=by omega
  simp[nd,O6] at h
  simpa using h
 unfold aN;rw[this];simp;omega
theorem Xj {ns:List Node} {r:cN} (hb:∀j,0≤j→j<(ns.length:Int)→(nd ns j).block.root≠r):aN ns r=-1:=by
 have:ns.findIdx? (fun n=>decide (n.block.root=r))=none:=by
  rw[List.findIdx?_eq_none_iff];intro n hn;obtain⟨j,hj,rfl⟩:=List.getElem_of_mem hn
  have h:=hb j (by omega) (by omega)
  simp[nd,hj] at h
  simpa using h
 unfold aN;rw[this]
theorem c46 (ns:List Node) (r:cN) (hn:(ns.length:Int)<1000000):aB Tryz.prog 46 [.agg (cJ ⟨ns⟩),.agg (bF r)]=some (.v (.int .i64 (aN ns r))):=by
 rw[cL Tryz.func46 rfl aV9 rfl];simp only[ZZ,seval];refine jV (fun n st=>∃i:Int,st.env 2=.ptr 2 0 0∧st.env 3=.ptr 3 0 0∧st.heap 2 0=some (.cells (cJ ⟨ns⟩))∧st.heap 3 0=some (.cells (bF r))∧st.env 5=.v (.int .i64 i)∧0≤i∧i≤ns.length∧n=(ns.length-i).toNat ∧
  ∀j,0≤j→j<i→(nd ns j).block.root≠r)
  (fun e st=>(e=.ret∧st.env 4=.v (.int .i64 (aN ns r)))∨(e=.exit 0∧aN ns r=-1)) ns.length ?step ?start ?rest
 case step =>
  rintro n st ⟨i,h2,h3,vA,Vw,h5,i0,i1,Gk,hb⟩
  by_cases aY:i<ns.length
  ·have hw:IntKind.i64.wrap (i+1)=i+1:=Gl _ (by omega) (by omega)
   by_cases hr:(nd ns i).block.root=r
   ·apply oT (.ret)
    ·simp only[ZZ,seval,h2,h3,vA,Vw,h5,aY,i0,hr];rfl
    ·exact .inl ⟨rfl,by simp only[EV,seval,MJ i0 aY hr hb]⟩
   ·apply oN ((ns.length-(i+1)).toNat)
    ·simp only[ZZ,seval,h2,h3,vA,Vw,h5,aY,i0,hr,hw];rfl
    ·exact⟨i+1,by simp only[EV,seval,h2],by simp only[EV,seval,h3],by simp only[EV,seval,vA],by simp only[EV,seval,Vw],(by simp only[EV,seval]),by omega,by omega,rfl,fun j j0 j1=>by
     rcases Int.lt_or_eq_of_le (show j≤i by omega) with h|rfl
     ·exact hb j j0 h
     ·exact hr⟩
  ·apply oT (.exit 0)
   ·simp only[ZZ,seval,h2,h3,vA,Vw,h5,aY,i0];rfl
   ·exact .inr ⟨rfl,Xj fun j j0 j1=>hb j j0 (by omega)⟩
 case start=>exact⟨0,(by simp only[EV,seval]),(by simp only[EV,seval]),(by simp only[EV,seval]),(by simp only[EV,seval]),(by simp only[EV,seval]),by omega,by omega,by omega,fun j _ _=>by omega⟩
 case rest =>
  rintro e st (⟨rfl,h⟩|⟨rfl,h⟩)
  ·simp only[ZZ,seval];exact bQ rfl h (.v _)
  ·simp only[ZZ,seval];exact bQ rfl (by simp only[EV,seval,h]) (.v _)
end Go.Ab.Tryz
