/-
  Part 9 of the proof: an evaluator of programs, its soundness, and what functions of this program compute.
-/
import Derived.Test.YtmcjkemalibacaaGreatK8
import Derived.Test.YtmcjkemalibacaaGreatK5
set_option linter.all false
set_option maxRecDepth 20000
set_option maxHeartbeats 40000000
section
namespace Go.Ab
open Classical
instance:Inhabited Node:=⟨G8⟩
def nd (ns:List Node) (i:Int):Node:=ns.getD i.toNat G8
def it (l:List Int) (i:Int):Int:=l.getD i.toNat 0
theorem Nu {ns:List Node} {i:Int} (h0:0<=i) (h1:i<ns.length):∃h:i.toNat<ns.length,nd ns i=ns[i.toNat]:=by
 have h:i.toNat<ns.length:=by omega
 exact⟨h,by simp[nd,h]⟩
theorem xW {l:List Int} {i:Int} (h0:0<=i) (h1:i<l.length):∃h:i.toNat<l.length,it l i=l[i.toNat]:=by
 have h:i.toNat<l.length:=by omega
 exact⟨h,by simp[it,h]⟩
theorem VL (l:List Int):aI l=l.map fun x=>.v (.int .i64 x):=by
 induction l with
 | nil=>rfl
 | cons a l ih=>simp only[aI,List.flatMap_cons,List.map_cons,qD] at *;rw[ih];rfl
theorem PB (l:List Int):bD l=l.map fun x=>.v (.int .u64 x):=by
 induction l with
 | nil=>rfl
 | cons a l ih=>simp only[bD,List.flatMap_cons,List.map_cons,sW] at *;rw[ih];rfl
theorem T6 (a b:List Int):aI (a++b)=aI a++aI b:=by simp[aI]
theorem EG (a b:List Node):cD (a++b)=cD a++cD b:=by simp[cD]
theorem M5 (l:List Int):∀c∈aI l,eE c:=by rw[VL];intro c hc;obtain⟨x,_,rfl⟩:=List.mem_map.1 hc;exact .v _
theorem T7 {l:List Int} {i:Int} (h0:0<=i) (h1:i<l.length):(aI l)[i.toNat]? = some (.v (.int .i64 (it l i))):=by
 obtain⟨h,e⟩:=xW h0 h1
 rw[VL,List.getElem?_map,List.getElem?_eq_getElem h,e];rfl
theorem M4 {l:List Int} {i:Int} (h0:0<=i) (h1:i<l.length):(bD l)[i.toNat]? = some (.v (.int .u64 (it l i))):=by
 obtain⟨h,e⟩:=xW h0 h1
 rw[PB,List.getElem?_map,List.getElem?_eq_getElem h,e];rfl
theorem z8 {ns:List Node} {i:Int} (h0:0<=i) (h1:i<ns.length):((cD ns).drop (i.toNat * 240)).take 240=eZ (nd ns i):=by
 obtain⟨h,e⟩:=Nu h0 h1
 rw[e,<- R7 ns i.toNat h];rfl
theorem OK:((1:Nat)=0)=False:=by simp
theorem OL:((0:Nat)=1)=False:=by simp
theorem cT {x:AV} (h:Flat x):∀y∈[x],Flat y:=by simpa using h
theorem bH {x y:AV} (h:Flat x) (h':Flat y):∀z∈[x,y],Flat z:=by simp[h,h']
theorem oW {x y u:AV} (h:Flat x) (h':Flat y) (h2:Flat u):∀z∈[x,y,u],Flat z:=by simp[h,h',h2]
theorem nC (t:Tree):Flat (.agg (cU t)):=.agg _ (p4 t)
theorem vJ (t:Block):Flat (.agg (aT t)):=.agg _ (Cl t)
theorem qS (t:cJ):Flat (.agg (aX t)):=.agg _ (dH t)
theorem Tc (l:List Int):Flat (.sl l.length (aI l)):=.sl _ _ (fS l)
theorem aFX (st:St) (n:Nat) (cs:List AV):aQ st (.sl n cs)=some (n,cs):=rfl
theorem aCW (st:St):aQ st (.v (.slice none 0 0))=some (0,[]):=rfl
theorem aKX (x:Int):qD x=[.v (.int .i64 x)]:=rfl
theorem aKY (x:Int):sW x=[.v (.int .u64 x)]:=rfl
theorem aFY (x:Bool):uA x=[.v (.bool x)]:=rfl
namespace Tryz
open Go.Proofs
theorem aQI (st:St) {ns:List Node} {k:IntKind} {i:Int} (h0:0<=i) (h1:i<ns.length):bE Tryz.prog st 48 (.sl ns.length (cD ns)) (.v (.int k i))=some (.ip (eZ (nd ns i)) 0):=by
 have hl:i.toNat<ns.length:=by omega
 have:i.toNat * 240+240<=ns.length * 240:=by rw[<- Nat.succ_mul];exact Nat.mul_le_mul_right _ hl
 simp only[bE,aKV,VJ,h0,h1,Nv,this,and_self,if_true,z8 h0 h1]
theorem aGC (st:St) {l:List Int} {k:IntKind} {i:Int} (h0:0<=i) (h1:i<l.length):bE Tryz.prog st 22 (.sl l.length (aI l)) (.v (.int k i))=some (.ip (qD (it l i)) 0):=by
 obtain⟨h,e⟩:=xW h0 h1
 have:i.toNat * 1+1<=l.length * 1:=by omega
 have hr:=aCz l i.toNat h
 simp only[bE,aFV,Lx,h0,h1,Ky,this,and_self,if_true,e,<- hr];rfl
theorem aCX {call:Nat->List AV->Option AV} {ops:Array Oper} {st:St} {d:Option Nat} {T:Nat} {pos:String} {eK:Array Edge} (g:Nat) (args:Array Operand) (tN:Array Nat) (h:(g == 215 || g == 226 || g == 227 || g == 229 || g == 228 || g == 230 || g == 231 || g == 210 || g == 81 || g == 217 || g == 222 || g == 235 || g == 220 || g == 101 || g == 57 || g == 32 || (g == 43 && d == some 72) || (g == 31 && d == some 40) || (g == 31 && d == some 56))=false) :
 cE Tryz.prog call ops ⟨d,.call ⟨.value (.func g),args,tN⟩,T,pos,eK,none⟩ st=cA (aN call g (args.toList.map st.ev) st d) fun e=>some (e.apply st):=by
 simp only[Bool.or_eq_false_iff] at h;exact aFg g args tN (aFy (by simp only[h,Bool.or_self])) (aCP (by simp only[h,Bool.or_self])) (S8 (by simp only[h]))
theorem T8 {call:Nat->List AV->Option AV} {ops:Array Oper} {st:St} {d:Option Nat} {T:Nat} {pos:String} {eK:Array Edge} (g:Nat) (args:Array Operand) (tN:Array Nat) (h:(g == 215 || g == 226 || g == 227 || g == 229 || g == 228 || g == 230 || g == 231 || g == 210 || g == 81)=true) :
 cE Tryz.prog call ops ⟨d,.call ⟨.value (.func g),args,tN⟩,T,pos,eK,none⟩ st=cA (kN call g (args.toList.map st.ev) st d) fun e=>some (e.apply st):=aCu g args tN (H2 h)
theorem aCY {call:Nat->List AV->Option AV} {ops:Array Oper} {st:St} {d:Option Nat} {T:Nat} {pos:String} {eK:Array Edge} (g:Nat) (args:Array Operand) (tN:Array Nat) (h:(g == 217 || g == 222 || g == 235 || g == 220 || g == 101 || g == 57 || g == 32 || (g == 43 && d == some 72) || (g == 31 && d == some 40))=true) :
 cE Tryz.prog call ops ⟨d,.call ⟨.value (.func g),args,tN⟩,T,pos,eK,none⟩ st=cA (eY call g (args.toList.map st.ev) st d) fun e=>some (e.apply st):=by
 refine n5 g args tN ?_ (aCQ h)
 simp only[Bool.or_eq_true,Bool.and_eq_true,beq_iff_eq] at h;rcases h with (((((((h|h)|h)|h)|h)|h)|h)|⟨h,_⟩)|⟨h,_⟩<;>(subst h;rfl)
theorem aQJ {S d:Nat} (h:((S == 54 && (d == 36 || d == 42 || d == 26)) || (S == 45 && (d == 84 || d == 91)))=false):Ext.va S d=false:=G9 (by
 simp only[Bool.or_eq_false_iff,Bool.and_eq_false_iff] at h ⊢;exact h.1.imp id fun h=>h.2)
theorem aQK {S d:Nat} (h:((S == 54 && (d == 36 || d == 42 || d == 26)) || (S == 45 && (d == 84 || d == 91)))=false):Ext.pa S d=false:=aFx (by
 simp only[Bool.or_eq_false_iff,Bool.and_eq_false_iff] at h ⊢;exact⟨h.1.imp id fun h=>h.1,h.2⟩)
theorem aCZ {S d:Nat} (h:((S == 54 && (d == 36 || d == 42)) || (S == 45 && (d == 84 || d == 91)))=true):Ext.va S d=false:=G9 (by
 by_cases h2:d=26
 ·subst h2;simp at h
 ·simp[h2])
theorem aFZ {call:Nat->List AV->Option AV} {ops:Array Oper} {st:St} {T:Nat} {pos:String} {eK:Array Edge} (s x:Operand) (S d:Nat) (h:((S == 54 && (d == 36 || d == 42 || d == 26)) || (S == 45 && (d == 84 || d == 91)))=false):cE Tryz.prog call ops ⟨some d,.call ⟨.builtin .append,#[s,x],#[S,S]⟩,T,pos,eK,none⟩ st=cA (cY Tryz.prog st S (st.ev s) (st.ev x)) fun ur =>
 some (((match ur.1 with|some p=>st.gT p.1 p.2 none|none=>st).new d ur.2).put (some d) (.own d (st.aK d))):=CX s x S d (aQJ h) (aQK h)
theorem iK {call:Nat->List AV->Option AV} {ops:Array Oper} {st:St} {T:Nat} {pos:String} {eK:Array Edge} (s x:Operand) (S d:Nat) (h:((S == 54 && (d == 36 || d == 42)) || (S == 45 && (d == 84 || d == 91)))=true) (hn:¬(st.ev s=.v (.slice none 0 0)/\(aQ st (st.ev x)).map Prod.fst=some 0)):cE Tryz.prog call ops ⟨some d,.call ⟨.builtin .append,#[s,x],#[S,S]⟩,T,pos,eK,none⟩ st=cA (cY Tryz.prog st S (st.ev s) (st.ev x)) fun ur =>
 some (((match ur.1 with|some p=>st.gT p.1 p.2 none|none=>st).new d ur.2).put (some d) (.own d (st.aK d))):=aCw s x S d (aCZ h) (H0 h) hn
theorem iJ {call:Nat->List AV->Option AV} {ops:Array Oper} {st:St} {T:Nat} {pos:String} {eK:Array Edge} (s x:Operand) (S d:Nat) (h:((S == 54 && (d == 36 || d == 42)) || (S == 45 && (d == 84 || d == 91)))=true) (hi:(dI Tryz.prog S).isSome=true) (h1:st.ev s=.v (.slice none 0 0)) (h2:(aQ st (st.ev x)).map Prod.fst=some 0):cE Tryz.prog call ops ⟨some d,.call ⟨.builtin .append,#[s,x],#[S,S]⟩,T,pos,eK,none⟩ st=some (st.put (some d) (.v (.slice none 0 0))):=aCx s x S d (aCZ h) (H0 h) hi h1 h2
end Tryz
end Go.Ab
end
section
namespace Go.Ab
open Classical
noncomputable def xF (call:Nat->List AV->Option AV) (g:Nat) (xs:Option (List AV)) (fl:Bool) (st:St) (d:Option Nat):Option mA :=
 cA xs fun xs=>cA (call g xs) fun r=>if fl=true\/Vp r then iG r st d else none
theorem Dz {st:St}:∀(args:List AV),(∀x∈args,Flat x)->bK (args.map (eW st))=some args
 | [],_=>rfl
 | x :: xs,h=>by
   simp only[List.map_cons,dQ (h x (by simp)),bK,Dz xs fun y hy=>h y (by simp[hy]),Option.map_some]
theorem kJ (call:Nat->List AV->Option AV) (g:Nat) (args:List AV) (st:St) (d:Option Nat):aN call g args st d=xF call g (bK (args.map (eW st))) (decide (∀x∈args,Flat x)) st d:=by
 unfold aN xF;by_cases h:∀x∈args,Flat x
 ·rw[if_pos h,Dz args h];have hd:decide (∀x∈args,Flat x)=true:=decide_eq_true h
  rw[hd];simp only[cI,true_or,if_true]
 ·rw[if_neg h];cases bK (args.map (eW st)) with
  | none=>rfl
  | some xs =>
    have hd:decide (∀x∈args,Flat x)=false:=decide_eq_false h
    rw[hd];simp only[cI,Bool.false_eq_true,false_or]
theorem XB {call:Nat->List AV->Option AV} {g:Nat} {xs:List AV} {r:AV} {fl:Bool} {st:St} {d:Option Nat} (h:call g xs=some r) (hr:Vp r) (hf:Flat r):xF call g (some xs) fl st d=some { dst:=d,val:=r }:=by
 unfold xF;simp only[cI,h,hr,or_true,if_true,iG,if_pos hf]
theorem Zh {call:Nat->List AV->Option AV} {g:Nat} {xs:List AV} {b:Bool} {fl:Bool} {st:St} {d:Option Nat} (h:call g xs=some (.v (.bool b))):xF call g (some xs) fl st d=some { dst:=d,val:=.v (.bool b)}:=XB h (.v _) (.v _)
theorem Zs {call:Nat->List AV->Option AV} {g:Nat} {xs:List AV} {k:IntKind} {b:Int} {fl:Bool} {st:St} {d:Option Nat} (h:call g xs=some (.v (.int k b))):xF call g (some xs) fl st d=some { dst:=d,val:=.v (.int k b)}:=XB h (.v _) (.v _)
theorem aAh {call:Nat->List AV->Option AV} {g:Nat} {xs:List AV} {e sz n:Nat} {cs:List AV} {fl:Bool} {st:St} {d:Nat} (h:call g xs=some (.uniq e sz n cs)) (hr:∀c∈cs,eE c):xF call g (some xs) fl st (some d)=some { dst:=some d,val:=.own d (st.aK d),new:=some (d,[.row e sz n cs])}:=by
 have WD:Vp (.uniq e sz n cs):=hr
 have hnf:¬Flat (.uniq e sz n cs):=by intro h;cases h
 unfold xF;simp only[cI,h,WD,or_true,if_true,iG,if_neg hnf];rfl
noncomputable def jE (o:Option jC):Option AV :=
 match o with
 | some (.row _ _ n cs)=>if ∀c∈cs,Flat c then some (.sl n cs) else none
 | _=>none
theorem wA (st:St) (s g:Nat):eW st (.own s g)=jE (st.heap s g):=by
 unfold eW cC jE;rw[if_neg (nD s g)];simp only[if_neg (nD s g)];cases st.heap s g with
 | none=>rfl
 | some e=>cases e<;>rfl
theorem T9 (e sz n:Nat) (l:List Int):jE (some (.row e sz n (aI l)))=some (.sl n (aI l)):=by
 unfold jE;simp only;rw[if_pos (fS l)]
theorem U0 (e sz n:Nat) (l:List Int):jE (some (.row e sz n (bD l)))=some (.sl n (bD l)):=by
 unfold jE;simp only;rw[if_pos (iC l)]
theorem z9 (e sz n:Nat) (l:List Node):jE (some (.row e sz n (cD l)))=some (.sl n (cD l)):=by
 unfold jE;simp only;rw[if_pos (kE l)]
theorem VM (e sz:Nat) (x:Node):jE (some (.row e sz 1 (eZ x)))=some (.sl [x].length (cD [x])):=by
 unfold jE;simp only;rw[if_pos (Nt x)];simp[cD]
theorem Iy (st:St) (x:Value):eW st (.v x)=some (.v x):=dQ (.v x)
theorem Kr (st:St) (t:Tree):eW st (.agg (cU t))=some (.agg (cU t)):=dQ (nC t)
theorem To (st:St) (t:cJ):eW st (.agg (aX t))=some (.agg (aX t)):=dQ (qS t)
theorem Oa (st:St) (t:Block):eW st (.agg (aT t))=some (.agg (aT t)):=dQ (vJ t)
theorem aC0 (st:St) (n:Nat) (l:List Int):eW st (.sl n (aI l))=some (.sl n (aI l)):=dQ (.sl _ _ (fS l))
theorem aC1 (st:St) (n:Nat) (l:List Int):eW st (.sl n (bD l))=some (.sl n (bD l)):=dQ (.sl _ _ (iC l))
theorem aF0 (st:St):eW st (.agg [.v (.slice none 0 0)])=some (.agg [.v (.slice none 0 0)]):=dQ (.agg _ (by simp;exact .v _))
theorem gB {α:Type}:bK ([]:List (Option α))=some []:=rfl
theorem bJ {α:Type} (x:α) (r:List (Option α)):bK (some x :: r)=(bK r).map (x :: ·):=rfl
theorem aF1 (x:Int):yY 3 1 8 (some (1,[.v (.int .i64 x)]))=some (none,.row 3 1 [x].length (aI [x])):=by
 simp[yY,maxLen];rfl
theorem aF2 (l:List Int) (x:Int) (s g:Nat) (h:(l.length:Int)<1000000):yK 3 1 8 (some (.row 3 1 l.length (aI l))) s g (some (1,[.v (.int .i64 x)]))=some (some (s,g),.row 3 1 (l++[x]).length (aI (l++[x]))):=by
 simp only[yK];rw[if_pos ⟨by simp,by simp,by simp,by omega,by simp only[maxLen];omega⟩,T6]
 simp[aI,qD]
theorem aC2 (x:Node):yY 76 240 352 (some (1,eZ x))=some (none,.row 76 240 [x].length (cD [x])):=by
 simp[yY,maxLen,cD]
theorem aC3 (l:List Node) (x:Node) (s g:Nat) (h:(l.length:Int)<1000000):yK 76 240 352 (some (.row 76 240 l.length (cD l))) s g (some (1,eZ x))=some (some (s,g),.row 76 240 (l++[x]).length (cD (l++[x]))):=by
 simp only[yK];rw[if_pos ⟨by simp,by simp,by simp,by omega,by simp only[maxLen];omega⟩,EG]
 simp[cD]
theorem aC4 (l:List Node) (h:(l.length:Int)<1000000):yY 76 240 352 (some (l.length,cD l))=some (none,.row 76 240 l.length (cD l)):=by
 simp only[yY];rw[if_pos (by refine⟨by simp, ?_, ?_⟩<;>(try simp only[maxLen])<;>omega)]
theorem aC5 (l:List Node) (h:(l.length:Int)<1000000):acE 76 240 352 0 [] (some (l.length,cD l))=some (none,.row 76 240 l.length (cD l)):=by
 simp only[acE];rw[if_pos ⟨by simp,by simp,by simp,by omega,by simp only[maxLen];omega⟩]
 simp
theorem aC6 (l:List Node) (x:Node) (h:(l.length:Int)<1000000):acE 76 240 352 l.length (cD l) (some (1,eZ x))=some (none,.row 76 240 (l++[x]).length (cD (l++[x]))):=by
 simp only[acE];rw[if_pos (by refine⟨by simp,by simp,.inr (by omega), ?_, ?_⟩<;>(try simp only[maxLen])<;>omega),EG]
 simp[cD]
def onI {α:Type} (x:AV) (k:Int->Option α):Option α :=
 match x with
 | .v (.int .i64 v)=>k v
 | _=>none
def aHI {α:Type} (z:Nat) (x:AV) (k:List AV->Option α):Option α :=
 match x with
 | .agg cs=>if cs.length=z then k cs else none
 | _=>none
@[congr] theorem aLS {α:Type} {x y:AV} {k:Int->Option α} (h:x=y):onI x k=onI y k:=by rw[h]
@[congr] theorem aHJ {α:Type} {z:Nat} {x y:AV} {k:List AV->Option α} (h:x=y):aHI z x k=aHI z y k:=by rw[h]
def Nr {α:Type} (x:AV) (k:Int->Option α) (fb:Option α):Option α :=
 match x with
 | .v (.int .i64 v)=>k v
 | _=>fb
def VN {α:Type} (z:Nat) (x:AV) (k:List AV->Option α) (fb:Option α):Option α :=
 match x with
 | .agg cs=>if cs.length=z then k cs else fb
 | _=>fb
def VO {α:Type} (x:AV) (k:Nat->List AV->Option α) (fb:Option α):Option α :=
 match x with
 | .zC g cs=>k g cs
 | _=>fb
theorem aF3 {α:Type} (v:Int) (k:Int->Option α) (fb:Option α):Nr (.v (.int .i64 v)) k fb=k v:=rfl
theorem U1 {α:Type} (z:Nat) (cs:List AV) (k:List AV->Option α) (fb:Option α) (h:cs.length=z):VN z (.agg cs) k fb=k cs:=if_pos h
theorem U2 {α:Type} (g:Nat) (cs:List AV) (k:Nat->List AV->Option α) (fb:Option α):VO (.zC g cs) k fb=k g cs:=rfl
@[congr] theorem aLT {α:Type} {x y:AV} {k:Int->Option α} {fb:Option α} (h:x=y):Nr x k fb=Nr y k fb:=by rw[h]
@[congr] theorem aHK {α:Type} {z:Nat} {x y:AV} {k:List AV->Option α} {fb:Option α} (h:x=y):VN z x k fb=VN z y k fb:=by rw[h]
@[congr] theorem aHL {α:Type} {x y:AV} {k:Nat->List AV->Option α} {fb:Option α} (h:x=y):VO x k fb=VO y k fb:=by rw[h]
namespace Tryz
open Go.Proofs
theorem U3 (st:St) (x:AV):cY Tryz.prog st 22 (.v (.slice none 0 0)) x=yY 3 1 8 (aQ st x):=vB Lx x
theorem U4 (st:St) (s g:Nat) (x:AV):cY Tryz.prog st 22 (.own s g) x=yK 3 1 8 (st.heap s g) s g (aQ st x):=sG Lx s g x
theorem U5 (st:St) (x:AV):cY Tryz.prog st 48 (.v (.slice none 0 0)) x=yY 76 240 352 (aQ st x):=vB VJ x
theorem U6 (st:St) (s g:Nat) (x:AV):cY Tryz.prog st 48 (.own s g) x=yK 76 240 352 (st.heap s g) s g (aQ st x):=sG VJ s g x
theorem aC7 (st:St) (n:Nat) (cs:List AV) (x:AV):cY Tryz.prog st 48 (.cl n cs) x=acE 76 240 352 n cs (aQ st x):=aJx VJ n cs x
theorem U7 (st:St) (s g:Nat) (k:IntKind) (i:Int):bE Tryz.prog st 22 (.own s g) (.v (.int k i))=TX 3 1 (st.heap s g) s g i:=by
 simp only[bE,aFV,Lx,TX];cases st.heap s g with
 | none=>rfl
 | some e=>cases e<;>rfl
theorem U8 (st:St) (s g:Nat) (k:IntKind) (i:Int):bE Tryz.prog st 48 (.own s g) (.v (.int k i))=TX 76 240 (st.heap s g) s g i:=by
 simp only[bE,aKV,VJ,TX];cases st.heap s g with
 | none=>rfl
 | some e=>cases e<;>rfl
theorem aF4 (l:List Int) (s g:Nat) (i:Int) (h0:0<=i) (h1:i<l.length):TX 3 1 (some (.row 3 1 l.length (aI l))) s g i=some (.ptr s g i.toNat):=by
 simp[TX,h0,h1]
theorem aC8 (l:List Node) (s g:Nat) (i:Int) (h0:0<=i) (h1:i<l.length):TX 76 240 (some (.row 76 240 l.length (cD l))) s g i=some (.ptr s g (i.toNat * 240)):=by
 simp[TX,h0,h1]
theorem VP (st:St) (s g:Nat):eW st (.agg [.own s g])=(jE (st.heap s g)).map fun y=>.agg [y]:=by
 have hn:¬Flat (.agg [.own s g]):=by intro h;cases h with|agg _ h=>exact nD s g (h _ (by simp))
 unfold eW jE;rw[if_neg hn];simp only[List.map_cons,List.map_nil];unfold cC;rw[if_neg (nD s g)];simp only
 cases st.heap s g with
 | none=>rfl
 | some e=>cases e with
   | row a b n cs =>
     by_cases h:∀c∈cs,Flat c
     ·simp only[if_pos h,bK,Option.map_some]
     ·simp only[if_neg h,bK,Option.map_none]
   | _=>rfl
theorem aKZ (x:AV):rd [x] 0 1=[x]:=rfl
theorem aK0 (x y:AV):dG [x] 0 [y] 1=[y]:=rfl
theorem aC9 (x:AV) (t:Tree):dG [x] 0 (cU t) 1=cU t:=rfl
theorem aDa (x:AV) (t:Tree):dG (cU t) 0 [x] 1=[x]:=rfl
theorem nU {l:List Int} {i:Int} (h0:0<=i) (h1:i<l.length):(aI l)[i.toNat]? = some (.v (.int .i64 (it l i))):=T7 h0 h1
def vow (o:Option jC):Option (Nat × List AV) :=
 match o with
 | some (.row _ _ n cs)=>some (n,cs)
 | some (.Dh _ _ n cs)=>some (n,cs)
 | _=>none
theorem aF5 (e sz n:Nat) (cs:List AV):vow (some (.row e sz n cs))=some (n,cs):=rfl
theorem U9 (st:St) (s g:Nat):aQ st (.own s g)=vow (st.heap s g):=by
 simp only[aQ,vow];cases st.heap s g with
 | none=>rfl
 | some o=>cases o<;>rfl
section
variable {call:Nat->List AV->Option AV} {ops:Array Oper} {st:St} {T:Nat} {pos:String} {eK:Array Edge}
theorem aF6 (d:Nat) (x:Operand) {v:Int} (h:st.ev x=.v (.int .i64 v)):cE Tryz.prog call ops ⟨some d,.buildSlice 22 1 #[(0,x)],T,pos,eK,none⟩ st=some ((st.new d (.row 3 1 1 [.v (.int .i64 v)])).put (some d) (.own d (st.aK d))):=by
 rw[jS];simp[Lx,ze3,cA,h,AV.jO,Value.oneCell',gM,AV.cells]
theorem aF7 (d:Nat) (x:Operand) {cs:List AV} (h:st.ev x=.agg cs) (hl:cs.length=240):cE Tryz.prog call ops ⟨some d,.buildSlice 48 1 #[(0,x)],T,pos,eK,none⟩ st=some ((st.new d (.row 76 240 1 cs)).put (some d) (.own d (st.aK d))):=by
 rw[jS];have hz:(DC.map AV.v).length=240:=by rw[MW];simp
 simp only[VJ,aJ1,cA,List.toList_toArray,List.all_cons,List.all_nil,h,AV.jO,Bool.and_self,List.map_cons,List.map_nil,gM,AV.cells,hl,Nat.zero_mul,Nat.zero_add,true_and,List.take_zero,List.nil_append];have h2:((List.range 1).flatMap fun _=>DC.map AV.v)=DC.map AV.v:=by simp[List.range,List.range.loop]
 rw[h2,if_pos (by simp),if_pos (by rw[hz];exact Nat.le_refl _)]
 rw[List.drop_of_length_le (by rw[hz];exact Nat.le_refl _),List.append_nil]
theorem aDb (d:Nat) (x:Operand):cE Tryz.prog call ops ⟨some d,.buildSlice 22 1 #[(0,x)],T,pos,eK,none⟩ st =
 Nr (st.ev x) (fun v=>some ((st.new d (.row 3 1 1 [.v (.int .i64 v)])).put (some d) (.own d (st.aK d)))) (cE Tryz.prog call ops ⟨some d,.buildSlice 22 1 #[(0,x)],T,pos,eK,none⟩ st):=by
 unfold Nr;split
 ·rename_i v h;exact aF6 d x h
 ·rfl
theorem V0 (d:Nat) (x y z:Operand) {a b c:Int} (h1:st.ev x=.v (.int .i64 a)) (h2:st.ev y=.v (.int .i64 b)) (h3:st.ev z=.v (.int .i64 c)):cE Tryz.prog call ops ⟨some d,.buildSlice 22 3 #[(0,x),(1,y),(2,z)],T,pos,eK,none⟩ st =
 some ((st.new d (.row 3 1 [a,b,c].length (aI [a,b,c]))).put (some d) (.own d (st.aK d))):=by
 rw[jS];simp[Lx,ze3,cA,h1,h2,h3,AV.jO,Value.oneCell',gM,AV.cells,List.range,List.range.loop,aI,qD]
theorem A0 (d:Nat) (x y z:Operand):cE Tryz.prog call ops ⟨some d,.buildSlice 22 3 #[(0,x),(1,y),(2,z)],T,pos,eK,none⟩ st =
 Nr (st.ev x) (fun a=>Nr (st.ev y) (fun b=>Nr (st.ev z) (fun c=>some ((st.new d (.row 3 1 [a,b,c].length (aI [a,b,c]))).put (some d) (.own d (st.aK d)))) (cE Tryz.prog call ops ⟨some d,.buildSlice 22 3 #[(0,x),(1,y),(2,z)],T,pos,eK,none⟩ st))
  (cE Tryz.prog call ops ⟨some d,.buildSlice 22 3 #[(0,x),(1,y),(2,z)],T,pos,eK,none⟩ st)) (cE Tryz.prog call ops ⟨some d,.buildSlice 22 3 #[(0,x),(1,y),(2,z)],T,pos,eK,none⟩ st):=by
 unfold Nr;split
 ·rename_i a h1;try dsimp only
  split
  ·rename_i b h2;try dsimp only
   split
   ·rename_i c h3;exact V0 d x y z h1 h2 h3
   ·rfl
  ·rfl
 ·rfl
theorem aDc (d:Nat) (x:Operand):cE Tryz.prog call ops ⟨some d,.buildSlice 48 1 #[(0,x)],T,pos,eK,none⟩ st =
 VN 240 (st.ev x) (fun cs=>some ((st.new d (.row 76 240 1 cs)).put (some d) (.own d (st.aK d)))) (cE Tryz.prog call ops ⟨some d,.buildSlice 48 1 #[(0,x)],T,pos,eK,none⟩ st):=by
 unfold VN;split
 ·rename_i cs h;split
  ·rename_i hl;exact aF7 d x h hl
  ·rfl
 ·rfl
theorem HF (S d:Nat) (l c:Operand):cE Tryz.prog call ops ⟨some d,.makeSlice S l c,T,pos,eK,none⟩ st =
 Nr (st.ev l) (fun n=>Nr (st.ev c) (fun m=>if 0<=n/\n=m then (cA (dI Tryz.prog S) fun t=>cA (dU Tryz.prog t.1) fun z =>
  if n * t.2.2<=140737488355328/\n<=maxLen then some ((st.new d (.row t.1 t.2.1 n.toNat ((List.range n.toNat).flatMap fun _=>z.map .v))).put (some d) (.own d (st.aK d))) else none)
  else cE Tryz.prog call ops ⟨some d,.makeSlice S l c,T,pos,eK,none⟩ st) (cE Tryz.prog call ops ⟨some d,.makeSlice S l c,T,pos,eK,none⟩ st)) (cE Tryz.prog call ops ⟨some d,.makeSlice S l c,T,pos,eK,none⟩ st):=by
 unfold Nr;split
 ·rename_i n hl;split
  ·rename_i m hc;dsimp only
   split
   ·rename_i hnm;obtain⟨h0,rfl⟩:=hnm
    have hn:n=(n.toNat:Int):=by omega
    rw[MQ S d l c (n:=n.toNat) (by rw[hl,<- hn]) (by rw[hc,<- hn]),<- hn]
   ·rfl
  ·rfl
 ·rfl
theorem V1 (t:Nat) (args:Array Operand) (tN:Array Nat) (d:Option Nat):cE Tryz.prog call ops ⟨d,.call ⟨.value (.tmp t),args,tN⟩,T,pos,eK,none⟩ st =
 VO (st.env t) (fun g mH=>cA (aN call g (args.toList.map st.ev++mH) st d) fun e=>some (e.apply st)) (cE Tryz.prog call ops ⟨d,.call ⟨.value (.tmp t),args,tN⟩,T,pos,eK,none⟩ st):=by
 unfold VO;split
 ·rename_i g mH h;exact aCv t args tN h
 ·rfl
end
end Tryz
end Go.Ab
end
namespace Go.Ab
open Classical
theorem Pk {h0:Nat->Obj->Prop} {w w':World} {v:Value} {p:Option Addr} {cap:Nat} (h:v=.slice p 0 cap):BX h0 w w' (.sl 0 []) v:=by
 subst h;exact Ug (.sl 0 [] (fun x hx=>by cases hx)) (.JQ 0 cap p (Nat.zero_le _))
theorem VQ [Ext] {P:Program} (hm:P.follows .mixedOrders=true) (hx:IX P) {f:Nat} (h:∀p cap,∃r,aC P f [.v (.slice p 0 cap)]=some r/\(r=.v (.slice none 0 0)\/∃e sz,r=.uniq e sz 0 [])):yF P f/\Uc P f [.sl 0 []] (.sl 0 []):=by
 have ZO:yF P f:=by
  obtain⟨r,hr,_⟩:=h none 0
  obtain⟨n,hn⟩:=(tY P).1 hr
  exact (aCm hm hx n f _ r hn).1
 refine⟨ZO,fun w h0 vs hh eM=>?_⟩
 have hl:=eM.len
 obtain⟨v,hv⟩:∃v,vs.toList=[v]:=by
  cases e:vs.toList with
  | nil=>rw[e] at hl;simp at hl
  | cons v r=>cases r with
    | nil=>exact⟨v,rfl⟩
    | cons _ _=>rw[e] at hl;simp at hl
 have F7:vs=#[v]:=Array.ext' hv
 subst F7;have h1:cK (bare h0) (.sl 0 []) v:=eM.rel 0 _ v rfl rfl
 obtain⟨p,cap,rfl⟩:=WS h1
 obtain⟨r,hr,hc⟩:=h p cap
 have hC:Uc P f [.v (.slice p 0 cap)] r:=BS (P:=P) hm hx hr
 refine (hC w h0 #[.slice p 0 cap] hh ⟨rfl,fun i x y hx hy=>?_⟩).mono fun e w' ⟨v,he,hv,hg⟩=>⟨v,he, ?_,hg⟩
 ·cases i with
  | zero=>cases hx;cases hy;exact .v _
  | succ i=>cases hx
 obtain⟨us,_,_,_,h4,h5⟩:=hv
 rcases hc with rfl|⟨e,sz,rfl⟩
 ·have hl:us=[]:=List.length_eq_zero_iff.1 (h4 0 0).symm
  subst hl;have:=(h5 (bare (newHs h0 w w' [])) 0 0 (fun _ _ h=>h) (by simp)).1
  exact Pk (iI this)
 ·have hl:us.length=1:=(h4 0 0).symm
  obtain⟨u,rfl⟩:=List.length_eq_one_iff.1 hl
  have h6:=h5 ⟨newHs h0 w w' [u],fun _ _=>u,fun _=>1⟩ 0 0 (fun _ _ h=>h) (fun i x hx=>by
   cases i with
   | zero=>cases hx;exact⟨Nat.zero_lt_one,rfl⟩
   | succ i=>cases hx)
  have h7:v=u:=by
   have:=h6.1
   cases this
   rfl
  subst h7;obtain⟨xs,ho,_⟩:=h6.2 0 _ v rfl rfl
  rcases ho.2 with ⟨q,hq,_⟩|⟨b,c,cur,hq,_⟩
  ·exact Pk hq
  ·exact Pk hq
end Go.Ab
section
namespace Go.Ab.Tryz
open Classical Go.Proofs Go.Ab
theorem aK1:@bF aFw Tryz.f164=true:=by kernel_rfl
section
variable [E:Ext]
theorem aQL (p:Option Addr) (cap:Nat):fP Tryz.prog .eql 45 (.v (.slice p 0 cap)) (.v (.slice none 0 0))=some (.v (.bool p.isNone)):=by
 have h:sN Tryz.prog .eql 45 p.isNone=some (.v (.bool p.isNone)):=by cases p<;>kernel_rfl
 exact h
theorem sv0 (st:St) (p:Option Addr) (cap:Nat):aQ st (.v (.slice p 0 cap))=some (0,[]):=rfl
theorem aX8 (hx:∀xs,E.ext 164 xs=none) (hk:E.pY 164=false) (hv:E.va 45 7=false) (hp:E.pa 45 7=false) (qK:bF Tryz.f164=true) (p:Option Addr) (cap:Nat):∃r,aC Tryz.prog 164 [.v (.slice p 0 cap)]=some r/\(r=.v (.slice none 0 0)\/∃e sz,r=.uniq e sz 0 []):=by
 rw[Qw Tryz.prog Tryz.func164 rfl qK _ (hx _) rfl];cases p with
 | none =>
   have h:=aQL none cap
   refine⟨.v (.slice none 0 0), ?_,.inl rfl⟩
   simp -implicitDefEqProofs only [Tryz.f164,cI,Al,jG,zO,wL,zU,Lg,zP,Lh,En,wM,Ll,Lm,Ln,Lo,Lp,Lq,Lr,Ls,Lt,Lu,Nc,Ew,zT,wN,wO,Em,Rs,Ep,Up,Li,sD,Eu,Es,tZ,Lf,wK,zN,Ek,El,Ld,zS,xM,rO,mE,Lk,Gn,uS,Lj,Er,Et,zQ,sF,zV,wP,Eo,Uw,Ux,At,As,Ex.inBlock,ge_iff_le,gt_iff_lt,Bool.or_false,Bool.false_or,Bool.false_and,Bool.or_true,Bool.not_true,Bool.not_false,Bool.false_eq_true,Bool.true_eq_false,List.getElem?_toArray,List.toList_toArray,Option.bind_some,Option.map_some,Option.getD_some,Option.getD_none,List.map_cons,List.map_nil,List.getElem?_cons_zero,List.getElem?_cons_succ,List.getElem?_nil,and_true,true_and,and_self,false_and,and_false,↓reduceIte,reduceCtorEq,if_true,if_false,decide_true,decide_false,not_false_eq_true,ne_eq,Nat.reduceEqDiff,Nat.reduceBEq,Nat.succ_ne_zero,Nat.add_zero,Nat.zero_add,seval,h,Option.isNone_none]
   exact TM hk (.inl rfl) rfl (by simp only[cI,Al,jG,zO,wL,zU,Lg,zP,Lh,En,wM,Ll,Lm,Ln,Lo,Lp,Lq,Lr,Ls,Lt,Lu,Nc,Ew,zT,wN,wO,Em,Rs,Ep,Up,Li,sD,Eu,Es,tZ,Lf,wK,zN,Ek,El,Ld,zS,xM,rO,mE,Lk,Gn,uS,Lj,Er,Et,zQ,sF,zV,wP,Eo,Uw,Ux,At,As,Ex.inBlock,ge_iff_le,gt_iff_lt,Bool.or_false,Bool.false_or,Bool.false_and,Bool.or_true,Bool.not_true,Bool.not_false,Bool.false_eq_true,Bool.true_eq_false,List.getElem?_toArray,List.toList_toArray,Option.bind_some,Option.map_some,Option.getD_some,Option.getD_none,List.map_cons,List.map_nil,List.getElem?_cons_zero,List.getElem?_cons_succ,List.getElem?_nil,and_true,true_and,and_self,false_and,and_false,↓reduceIte,reduceCtorEq,if_true,if_false,decide_true,decide_false,not_false_eq_true,ne_eq,Nat.reduceEqDiff,Nat.reduceBEq,Nat.succ_ne_zero,Nat.add_zero,Nat.zero_add,seval]) (.v _)
 | some a =>
   have h:=aQL (some a) cap
   have ha:=fun s g=>Fy (e:=74) (sz:=238) (by_:=336) (s:=s) (g:=g) (n:=0) (cs:=[]) rfl (by decide) (by decide)
   refine⟨.uniq 74 238 0 [], ?_,.inr ⟨74,238,rfl⟩⟩
   simp -implicitDefEqProofs only [Tryz.f164,cI,Al,jG,zO,wL,zU,Lg,zP,Lh,En,wM,Ll,Lm,Ln,Lo,Lp,Lq,Lr,Ls,Lt,Lu,Nc,Ew,zT,wN,wO,Em,Rs,Ep,Up,Li,sD,Eu,Es,tZ,Lf,wK,zN,Ek,El,Ld,zS,xM,rO,mE,Lk,Gn,uS,Lj,Er,Et,zQ,sF,zV,wP,Eo,Uw,Ux,At,As,Ex.inBlock,ge_iff_le,gt_iff_lt,Bool.or_false,Bool.false_or,Bool.false_and,Bool.or_true,Bool.not_true,Bool.not_false,Bool.false_eq_true,Bool.true_eq_false,List.getElem?_toArray,List.toList_toArray,Option.bind_some,Option.map_some,Option.getD_some,Option.getD_none,List.map_cons,List.map_nil,List.getElem?_cons_zero,List.getElem?_cons_succ,List.getElem?_nil,and_true,true_and,and_self,false_and,and_false,↓reduceIte,reduceCtorEq,if_true,if_false,decide_true,decide_false,not_false_eq_true,ne_eq,Nat.reduceEqDiff,Nat.reduceBEq,Nat.succ_ne_zero,Nat.add_zero,Nat.zero_add,seval,h,Option.isNone_some,Oz nY aFB,CX _ _ 45 7 hv hp,sG nY,sv0,ha]
   exact Qr (s:=7) (g:=0) hk (.inl rfl) rfl (by simp only[cI,Al,jG,zO,wL,zU,Lg,zP,Lh,En,wM,Ll,Lm,Ln,Lo,Lp,Lq,Lr,Ls,Lt,Lu,Nc,Ew,zT,wN,wO,Em,Rs,Ep,Up,Li,sD,Eu,Es,tZ,Lf,wK,zN,Ek,El,Ld,zS,xM,rO,mE,Lk,Gn,uS,Lj,Er,Et,zQ,sF,zV,wP,Eo,Uw,Ux,At,As,Ex.inBlock,ge_iff_le,gt_iff_lt,Bool.or_false,Bool.false_or,Bool.false_and,Bool.or_true,Bool.not_true,Bool.not_false,Bool.false_eq_true,Bool.true_eq_false,List.getElem?_toArray,List.toList_toArray,Option.bind_some,Option.map_some,Option.getD_some,Option.getD_none,List.map_cons,List.map_nil,List.getElem?_cons_zero,List.getElem?_cons_succ,List.getElem?_nil,and_true,true_and,and_self,false_and,and_false,↓reduceIte,reduceCtorEq,if_true,if_false,decide_true,decide_false,not_false_eq_true,ne_eq,Nat.reduceEqDiff,Nat.reduceBEq,Nat.succ_ne_zero,Nat.add_zero,Nat.zero_add,seval]) (by simp only[cI,Al,jG,zO,wL,zU,Lg,zP,Lh,En,wM,Ll,Lm,Ln,Lo,Lp,Lq,Lr,Ls,Lt,Lu,Nc,Ew,zT,wN,wO,Em,Rs,Ep,Up,Li,sD,Eu,Es,tZ,Lf,wK,zN,Ek,El,Ld,zS,xM,rO,mE,Lk,Gn,uS,Lj,Er,Et,zQ,sF,zV,wP,Eo,Uw,Ux,At,As,Ex.inBlock,ge_iff_le,gt_iff_lt,Bool.or_false,Bool.false_or,Bool.false_and,Bool.or_true,Bool.not_true,Bool.not_false,Bool.false_eq_true,Bool.true_eq_false,List.getElem?_toArray,List.toList_toArray,Option.bind_some,Option.map_some,Option.getD_some,Option.getD_none,List.map_cons,List.map_nil,List.getElem?_cons_zero,List.getElem?_cons_succ,List.getElem?_nil,and_true,true_and,and_self,false_and,and_false,↓reduceIte,reduceCtorEq,if_true,if_false,decide_true,decide_false,not_false_eq_true,ne_eq,Nat.reduceEqDiff,Nat.reduceBEq,Nat.succ_ne_zero,Nat.add_zero,Nat.zero_add,seval]<;>rfl) (fun c h=>by cases h)
end
theorem P3:oP Tryz.prog Ext.ext:=fun g xs r h=>by
 have h:(bif g == 164 then clE xs else none)=some r:=h
 cases hg:g == 164 with
 | false=>rw[hg] at h;cases h
 | true =>
   rw[hg] at h;have hg:g=164:=by simpa using hg
   subst hg;have h:clE xs=some r:=h
   unfold clE at h;split at h
   ·cases h
    exact @VQ aFw Tryz.prog mixed ⟨fun _ _ _ h=>(by cases h),fun _ _ _ _ _ h=>(by cases h)⟩ 164 (@aX8 aFw (fun _=>rfl) rfl rfl rfl aK1)
   ·cases h
end Go.Ab.Tryz
end
namespace Go.Ab
open Classical
theorem aF8 (b:Bool):unA .not (.v (.bool b))=some (.v (.bool (!b))):=rfl
theorem aF9 (k:IntKind) (n:Int):unA .neg (.v (.int k n))=some (.v (.int k (k.wrap (0-n)))):=rfl
theorem aGa (k:IntKind) (n:Int):unA .xor (.v (.int k n))=some (.v (.int k (k.wrap (BitVec.ofInt k.bits (if k.signed then -1 else k.max) ^^^ BitVec.ofInt k.bits n).toNat))):=rfl
def aDd (a b:Option IntKind) (n:Int):Option AV :=
 match a,b with
 | some k,some _=>some (.v (.int k (k.wrap n)))
 | _,_=>none
theorem A3 (k k':IntKind) (n:Int):aDd (some k) (some k') n=some (.v (.int k (k.wrap n))):=rfl
theorem V5 (P:Program) (s d:Nat) (k:IntKind) (n:Int):Nc P s d (.v (.int k n))=aDd (intKind P d) (intKind P s) n:=by
 simp only[Nc,aDd];cases intKind P d with
 | none=>rfl
 | some a=>cases intKind P s<;>rfl
theorem aGb (s g o k:Nat):vR (.ptr s g o) k=some (.ptr s g (o+k)):=rfl
theorem aK2 (cs:List AV) (o k:Nat):vR (.ip cs o) k=if o+k<=cs.length then some (.ip cs (o+k)) else none:=rfl
def vL (P:Program) (T:Nat) (e:Option jC) (o:Nat):Option AV :=
 match e with
 | some (.cells cs)=>fC P T cs o
 | some (.row _ _ _ cs)=>fC P T cs o
 | some (.Dh _ _ _ cs)=>fC P T cs o
 | _=>none
theorem VR (P:Program) (T o:Nat) (cs:List AV):vL P T (some (.cells cs)) o=fC P T cs o:=rfl
theorem V6 (P:Program) (T o e sz n:Nat) (cs:List AV):vL P T (some (.row e sz n cs)) o=fC P T cs o:=rfl
theorem aGc (P:Program) (st:St) (T o:Nat) (cs:List AV):He P st T (.ip cs o)=fC P T cs o:=rfl
theorem aDe (P:Program) (st:St) (T s g o:Nat):He P st T (.ptr s g o)=vL P T (st.heap s g) o:=by
 simp only[He,vL];cases st.heap s g with
 | none=>rfl
 | some e=>cases e<;>rfl
theorem aK3 (x:Value):(AV.v x).jO=x.oneCell':=rfl
theorem aDf (cs:List AV):(AV.agg cs).jO=true:=rfl
theorem aGd (n:Nat) (cs:List AV):(AV.sl n cs).jO=true:=rfl
theorem aGe (n:Nat) (cs:List AV):(AV.cl n cs).jO=true:=rfl
theorem aGf (n:Nat) (cs:List AV):(AV.ip cs n).jO=true:=rfl
theorem aDg (s g o:Nat):(AV.ptr s g o).jO=true:=rfl
theorem aDh (s g:Nat):(AV.own s g).jO=true:=rfl
theorem aGg (s g:Nat):(AV.mp s g).jO=true:=rfl
theorem aDi (f:Nat) (cs:List AV):(AV.zC f cs).jO=true:=rfl
theorem aQM (x:Value):(AV.v x).cells=[.v x]:=rfl
theorem aGh (cs:List AV):(AV.agg cs).cells=cs:=rfl
theorem aK4 (n:Nat) (cs:List AV):(AV.sl n cs).cells=[.sl n cs]:=rfl
theorem aK5 (n:Nat) (cs:List AV):(AV.cl n cs).cells=[.cl n cs]:=rfl
theorem aK6 (n:Nat) (cs:List AV):(AV.ip cs n).cells=[.ip cs n]:=rfl
theorem aGi (s g o:Nat):(AV.ptr s g o).cells=[.ptr s g o]:=rfl
theorem aGj (s g:Nat):(AV.own s g).cells=[.own s g]:=rfl
theorem aK7 (s g:Nat):(AV.mp s g).cells=[.mp s g]:=rfl
theorem aGk (f:Nat) (cs:List AV):(AV.zC f cs).cells=[.zC f cs]:=rfl
theorem aGl (k:IntKind) (n:Int):(Value.int k n).oneCell'=true:=rfl
theorem aDj (b:Bool):(Value.bool b).oneCell'=true:=rfl
theorem V7 (a:Option Addr) (n m:Nat):(Value.slice a n m).oneCell'=true:=rfl
theorem A4 (id:Nat):Ex.normal.inBlock id=.normal:=rfl
theorem aGm (id:Nat):Ex.ret.inBlock id=.ret:=rfl
theorem aDk (id i:Nat):(Ex.exit i).inBlock id=if i=id then .normal else .exit i:=rfl
theorem aGn (l:List Oper) (j:Nat):Rs l.toArray j=(l[j]?).bind (·.dst):=by simp[Rs]
theorem gei (a b:Int):(a>=b)=(b<=a):=rfl
theorem gti (a b:Int):(a > b)=(b<a):=rfl
theorem aX9 (a b:Nat):(a>=b)=(b<=a):=rfl
theorem gtn (a b:Nat):(a > b)=(b<a):=rfl
end Go.Ab
section
namespace Go.Ab
open Classical
def cU8 (x:Int):List AV:=[.v (.int .u8 x)]
theorem aGo (x:Int):(cU8 x).length=1:=rfl
theorem aDl (s:Int):∀x∈cU8 s,Flat x:=by intro x hx;simp[cU8] at hx;subst hx;exact .v _
def kH (l:List Int):List AV:=l.flatMap cU8
theorem wC (l:List Int):∀x∈kH l,Flat x:=by
 intro x hx;obtain⟨y,_,hy⟩:=List.mem_flatMap.1 hx
 exact aDl y x hy
section
variable {α:Type} {c:α->List AV} {sz:Nat}
theorem iL (hc:∀x,(c x).length=sz) (l:List α):(l.flatMap c).length=l.length * sz:=by
 induction l with
 | nil=>simp
 | cons x l ih=>simp only[List.flatMap_cons,List.length_append,hc,List.length_cons,ih];rw[Nat.succ_mul];omega
theorem yV (hc:∀x,(c x).length=sz):∀(l:List α) (k:Nat),(l.flatMap c).take (k * sz)=(l.take k).flatMap c
 | [],k=>by simp
 | x :: l,0=>by simp
 | x :: l,k+1=>by
   simp only[List.flatMap_cons,List.take_succ_cons];rw[List.take_append,List.take_of_length_le (by rw[hc,Nat.succ_mul];omega),hc,show (k+1) * sz-sz=k * sz by rw[Nat.succ_mul];omega,yV hc l k]
theorem yW (hc:∀x,(c x).length=sz):∀(l:List α) (k:Nat),(l.flatMap c).drop (k * sz)=(l.drop k).flatMap c
 | [],k=>by simp
 | x :: l,0=>by simp
 | x :: l,k+1=>by
   simp only[List.flatMap_cons,List.drop_succ_cons];rw[List.drop_append,List.drop_of_length_le (by rw[hc,Nat.succ_mul];omega),List.nil_append,hc,show (k+1) * sz-sz=k * sz by rw[Nat.succ_mul];omega,yW hc l k]
theorem Nm (hc:∀x,(c x).length=sz) {z:α} {l:List α} {i:Int} (h0:0<=i) (h1:i<l.length):((l.flatMap c).drop (i.toNat * sz)).take sz=c (gx z l i):=by
 obtain⟨h,e⟩:=u5 (z:=z) h0 h1
 rw[yW hc,e];have h2:=yV hc (l.drop i.toNat) 1
 rw[Nat.one_mul] at h2;rw[h2];have h3:(l.drop i.toNat).take 1=[l[i.toNat]]:=by rw[List.take_one];simp[List.head?_drop,h]
 rw[h3];simp
theorem OM (hc:∀x,(c x).length=sz) (l:List α) (k:Nat) (x:α) (h:k<l.length):dG (l.flatMap c) (k * sz) (c x) (k * sz+sz)=(l.set k x).flatMap c:=by
 unfold dG;rw[yV hc,show k * sz+sz=(k+1) * sz by rw[Nat.succ_mul],yW hc,List.set_eq_take_append_cons_drop,if_pos h]
 simp
theorem VS [Ext] {P:Program} {T e n k off:Nat} (hc:∀x,(c x).length=sz) {z:α} {l:List α} {i:Int} (h0:0<=i) (h1:i<l.length) (hk:tT P T=some k) (xE:0<k) (ho:off+k<=sz) :
 vL P T (some (.row e sz n (l.flatMap c))) (i.toNat * sz+off)=fC P T (c (gx z l i)) off:=by
 obtain⟨hn,_⟩:=u5 (z:=z) h0 h1
 have hat:=Nm hc (z:=z) h0 h1
 have hle:i.toNat * sz+sz<=(l.flatMap c).length:=by
  rw[iL hc,<- Nat.succ_mul];exact Nat.mul_le_mul_right _ hn
 have Bl:=hc (gx z l i)
 simp only[vL,fC];unfold tT at hk;cases hi:fR P T with
 | none=>rfl
 | some r =>
   obtain⟨b,k'⟩:=r
   rw[hi] at hk;simp only[Option.map_some,Option.some.injEq] at hk;subst hk;have hg:∀j,j<sz->(l.flatMap c)[i.toNat * sz+j]? = (c (gx z l i))[j]?:=fun j hj=>by
    rw[<- hat,List.getElem?_take,if_pos hj,List.getElem?_drop]
   cases b with
   | true =>
     simp only
     have e1:rd (l.flatMap c) (i.toNat * sz+off) k'=rd (c (gx z l i)) off k':=by
      unfold rd;rw[<- hat,List.drop_take,List.drop_drop,List.take_take,Nat.min_eq_left (by omega)]
     rw[e1];have l1:k'<=(l.flatMap c).length-(i.toNat * sz+off):=by omega
     have l2:k'<=(c (gx z l i)).length-off:=by omega
     rw[if_pos ⟨xE,l1⟩,if_pos ⟨xE,l2⟩]
   | false =>
     simp only
     exact hg off (by omega)
end
theorem aDm (ns:List Node):mI ⟨.sl ns.length (cD ns)⟩=cU ⟨ns⟩:=rfl
theorem EH (s:aO) (l:List Node):dG (aB s) 115 (cU ⟨l⟩) 116=aB { s with tree:=⟨.sl l.length (cD l)⟩}:=Dg s ⟨.sl l.length (cD l)⟩
theorem EI (s:State) (l:List Node):dG (aF s) 115 (cU ⟨l⟩) 116=aF { s with store:={ s.store with tree:=⟨.sl l.length (cD l)⟩} }:=yP s ⟨.sl l.length (cD l)⟩
namespace Tryz
open Go.Proofs
theorem V8 (st:St) (t:fU):eW st (.agg (bY t))=some (.agg (bY t)):=dQ (.agg _ (dB t))
theorem ON (st:St) (t:Request):eW st (.agg (bA t))=some (.agg (bA t)):=dQ (.agg _ (fN t))
theorem VT (st:St) (s:aO) (h:Flat (.agg (aB s))):eW st (.agg (aB s))=some (.agg (aB s)):=dQ h
theorem VU (st:St) (s:State) (h:Flat (.agg (aF s))):eW st (.agg (aF s))=some (.agg (aF s)):=dQ h
theorem JZ {T n k off:Nat} {l:List fU} {i:Int} (h0:0<=i) (h1:i<l.length) (hk:tT Tryz.prog T=some k) (xE:0<k) (ho:off+k<=33):vL Tryz.prog T (some (.row 41 33 n (Aj l))) (i.toNat * 33+off)=fC Tryz.prog T (bY (gx gY l i)) off:=VS bS h0 h1 hk xE ho
theorem D0 {T n k:Nat} {l:List fU} {i:Int} (h0:0<=i) (h1:i<l.length) (hk:tT Tryz.prog T=some k) (xE:0<k) (ho:k<=33):vL Tryz.prog T (some (.row 41 33 n (Aj l))) (i.toNat * 33)=fC Tryz.prog T (bY (gx gY l i)) 0:=by
 have h:=JZ (n:=n) (off:=0) h0 h1 hk xE (by omega)
 rw[Nat.add_zero] at h;exact h
theorem Qi (l:List fU) (i:Int) (x:fU) (h:i.toNat<l.length):dG (Aj l) (i.toNat * 33) (bY x) (i.toNat * 33+33)=Aj (l.set i.toNat x):=by
 generalize i.toNat=k at h ⊢
 have:=OM (c:=bY) (sz:=33) bS l k x h
 exact this
theorem VV (st:St) (o:Option (List kO)):aQ st (ov cP o)=some ((ol o).length,cP (ol o)):=by cases o<;>rfl
theorem rA (o:Option (List kO)):Flat (ov cP o):=by
 cases o with
 | none=>exact .v _
 | some l=>exact .sl _ _ (nG l)
theorem aDn (st:St) {l:List kO} {kk:IntKind} {i:Int} (h0:0<=i) (h1:i<l.length):bE Tryz.prog st 37 (.sl l.length (cP l)) (.v (.int kk i))=some (.ip (jR (gx tV l i)) 0):=by
 have hl:i.toNat<l.length:=by omega
 have h2:i.toNat * 34+34<=(l.flatMap jR).length:=by rw[iL sI,<- Nat.succ_mul];exact Nat.mul_le_mul_right _ hl
 have h3:((cP l).drop (i.toNat * 34)).take 34=jR (gx tV l i):=Nm sI h0 h1
 have h4:(cP l).length=(l.flatMap jR).length:=rfl
 (simp only[bE,aKT,T5,h0,h1,h4,h2,and_self,if_true,h3])<;>rfl
theorem aK8 (st:St) {o:Option (List kO)} {kk:IntKind} {i:Int} (h0:0<=i) (h1:i<(ol o).length):bE Tryz.prog st 37 (ov cP o) (.v (.int kk i))=some (.ip (jR (gx tV (ol o) i)) 0):=by
 cases o with
 | none=>simp[ol] at h1;omega
 | some l=>exact aDn st h0 h1
theorem QE (l:List kO) (h:(l.length:Int)<1000000):yY 100 34 48 (some (l.length,cP l))=some (none,.row 100 34 l.length (cP l)):=by
 unfold yY;simp only
 rw[if_pos ⟨iL sI l,by omega,by simp only[maxLen];omega⟩]
theorem Yl (n:Nat) (l:List kO):jE (some (.row 100 34 n (cP l)))=some (.sl n (cP l)):=by
 unfold jE;simp only;rw[if_pos (nG l)]
theorem H8 {T n k off:Nat} {l:List kO} {i:Int} (h0:0<=i) (h1:i<l.length) (hk:tT Tryz.prog T=some k) (xE:0<k) (ho:off+k<=34):vL Tryz.prog T (some (.row 100 34 n (cP l))) (i.toNat * 34+off)=fC Tryz.prog T (jR (gx tV l i)) off:=VS sI h0 h1 hk xE ho
theorem D1 {T n k:Nat} {l:List kO} {i:Int} (h0:0<=i) (h1:i<l.length) (hk:tT Tryz.prog T=some k) (xE:0<k) (ho:k<=34):vL Tryz.prog T (some (.row 100 34 n (cP l))) (i.toNat * 34)=fC Tryz.prog T (jR (gx tV l i)) 0:=by
 have h:=H8 (n:=n) (off:=0) h0 h1 hk xE (by omega)
 rw[Nat.add_zero] at h;exact h
theorem KG (l:List kO) (i:Int) (x:kO) (h:i.toNat<l.length):dG (cP l) (i.toNat * 34) (jR x) (i.toNat * 34+34)=cP (l.set i.toNat x):=by
 generalize i.toNat=k at h ⊢
 have:=OM (c:=jR) (sz:=34) sI l k x h
 exact this
theorem A5 (st:St) (o:Option (List sP)):aQ st (ov dE o)=some ((ol o).length,dE (ol o)):=by cases o<;>rfl
theorem AD (o:Option (List sP)) (h:∀y∈ol o,Flat y.eU):Flat (ov dE o):=by
 cases o with
 | none=>exact .v _
 | some l=>exact .sl _ _ (tL l h)
theorem aDo (st:St) {l:List sP} {kk:IntKind} {i:Int} (h0:0<=i) (h1:i<l.length):bE Tryz.prog st 44 (.sl l.length (dE l)) (.v (.int kk i))=some (.ip (gZ (gx Ma l i)) 0):=by
 have hl:i.toNat<l.length:=by omega
 have h2:i.toNat * 67+67<=(l.flatMap gZ).length:=by rw[iL iE,<- Nat.succ_mul];exact Nat.mul_le_mul_right _ hl
 have h3:((dE l).drop (i.toNat * 67)).take 67=gZ (gx Ma l i):=Nm iE h0 h1
 have h4:(dE l).length=(l.flatMap gZ).length:=rfl
 (simp only[bE,aQg,aCV,h0,h1,h4,h2,and_self,if_true,h3])<;>rfl
theorem aK9 (st:St) {o:Option (List sP)} {kk:IntKind} {i:Int} (h0:0<=i) (h1:i<(ol o).length):bE Tryz.prog st 44 (ov dE o) (.v (.int kk i))=some (.ip (gZ (gx Ma (ol o) i)) 0):=by
 cases o with
 | none=>simp[ol] at h1;omega
 | some l=>exact aDo st h0 h1
theorem KR (x:sP):yY 87 67 104 (some (1,gZ x))=some (none,.row 87 67 [x].length (dE [x])):=by
 simp[yY,maxLen,dE]
theorem D5 (l:List sP) (h:(l.length:Int)<1000000):yY 87 67 104 (some (l.length,dE l))=some (none,.row 87 67 l.length (dE l)):=by
 unfold yY;simp only
 rw[if_pos ⟨iL iE l,by omega,by simp only[maxLen];omega⟩]
theorem Yo (l:List sP) (x:sP) (s g:Nat) (h:(l.length:Int)<1000000):yK 87 67 104 (some (.row 87 67 l.length (dE l))) s g (some (1,gZ x))=some (some (s,g),.row 87 67 (l++[x]).length (dE (l++[x]))):=by
 simp only[yK];rw[if_pos ⟨by simp,trivial,trivial,by omega,by simp only[maxLen];omega⟩]
 simp[dE,List.flatMap_append]
theorem aAE (n:Nat) (l:List sP) (h:∀y∈l,Flat y.eU):jE (some (.row 87 67 n (dE l)))=some (.sl n (dE l)):=by
 unfold jE;simp only;rw[if_pos (tL l h)]
theorem OO (st:St) (o:Option (List Table)):aQ st (ov aR o)=some ((ol o).length,aR (ol o)):=by cases o<;>rfl
theorem lQ (o:Option (List Table)) (h:∀y∈ol o,Flat y.jQ):Flat (ov aR o):=by
 cases o with
 | none=>exact .v _
 | some l=>exact .sl _ _ (lR l h)
theorem nH (st:St) (o:Option (List Table)) (h:∀y∈ol o,Flat y.jQ):eW st (ov aR o)=some (ov aR o):=dQ (lQ o h)
theorem OP (o:Option (List Table)):(ov aR o).jO=true:=by cases o<;>rfl
theorem VW (o:Option (List Table)):(ov aR o).cells=[ov aR o]:=by cases o<;>rfl
theorem aDp (st:St) {l:List Table} {kk:IntKind} {i:Int} (h0:0<=i) (h1:i<l.length):bE Tryz.prog st 51 (.sl l.length (aR l)) (.v (.int kk i))=some (.ip (cF (gx iW l i)) 0):=by
 have hl:i.toNat<l.length:=by omega
 have h2:i.toNat * 34+34<=(l.flatMap cF).length:=by rw[iL fW,<- Nat.succ_mul];exact Nat.mul_le_mul_right _ hl
 have h3:((aR l).drop (i.toNat * 34)).take 34=cF (gx iW l i):=Nm fW h0 h1
 have h4:(aR l).length=(l.flatMap cF).length:=rfl
 (simp only[bE,aQh,OJ,h0,h1,h4,h2,and_self,if_true,h3])<;>rfl
theorem aLa (st:St) {o:Option (List Table)} {kk:IntKind} {i:Int} (h0:0<=i) (h1:i<(ol o).length):bE Tryz.prog st 51 (ov aR o) (.v (.int kk i))=some (.ip (cF (gx iW (ol o) i)) 0):=by
 cases o with
 | none=>simp[ol] at h1;omega
 | some l=>exact aDp st h0 h1
theorem IQ (x:Table):yY 118 34 64 (some (1,cF x))=some (none,.row 118 34 [x].length (aR [x])):=by
 simp[yY,maxLen,aR]
theorem ID (l:List Table) (h:(l.length:Int)<1000000):yY 118 34 64 (some (l.length,aR l))=some (none,.row 118 34 l.length (aR l)):=by
 unfold yY;simp only
 rw[if_pos ⟨iL fW l,by omega,by simp only[maxLen];omega⟩]
theorem Ti (l:List Table) (x:Table) (s g:Nat) (h:(l.length:Int)<1000000):yK 118 34 64 (some (.row 118 34 l.length (aR l))) s g (some (1,cF x))=some (some (s,g),.row 118 34 (l++[x]).length (aR (l++[x]))):=by
 simp only[yK];rw[if_pos ⟨by simp,trivial,trivial,by omega,by simp only[maxLen];omega⟩]
 simp[aR,List.flatMap_append]
theorem IE (l m:List Table) (s g:Nat) (h:(l.length:Int)<1000000) (h2:(m.length:Int)<1000000):yK 118 34 64 (some (.row 118 34 l.length (aR l))) s g (some (m.length,aR m))=some (some (s,g),.row 118 34 (l++m).length (aR (l++m))):=by
 simp only[yK];rw[if_pos ⟨iL fW m,trivial,trivial,by omega,by simp only[maxLen];omega⟩]
 simp[aR,List.flatMap_append]
theorem Ql (n:Nat) (l:List Table) (h:∀y∈l,Flat y.jQ):jE (some (.row 118 34 n (aR l)))=some (.sl n (aR l)):=by
 unfold jE;simp only;rw[if_pos (lR l h)]
theorem aQN (st:St) (o:Option (List Table)) (hi:Operand):dA Tryz.prog st 51 (ov aR o) none (some hi)=Nr (st.ev hi) (fun j=>if 0<=j/\j<=(ol o).length then some (ov aR (o.map (·.take j.toNat))) else dA Tryz.prog st 51 (ov aR o) none (some hi)) (dA Tryz.prog st 51 (ov aR o) none (some hi)):=by
 unfold Nr;split
 ·rename_i j hj;dsimp only
  split
  ·rename_i hc;obtain⟨j0,j1⟩:=hc
   cases o with
   | none =>
     have:j=0:=by simp[ol] at j1;omega
     subst this;simp[dA,OJ,ov,hj]
   | some l =>
     have j1:j<=l.length:=j1
     have hn:j.toNat<=l.length:=by omega
     simp only[dA,OJ,ov,hj];rw[if_pos ⟨Int.le_refl _,j0,j1,iL fW l⟩];simp only[Int.toNat_zero,Nat.zero_mul,List.drop_zero,Int.sub_zero,Option.map_some];rw[show (aR l).take (j.toNat * 34)=aR (l.take j.toNat) from yV fW l j.toNat,List.length_take,Nat.min_eq_left hn]
  ·rfl
 ·rfl
theorem aGp (st:St) (o:Option (List Table)) (lo:Operand):dA Tryz.prog st 51 (ov aR o) (some lo) none=Nr (st.ev lo) (fun j=>if 0<=j/\j<=(ol o).length then some (ov aR (o.map (·.drop j.toNat))) else dA Tryz.prog st 51 (ov aR o) (some lo) none) (dA Tryz.prog st 51 (ov aR o) (some lo) none):=by
 unfold Nr;split
 ·rename_i j hj;dsimp only
  split
  ·rename_i hc;obtain⟨j0,j1⟩:=hc
   cases o with
   | none =>
     have:j=0:=by simp[ol] at j1;omega
     subst this;simp[dA,OJ,ov,hj]
   | some l =>
     have j1:j<=l.length:=j1
     have hn:j.toNat<=l.length:=by omega
     have e1:((l.length:Int)-j).toNat=l.length-j.toNat:=by omega
     simp only[dA,OJ,ov,hj];rw[if_pos ⟨j0,j1,Int.le_refl _,iL fW l⟩];simp only[Option.map_some,e1];rw[show (aR l).drop (j.toNat * 34)=aR (l.drop j.toNat) from yW fW l j.toNat,List.length_drop,List.take_of_length_le];rw[show aR (l.drop j.toNat)=(l.drop j.toNat).flatMap cF from rfl,iL fW,List.length_drop];exact Nat.le_refl _
  ·rfl
 ·rfl
theorem OQ (st:St) (o:Option (List Block)):aQ st (ov aH o)=some ((ol o).length,aH (ol o)):=by cases o<;>rfl
theorem Ga (o:Option (List Block)):Flat (ov aH o):=by
 cases o with
 | none=>exact .v _
 | some l=>exact .sl _ _ (pF l)
theorem aDq (st:St) {l:List Block} {kk:IntKind} {i:Int} (h0:0<=i) (h1:i<l.length):bE Tryz.prog st 45 (.sl l.length (aH l)) (.v (.int kk i))=some (.ip (aT (gx fV l i)) 0):=by
 have hl:i.toNat<l.length:=by omega
 have h2:i.toNat * 238+238<=(l.flatMap aT).length:=by rw[iL bP,<- Nat.succ_mul];exact Nat.mul_le_mul_right _ hl
 have h3:((aH l).drop (i.toNat * 238)).take 238=aT (gx fV l i):=Nm bP h0 h1
 have h4:(aH l).length=(l.flatMap aT).length:=rfl
 (simp only[bE,aKU,nY,h0,h1,h4,h2,and_self,if_true,h3])<;>rfl
theorem aLb (st:St) {o:Option (List Block)} {kk:IntKind} {i:Int} (h0:0<=i) (h1:i<(ol o).length):bE Tryz.prog st 45 (ov aH o) (.v (.int kk i))=some (.ip (aT (gx fV (ol o) i)) 0):=by
 cases o with
 | none=>simp[ol] at h1;omega
 | some l=>exact aDq st h0 h1
theorem V9 (x:Block):yY 74 238 336 (some (1,aT x))=some (none,.row 74 238 [x].length (aH [x])):=by
 simp[yY,maxLen,aH]
theorem iS (l:List Block) (h:(l.length:Int)<1000000):yY 74 238 336 (some (l.length,aH l))=some (none,.row 74 238 l.length (aH l)):=by
 unfold yY;simp only
 rw[if_pos ⟨iL bP l,by omega,by simp only[maxLen];omega⟩]
theorem IN (l:List Block) (x:Block) (s g:Nat) (h:(l.length:Int)<1000000):yK 74 238 336 (some (.row 74 238 l.length (aH l))) s g (some (1,aT x))=some (some (s,g),.row 74 238 (l++[x]).length (aH (l++[x]))):=by
 simp only[yK];rw[if_pos ⟨by simp,trivial,trivial,by omega,by simp only[maxLen];omega⟩]
 simp[aH,List.flatMap_append]
theorem rZ (l m:List Block) (s g:Nat) (h:(l.length:Int)<1000000) (h2:(m.length:Int)<1000000):yK 74 238 336 (some (.row 74 238 l.length (aH l))) s g (some (m.length,aH m))=some (some (s,g),.row 74 238 (l++m).length (aH (l++m))):=by
 simp only[yK];rw[if_pos ⟨iL bP m,trivial,trivial,by omega,by simp only[maxLen];omega⟩]
 simp[aH,List.flatMap_append]
theorem uN (n:Nat) (l:List Block):jE (some (.row 74 238 n (aH l)))=some (.sl n (aH l)):=by
 unfold jE;simp only;rw[if_pos (pF l)]
theorem VX {T n k off:Nat} {l:List Block} {i:Int} (h0:0<=i) (h1:i<l.length) (hk:tT Tryz.prog T=some k) (xE:0<k) (ho:off+k<=238):vL Tryz.prog T (some (.row 74 238 n (aH l))) (i.toNat * 238+off)=fC Tryz.prog T (aT (gx fV l i)) off:=VS bP h0 h1 hk xE ho
theorem Ap {T n k:Nat} {l:List Block} {i:Int} (h0:0<=i) (h1:i<l.length) (hk:tT Tryz.prog T=some k) (xE:0<k) (ho:k<=238):vL Tryz.prog T (some (.row 74 238 n (aH l))) (i.toNat * 238)=fC Tryz.prog T (aT (gx fV l i)) 0:=by
 have h:=VX (n:=n) (off:=0) h0 h1 hk xE (by omega)
 rw[Nat.add_zero] at h;exact h
theorem aQO (st:St) (o:Option (List Block)) (hi:Operand):dA Tryz.prog st 45 (ov aH o) none (some hi)=Nr (st.ev hi) (fun j=>if 0<=j/\j<=(ol o).length then some (ov aH (o.map (·.take j.toNat))) else dA Tryz.prog st 45 (ov aH o) none (some hi)) (dA Tryz.prog st 45 (ov aH o) none (some hi)):=by
 unfold Nr;split
 ·rename_i j hj;dsimp only
  split
  ·rename_i hc;obtain⟨j0,j1⟩:=hc
   cases o with
   | none =>
     have:j=0:=by simp[ol] at j1;omega
     subst this;simp[dA,nY,ov,hj]
   | some l =>
     have j1:j<=l.length:=j1
     have hn:j.toNat<=l.length:=by omega
     simp only[dA,nY,ov,hj];rw[if_pos ⟨Int.le_refl _,j0,j1,iL bP l⟩];simp only[Int.toNat_zero,Nat.zero_mul,List.drop_zero,Int.sub_zero,Option.map_some];rw[show (aH l).take (j.toNat * 238)=aH (l.take j.toNat) from yV bP l j.toNat,List.length_take,Nat.min_eq_left hn]
  ·rfl
 ·rfl
theorem aGq (st:St) (o:Option (List Block)) (lo:Operand):dA Tryz.prog st 45 (ov aH o) (some lo) none=Nr (st.ev lo) (fun j=>if 0<=j/\j<=(ol o).length then some (ov aH (o.map (·.drop j.toNat))) else dA Tryz.prog st 45 (ov aH o) (some lo) none) (dA Tryz.prog st 45 (ov aH o) (some lo) none):=by
 unfold Nr;split
 ·rename_i j hj;dsimp only
  split
  ·rename_i hc;obtain⟨j0,j1⟩:=hc
   cases o with
   | none =>
     have:j=0:=by simp[ol] at j1;omega
     subst this;simp[dA,nY,ov,hj]
   | some l =>
     have j1:j<=l.length:=j1
     have hn:j.toNat<=l.length:=by omega
     have e1:((l.length:Int)-j).toNat=l.length-j.toNat:=by omega
     simp only[dA,nY,ov,hj];rw[if_pos ⟨j0,j1,Int.le_refl _,iL bP l⟩];simp only[Option.map_some,e1];rw[show (aH l).drop (j.toNat * 238)=aH (l.drop j.toNat) from yW bP l j.toNat,List.length_drop,List.take_of_length_le];rw[show aH (l.drop j.toNat)=(l.drop j.toNat).flatMap aT from rfl,iL bP,List.length_drop];exact Nat.le_refl _
  ·rfl
 ·rfl
theorem EJ (st:St) (o:Option (List Request)):aQ st (ov aA o)=some ((ol o).length,aA (ol o)):=by cases o<;>rfl
theorem eD (o:Option (List Request)):Flat (ov aA o):=by
 cases o with
 | none=>exact .v _
 | some l=>exact .sl _ _ (fF l)
theorem aDr (st:St) {l:List Request} {kk:IntKind} {i:Int} (h0:0<=i) (h1:i<l.length):bE Tryz.prog st 54 (.sl l.length (aA l)) (.v (.int kk i))=some (.ip (bA (gx bB l i)) 0):=by
 have hl:i.toNat<l.length:=by omega
 have h2:i.toNat * 35+35<=(l.flatMap bA).length:=by rw[iL fZ,<- Nat.succ_mul];exact Nat.mul_le_mul_right _ hl
 have h3:((aA l).drop (i.toNat * 35)).take 35=bA (gx bB l i):=Nm fZ h0 h1
 have h4:(aA l).length=(l.flatMap bA).length:=rfl
 (simp only[bE,aKW,Mc,h0,h1,h4,h2,and_self,if_true,h3])<;>rfl
theorem aLc (st:St) {o:Option (List Request)} {kk:IntKind} {i:Int} (h0:0<=i) (h1:i<(ol o).length):bE Tryz.prog st 54 (ov aA o) (.v (.int kk i))=some (.ip (bA (gx bB (ol o) i)) 0):=by
 cases o with
 | none=>simp[ol] at h1;omega
 | some l=>exact aDr st h0 h1
theorem VY (x:Request):yY 63 35 56 (some (1,bA x))=some (none,.row 63 35 [x].length (aA [x])):=by
 simp[yY,maxLen,aA]
theorem rH (l:List Request) (h:(l.length:Int)<1000000):yY 63 35 56 (some (l.length,aA l))=some (none,.row 63 35 l.length (aA l)):=by
 unfold yY;simp only
 rw[if_pos ⟨iL fZ l,by omega,by simp only[maxLen];omega⟩]
theorem rI (l:List Request) (x:Request) (s g:Nat) (h:(l.length:Int)<1000000):yK 63 35 56 (some (.row 63 35 l.length (aA l))) s g (some (1,bA x))=some (some (s,g),.row 63 35 (l++[x]).length (aA (l++[x]))):=by
 simp only[yK];rw[if_pos ⟨by simp,trivial,trivial,by omega,by simp only[maxLen];omega⟩]
 simp[aA,List.flatMap_append]
theorem Wb (l m:List Request) (s g:Nat) (h:(l.length:Int)<1000000) (h2:(m.length:Int)<1000000):yK 63 35 56 (some (.row 63 35 l.length (aA l))) s g (some (m.length,aA m))=some (some (s,g),.row 63 35 (l++m).length (aA (l++m))):=by
 simp only[yK];rw[if_pos ⟨iL fZ m,trivial,trivial,by omega,by simp only[maxLen];omega⟩]
 simp[aA,List.flatMap_append]
theorem pI (n:Nat) (l:List Request):jE (some (.row 63 35 n (aA l)))=some (.sl n (aA l)):=by
 unfold jE;simp only;rw[if_pos (fF l)]
theorem Gk {T n k off:Nat} {l:List Request} {i:Int} (h0:0<=i) (h1:i<l.length) (hk:tT Tryz.prog T=some k) (xE:0<k) (ho:off+k<=35):vL Tryz.prog T (some (.row 63 35 n (aA l))) (i.toNat * 35+off)=fC Tryz.prog T (bA (gx bB l i)) off:=VS fZ h0 h1 hk xE ho
theorem Ar {T n k:Nat} {l:List Request} {i:Int} (h0:0<=i) (h1:i<l.length) (hk:tT Tryz.prog T=some k) (xE:0<k) (ho:k<=35):vL Tryz.prog T (some (.row 63 35 n (aA l))) (i.toNat * 35)=fC Tryz.prog T (bA (gx bB l i)) 0:=by
 have h:=Gk (n:=n) (off:=0) h0 h1 hk xE (by omega)
 rw[Nat.add_zero] at h;exact h
theorem Oe (l:List Request) (i:Int) (x:Request) (h:i.toNat<l.length):dG (aA l) (i.toNat * 35) (bA x) (i.toNat * 35+35)=aA (l.set i.toNat x):=by
 generalize i.toNat=k at h ⊢
 have:=OM (c:=bA) (sz:=35) fZ l k x h
 exact this
theorem aQP (st:St) (o:Option (List Request)) (hi:Operand):dA Tryz.prog st 54 (ov aA o) none (some hi)=Nr (st.ev hi) (fun j=>if 0<=j/\j<=(ol o).length then some (ov aA (o.map (·.take j.toNat))) else dA Tryz.prog st 54 (ov aA o) none (some hi)) (dA Tryz.prog st 54 (ov aA o) none (some hi)):=by
 unfold Nr;split
 ·rename_i j hj;dsimp only
  split
  ·rename_i hc;obtain⟨j0,j1⟩:=hc
   cases o with
   | none =>
     have:j=0:=by simp[ol] at j1;omega
     subst this;simp[dA,Mc,ov,hj]
   | some l =>
     have j1:j<=l.length:=j1
     have hn:j.toNat<=l.length:=by omega
     simp only[dA,Mc,ov,hj];rw[if_pos ⟨Int.le_refl _,j0,j1,iL fZ l⟩];simp only[Int.toNat_zero,Nat.zero_mul,List.drop_zero,Int.sub_zero,Option.map_some];rw[show (aA l).take (j.toNat * 35)=aA (l.take j.toNat) from yV fZ l j.toNat,List.length_take,Nat.min_eq_left hn]
  ·rfl
 ·rfl
theorem aGr (st:St) (o:Option (List Request)) (lo:Operand):dA Tryz.prog st 54 (ov aA o) (some lo) none=Nr (st.ev lo) (fun j=>if 0<=j/\j<=(ol o).length then some (ov aA (o.map (·.drop j.toNat))) else dA Tryz.prog st 54 (ov aA o) (some lo) none) (dA Tryz.prog st 54 (ov aA o) (some lo) none):=by
 unfold Nr;split
 ·rename_i j hj;dsimp only
  split
  ·rename_i hc;obtain⟨j0,j1⟩:=hc
   cases o with
   | none =>
     have:j=0:=by simp[ol] at j1;omega
     subst this;simp[dA,Mc,ov,hj]
   | some l =>
     have j1:j<=l.length:=j1
     have hn:j.toNat<=l.length:=by omega
     have e1:((l.length:Int)-j).toNat=l.length-j.toNat:=by omega
     simp only[dA,Mc,ov,hj];rw[if_pos ⟨j0,j1,Int.le_refl _,iL fZ l⟩];simp only[Option.map_some,e1];rw[show (aA l).drop (j.toNat * 35)=aA (l.drop j.toNat) from yW fZ l j.toNat,List.length_drop,List.take_of_length_le];rw[show aA (l.drop j.toNat)=(l.drop j.toNat).flatMap bA from rfl,iL fZ,List.length_drop];exact Nat.le_refl _
  ·rfl
 ·rfl
theorem VZ (st:St) (o:Option (List cJ)):aQ st (ov gS o)=some ((ol o).length,gS (ol o)):=by cases o<;>rfl
theorem Jc (o:Option (List cJ)):Flat (ov gS o):=by
 cases o with
 | none=>exact .v _
 | some l=>exact .sl _ _ (Wq l)
theorem aDs (st:St) {l:List cJ} {kk:IntKind} {i:Int} (h0:0<=i) (h1:i<l.length):bE Tryz.prog st 70 (.sl l.length (gS l)) (.v (.int kk i))=some (.ip (aX (gx dK l i)) 0):=by
 have hl:i.toNat<l.length:=by omega
 have h2:i.toNat * 32+32<=(l.flatMap aX).length:=by rw[iL aM,<- Nat.succ_mul];exact Nat.mul_le_mul_right _ hl
 have h3:((gS l).drop (i.toNat * 32)).take 32=aX (gx dK l i):=Nm aM h0 h1
 have h4:(gS l).length=(l.flatMap aX).length:=rfl
 (simp only[bE,aQi,aFW,h0,h1,h4,h2,and_self,if_true,h3])<;>rfl
theorem aLd (st:St) {o:Option (List cJ)} {kk:IntKind} {i:Int} (h0:0<=i) (h1:i<(ol o).length):bE Tryz.prog st 70 (ov gS o) (.v (.int kk i))=some (.ip (aX (gx dK (ol o) i)) 0):=by
 cases o with
 | none=>simp[ol] at h1;omega
 | some l=>exact aDs st h0 h1
theorem oM (l:List cJ) (x:cJ) (s g:Nat) (h:(l.length:Int)<1000000):yK 27 32 32 (some (.row 27 32 l.length (gS l))) s g (some (1,aX x))=some (some (s,g),.row 27 32 (l++[x]).length (gS (l++[x]))):=by
 simp only[yK];rw[if_pos ⟨by simp,trivial,trivial,by omega,by simp only[maxLen];omega⟩]
 simp[gS,List.flatMap_append]
theorem wV (n:Nat) (l:List cJ):jE (some (.row 27 32 n (gS l)))=some (.sl n (gS l)):=by
 unfold jE;simp only;rw[if_pos (Wq l)]
theorem aGs (st:St) {l:List Bool} {kk:IntKind} {i:Int} (h0:0<=i) (h1:i<l.length):bE Tryz.prog st 262 (.sl l.length (mV l)) (.v (.int kk i))=some (.ip ([.v (.bool (gx false l i))]) 0):=by
 have hl:i.toNat<l.length:=by omega
 have h2:i.toNat * 1+1<=(l.flatMap uA).length:=by rw[iL gP,<- Nat.succ_mul];exact Nat.mul_le_mul_right _ hl
 have h3:((mV l).drop (i.toNat * 1)).take 1=uA (gx false l i):=Nm gP h0 h1
 have h4:(mV l).length=(l.flatMap uA).length:=rfl
 (simp only[bE,aHH,VK,h0,h1,h4,h2,and_self,if_true,h3])<;>rfl
theorem aDt (x:Bool):yY 4 1 1 (some (1,[.v (.bool x)]))=some (none,.row 4 1 [x].length (mV [x])):=by
 simp[yY,maxLen,mV,uA]
theorem QI (l:List Bool) (x:Bool) (s g:Nat) (h:(l.length:Int)<1000000):yK 4 1 1 (some (.row 4 1 l.length (mV l))) s g (some (1,[.v (.bool x)]))=some (some (s,g),.row 4 1 (l++[x]).length (mV (l++[x]))):=by
 simp only[yK];rw[if_pos ⟨by simp,trivial,trivial,by omega,by simp only[maxLen];omega⟩]
 simp[mV,List.flatMap_append,uA]
theorem D6 (n:Nat) (l:List Bool):jE (some (.row 4 1 n (mV l)))=some (.sl n (mV l)):=by
 unfold jE;simp only;rw[if_pos (Vx l)]
theorem zK (o:Option (List Int)):Flat (ov kH o):=by
 cases o with
 | none=>exact .v _
 | some l=>exact .sl _ _ (wC l)
theorem rX (st:St) (o:Option (List Int)):eW st (ov kH o)=some (ov kH o):=dQ (zK o)
theorem YE (x:Int):yY 5 1 1 (some (1,[.v (.int .u8 x)]))=some (none,.row 5 1 [x].length (kH [x])):=by
 simp[yY,maxLen,kH,cU8]
theorem Nz (l:List Int) (x:Int) (s g:Nat) (h:(l.length:Int)<1000000):yK 5 1 1 (some (.row 5 1 l.length (kH l))) s g (some (1,[.v (.int .u8 x)]))=some (some (s,g),.row 5 1 (l++[x]).length (kH (l++[x]))):=by
 simp only[yK];rw[if_pos ⟨by simp,trivial,trivial,by omega,by simp only[maxLen];omega⟩]
 simp[kH,List.flatMap_append,cU8]
theorem YF (l m:List Int) (s g:Nat) (h:(l.length:Int)<1000000) (h2:(m.length:Int)<1000000):yK 5 1 1 (some (.row 5 1 l.length (kH l))) s g (some (m.length,kH m))=some (some (s,g),.row 5 1 (l++m).length (kH (l++m))):=by
 simp only[yK];rw[if_pos ⟨iL aGo m,trivial,trivial,by omega,by simp only[maxLen];omega⟩]
 simp[kH,List.flatMap_append]
theorem Ea (n:Nat) (l:List Int):jE (some (.row 5 1 n (kH l)))=some (.sl n (kH l)):=by
 unfold jE;simp only;rw[if_pos (wC l)]
theorem A6 (st:St) (o:Option (List Int)):aQ st (ov aI o)=some ((ol o).length,aI (ol o)):=by cases o<;>rfl
theorem bR (o:Option (List Int)):Flat (ov aI o):=by
 cases o with
 | none=>exact .v _
 | some l=>exact .sl _ _ (fS l)
theorem Gi (st:St) (o:Option (List Int)):eW st (ov aI o)=some (ov aI o):=dQ (bR o)
theorem A7 (o:Option (List Int)):(ov aI o).jO=true:=by cases o<;>rfl
theorem W0 (o:Option (List Int)):(ov aI o).cells=[ov aI o]:=by cases o<;>rfl
theorem aDu (st:St) {l:List Int} {kk:IntKind} {i:Int} (h0:0<=i) (h1:i<l.length):bE Tryz.prog st 22 (.sl l.length (aI l)) (.v (.int kk i))=some (.ip ([.v (.int .i64 (gx (0:Int) l i))]) 0):=by
 have hl:i.toNat<l.length:=by omega
 have h2:i.toNat * 1+1<=(l.flatMap qD).length:=by rw[iL bC,<- Nat.succ_mul];exact Nat.mul_le_mul_right _ hl
 have h3:((aI l).drop (i.toNat * 1)).take 1=qD (gx (0:Int) l i):=Nm bC h0 h1
 have h4:(aI l).length=(l.flatMap qD).length:=rfl
 (simp only[bE,aFV,Lx,h0,h1,h4,h2,and_self,if_true,h3])<;>rfl
theorem aLe (st:St) {o:Option (List Int)} {kk:IntKind} {i:Int} (h0:0<=i) (h1:i<(ol o).length):bE Tryz.prog st 22 (ov aI o) (.v (.int kk i))=some (.ip ([.v (.int .i64 (gx (0:Int) (ol o) i))]) 0):=by
 cases o with
 | none=>simp[ol] at h1;omega
 | some l=>exact aDu st h0 h1
theorem Qp (l:List Int) (h:(l.length:Int)<1000000):yY 3 1 8 (some (l.length,aI l))=some (none,.row 3 1 l.length (aI l)):=by
 unfold yY;simp only
 rw[if_pos ⟨iL bC l,by omega,by simp only[maxLen];omega⟩]
theorem Gh (l:List Int) (x:Int) (s g:Nat) (h:(l.length:Int)<1000000):yK 3 1 8 (some (.row 3 1 l.length (aI l))) s g (some (1,[.v (.int .i64 x)]))=some (some (s,g),.row 3 1 (l++[x]).length (aI (l++[x]))):=by
 simp only[yK];rw[if_pos ⟨by simp,trivial,trivial,by omega,by simp only[maxLen];omega⟩]
 simp[aI,List.flatMap_append,qD]
theorem KI (l m:List Int) (s g:Nat) (h:(l.length:Int)<1000000) (h2:(m.length:Int)<1000000):yK 3 1 8 (some (.row 3 1 l.length (aI l))) s g (some (m.length,aI m))=some (some (s,g),.row 3 1 (l++m).length (aI (l++m))):=by
 simp only[yK];rw[if_pos ⟨iL bC m,trivial,trivial,by omega,by simp only[maxLen];omega⟩]
 simp[aI,List.flatMap_append]
theorem jW (n:Nat) (l:List Int):jE (some (.row 3 1 n (aI l)))=some (.sl n (aI l)):=by
 unfold jE;simp only;rw[if_pos (fS l)]
theorem aQQ (st:St) (o:Option (List Int)) (hi:Operand):dA Tryz.prog st 22 (ov aI o) none (some hi)=Nr (st.ev hi) (fun j=>if 0<=j/\j<=(ol o).length then some (ov aI (o.map (·.take j.toNat))) else dA Tryz.prog st 22 (ov aI o) none (some hi)) (dA Tryz.prog st 22 (ov aI o) none (some hi)):=by
 unfold Nr;split
 ·rename_i j hj;dsimp only
  split
  ·rename_i hc;obtain⟨j0,j1⟩:=hc
   cases o with
   | none =>
     have:j=0:=by simp[ol] at j1;omega
     subst this;simp[dA,Lx,ov,hj]
   | some l =>
     have j1:j<=l.length:=j1
     have hn:j.toNat<=l.length:=by omega
     simp only[dA,Lx,ov,hj];rw[if_pos ⟨Int.le_refl _,j0,j1,iL bC l⟩];simp only[Int.toNat_zero,Nat.zero_mul,List.drop_zero,Int.sub_zero,Option.map_some];rw[show (aI l).take (j.toNat * 1)=aI (l.take j.toNat) from yV bC l j.toNat,List.length_take,Nat.min_eq_left hn]
  ·rfl
 ·rfl
theorem aGt (st:St) (o:Option (List Int)) (lo:Operand):dA Tryz.prog st 22 (ov aI o) (some lo) none=Nr (st.ev lo) (fun j=>if 0<=j/\j<=(ol o).length then some (ov aI (o.map (·.drop j.toNat))) else dA Tryz.prog st 22 (ov aI o) (some lo) none) (dA Tryz.prog st 22 (ov aI o) (some lo) none):=by
 unfold Nr;split
 ·rename_i j hj;dsimp only
  split
  ·rename_i hc;obtain⟨j0,j1⟩:=hc
   cases o with
   | none =>
     have:j=0:=by simp[ol] at j1;omega
     subst this;simp[dA,Lx,ov,hj]
   | some l =>
     have j1:j<=l.length:=j1
     have hn:j.toNat<=l.length:=by omega
     have e1:((l.length:Int)-j).toNat=l.length-j.toNat:=by omega
     simp only[dA,Lx,ov,hj];rw[if_pos ⟨j0,j1,Int.le_refl _,iL bC l⟩];simp only[Option.map_some,e1];rw[show (aI l).drop (j.toNat * 1)=aI (l.drop j.toNat) from yW bC l j.toNat,List.length_drop,List.take_of_length_le];rw[show aI (l.drop j.toNat)=(l.drop j.toNat).flatMap qD from rfl,iL bC,List.length_drop];exact Nat.le_refl _
  ·rfl
 ·rfl
theorem A8 (st:St) (o:Option (List Int)):aQ st (ov bD o)=some ((ol o).length,bD (ol o)):=by cases o<;>rfl
theorem dP (o:Option (List Int)):Flat (ov bD o):=by
 cases o with
 | none=>exact .v _
 | some l=>exact .sl _ _ (iC l)
theorem A9 (o:Option (List Int)):(ov bD o).jO=true:=by cases o<;>rfl
theorem W3 (o:Option (List Int)):(ov bD o).cells=[ov bD o]:=by cases o<;>rfl
theorem aDv (st:St) {l:List Int} {kk:IntKind} {i:Int} (h0:0<=i) (h1:i<l.length):bE Tryz.prog st 34 (.sl l.length (bD l)) (.v (.int kk i))=some (.ip ([.v (.int .u64 (gx (0:Int) l i))]) 0):=by
 have hl:i.toNat<l.length:=by omega
 have h2:i.toNat * 1+1<=(l.flatMap sW).length:=by rw[iL aV,<- Nat.succ_mul];exact Nat.mul_le_mul_right _ hl
 have h3:((bD l).drop (i.toNat * 1)).take 1=sW (gx (0:Int) l i):=Nm aV h0 h1
 have h4:(bD l).length=(l.flatMap sW).length:=rfl
 (simp only[bE,aKS,z7,h0,h1,h4,h2,and_self,if_true,h3])<;>rfl
theorem aLf (st:St) {o:Option (List Int)} {kk:IntKind} {i:Int} (h0:0<=i) (h1:i<(ol o).length):bE Tryz.prog st 34 (ov bD o) (.v (.int kk i))=some (.ip ([.v (.int .u64 (gx (0:Int) (ol o) i))]) 0):=by
 cases o with
 | none=>simp[ol] at h1;omega
 | some l=>exact aDv st h0 h1
theorem aGu (x:Int):yY 23 1 8 (some (1,[.v (.int .u64 x)]))=some (none,.row 23 1 [x].length (bD [x])):=by
 simp[yY,maxLen,bD,sW]
theorem Gf (l:List Int) (h:(l.length:Int)<1000000):yY 23 1 8 (some (l.length,bD l))=some (none,.row 23 1 l.length (bD l)):=by
 unfold yY;simp only
 rw[if_pos ⟨iL aV l,by omega,by simp only[maxLen];omega⟩]
theorem yX (l:List Int) (x:Int) (s g:Nat) (h:(l.length:Int)<1000000):yK 23 1 8 (some (.row 23 1 l.length (bD l))) s g (some (1,[.v (.int .u64 x)]))=some (some (s,g),.row 23 1 (l++[x]).length (bD (l++[x]))):=by
 simp only[yK];rw[if_pos ⟨by simp,trivial,trivial,by omega,by simp only[maxLen];omega⟩]
 simp[bD,List.flatMap_append,sW]
theorem vZ (n:Nat) (l:List Int):jE (some (.row 23 1 n (bD l)))=some (.sl n (bD l)):=by
 unfold jE;simp only;rw[if_pos (iC l)]
theorem aDw {T n k off:Nat} {l:List Int} {i:Int} (h0:0<=i) (h1:i<l.length) (hk:tT Tryz.prog T=some k) (xE:0<k) (ho:off+k<=1):vL Tryz.prog T (some (.row 23 1 n (bD l))) (i.toNat * 1+off)=fC Tryz.prog T ([.v (.int .u64 (gx (0:Int) l i))]) off:=VS aV h0 h1 hk xE ho
theorem aAd {T n k:Nat} {l:List Int} {i:Int} (h0:0<=i) (h1:i<l.length) (hk:tT Tryz.prog T=some k) (xE:0<k) (ho:k<=1):vL Tryz.prog T (some (.row 23 1 n (bD l))) (i.toNat * 1)=fC Tryz.prog T ([.v (.int .u64 (gx (0:Int) l i))]) 0:=by
 have h:=aDw (n:=n) (off:=0) h0 h1 hk xE (by omega)
 rw[Nat.add_zero] at h;exact h
theorem aAc (l:List Int) (i:Int) (x:Int) (h:i.toNat<l.length):dG (bD l) (i.toNat * 1) ([.v (.int .u64 x)]) (i.toNat * 1+1)=bD (l.set i.toNat x):=by
 generalize i.toNat=k at h ⊢
 have:=OM (c:=sW) (sz:=1) aV l k x h
 exact this
end Tryz
end Go.Ab
end
section
namespace Go.Ab.Tryz
open Classical Go.Proofs Go.Ab
theorem aj {a b:Prop} (x:a) (y:b):a/\b:=⟨x,y⟩
def EN:=aj (aj (aj (aj (aj (aj (aj @cI (aj @Al @jG)) (aj @Em (aj @zO @wL))) (aj (aj @zU (aj @decide_true @decide_false)) (aj (aj @Int.cast_ofNat_Int @Bool.not_true) (aj @Bool.not_false @Bool.false_eq_true)))) (aj (aj (aj @Bool.true_eq_false (aj @Ll @Lm)) (aj @Ln (aj @Lo @Lp))) (aj (aj @Lq (aj @Lr @Ls)) (aj (aj @Lt @Lu) (aj @aFk @E3))))) (aj (aj (aj (aj @aFi (aj @aFj @not_false_eq_true)) (aj @ne_eq.{1} (aj @Ew @zT))) (aj (aj @wN (aj @wO @Option.bind_some.{0,0})) (aj (aj @Lg @zP) (aj @Lh @En)))) (aj (aj (aj @aFe (aj @wM @MN)) (aj @MO (aj @aFf @l9))) (aj (aj @aCq (aj @aCr @aCs)) (aj (aj @aJr @aCt) (aj @aCX @Bool.or_false)))))) (aj (aj (aj (aj (aj @Bool.false_or (aj @Bool.false_and @Bool.or_true)) (aj @aFh (aj @aFZ @Q8))) (aj (aj @Q9 (aj @n8 @MP)) (aj (aj @TE @wA) (aj @VP @U7)))) (aj (aj (aj @U8 (aj @aF4 @aC8)) (aj @nU (aj @T9 @U0))) (aj (aj @z9 (aj @VM @Option.map_some.{0,0})) (aj (aj @Iy @Kr) (aj @To @Oa))))) (aj (aj (aj (aj @aC0 (aj @aC1 @aF0)) (aj @gB (aj @bJ @aDb))) (aj (aj @aDc (aj @HF @V1)) (aj (aj @aF3 @U1) (aj @U2 @aFn)))) (aj (aj (aj @aCA (aj @aFo @aFl)) (aj (aj @U3 @U4) (aj @U5 @U6))) (aj (aj @aC7 (aj @U9 @aF5)) (aj (aj @aF1 @aF2) (aj @aC2 @aC3))))))) (aj (aj (aj (aj (aj (aj @aC4 (aj @aC5 @aC6)) (aj @R2 (aj @MR @aFX))) (aj (aj @aCW (aj @aQI @aGC)) (aj (aj @Ep @Up) (aj @Li @sD)))) (aj (aj (aj @Lj (aj @Er @Lk)) (aj @Gn (aj @uS
 @xM))) (aj (aj @rO (aj @mE @Es)) (aj (aj @Et @zQ) (aj @Eu @tZ))))) (aj (aj (aj (aj @R1 (aj @List.toList_toArray.{0} @List.map_cons.{0,0})) (aj @List.map_nil.{0,0} (aj @Lf @wK))) (aj (aj @zN (aj @Ek @El)) (aj (aj @Ld @sF) (aj @zV @wP)))) (aj (aj (aj @List.getElem?_cons_zero.{0} (aj @List.getElem?_cons_succ.{0} @List.getElem?_nil.{0})) (aj @Option.getD_some.{0} (aj @Option.getD_none.{0} @and_true))) (aj (aj @true_and (aj @and_self @false_and)) (aj (aj @and_false @if_true.{1}) (aj @if_false.{1} @Nat.succ_ne_zero)))))) (aj (aj (aj (aj (aj @OK (aj @OL @Nat.add_zero)) (aj @Nat.zero_add (aj @A0 @Eo))) (aj (aj @Uw (aj @Ux @At)) (aj (aj @As @T8) (aj @p8 @aCY)))) (aj (aj (aj @aF8 (aj @aF9 @aGa)) (aj @A3 (aj @V5 @aGb))) (aj (aj @aK2 (aj @VR @V6)) (aj (aj @aGc @aDe) (aj @aK3 @aDf))))) (aj (aj (aj (aj @aGd (aj @aGe @aGf)) (aj @aDg (aj @aDh @aGg))) (aj (aj @aDi (aj @aQM @aGh)) (aj (aj @aK4 @aK5) (aj @aK6 @aGi)))) (aj (aj (aj @aGj (aj @aK7 @aGk)) (aj (aj @aGl @aDj) (aj @V7 @A4))) (aj (aj @aGm (aj @aDk @aGn)) (aj (aj @gei @gti) (aj @aX9 @gtn)))))))
def EV:=aj EN @zS
def LE:=aj (aj (aj (aj (aj (aj @aKZ @aK0) (aj @aC9 (aj @aDa @Nv))) (aj (aj @Ky @Tv) (aj @aKX (aj @aKY @aFY)))) (aj (aj (aj @aV @bC) (aj @gP (aj @aM @dM))) (aj (aj @bS @cO) (aj @bP (aj @vT @Uv))))) (aj (aj (aj (aj @Nat.sub_zero @Nat.le_refl) (aj @QA (aj @IC @Option.map_some.{0,0}))) (aj (aj @List.all_cons.{0} @List.all_nil.{0}) (aj @Bool.and_true (aj @Bool.true_and @Bool.and_self)))) (aj (aj (aj @R3 @List.length_cons.{0}) (aj @List.length_nil.{0} (aj @jM @jN))) (aj (aj @Sa (aj @Ca @Ur)) (aj @MW (aj @Nat.zero_le @Nat.mul_one)))))) (aj (aj (aj (aj (aj @AH @Ce) (aj @gQ (aj @lX @fM))) (aj (aj @bN @sI) (aj @iE (aj @iO @fO)))) (aj (aj (aj @fW @fZ) (aj @lY (aj @dC @cW))) (aj (aj @iF (aj @mO @cS)) (aj @Ph (aj @ED @z6))))) (aj (aj (aj (aj @Mv @Lw) (aj @Pa (aj @Vb @Vd))) (aj (aj @H5 @u9) (aj @DI (aj @Jx @DK)))) (aj (aj (aj @DM @Pg) (aj @DU (aj @Ka @JL))) (aj (aj @VF (aj @DZ @VG)) (aj @aCU (aj @Qx @aFz))))))
def RD:=aj (aj (aj (aj (aj (aj (aj (aj @TH @TJ) (aj @TK @TL)) (aj (aj @jY @De) (aj @vA (aj @Gu @TN)))) (aj (aj (aj @TO @Rt) (aj @Ru (aj @yN @Ba))) (aj (aj @Rv @Rw) (aj @yO (aj @FZ @GA))))) (aj (aj (aj (aj @Hg @Xk) (aj @Bb @Ov)) (aj (aj @sL @Df) (aj @Bc (aj @Ow @sM)))) (aj (aj (aj @Js @GB) (aj @Nd (aj @GC @Xl))) (aj (aj @Xm @Ey) (aj @Us (aj @GD @GF)))))) (aj (aj (aj (aj (aj @CZ @DA) (aj @Nf @GG)) (aj (aj @Jt @Ry) (aj @MT (aj @Me @Rz)))) (aj (aj (aj @Ut @Xn) (aj @MU (aj @MV @GH))) (aj (aj @GJ @Ju) (aj @Ez (aj @wQ @Fa))))) (aj (aj (aj (aj @wR @Mf) (aj @Ox @Hr)) (aj (aj @Oy @Sb) (aj @TS (aj @o9 @Hc)))) (aj (aj (aj @Iq @TT) (aj @TU (aj @DD @TV))) (aj (aj @TW @Bd) (aj @Ng (aj @Sf @Gw))))))) (aj (aj (aj (aj (aj (aj @Hs @Uy) (aj @Xo @Sg)) (aj (aj @Sh @DF) (aj @DG (aj @Fb @Xp)))) (aj (aj (aj @Fc @Xs) (aj
 @Cm (aj @Uz @Cn))) (aj (aj @Va @Co) (aj @Fe (aj @Be @Si))))) (aj (aj (aj (aj @GM @GN) (aj @xP @xQ)) (aj (aj @vN @vO) (aj @vP (aj @xR @vC)))) (aj (aj (aj @Jv @GO) (aj @Sk (aj @Vc @Nh))) (aj (aj @GP @Sl) (aj @Sm (aj @Ae @Ni)))))) (aj (aj (aj (aj (aj @GQ @GR) (aj @NG @UT)) (aj (aj @DH @GS) (aj @NH (aj @NJ @UU)))) (aj (aj (aj @UW @NK) (aj @UX (aj @UY @UZ))) (aj (aj @GU @GV) (aj @Jw (aj @Mg @Pb))))) (aj (aj (aj (aj @Pc @Fz) (aj @VA (aj @v8 @v9))) (aj (aj @wS @Hh) (aj @wT (aj @Hi @GW)))) (aj (aj (aj @Nj @uL) (aj @GX (aj @So @Sp))) (aj (aj @Bm @Bn) (aj @oI (aj @Pd @Pe)))))))) (aj (aj (aj (aj (aj (aj (aj @Bf @Bo) (aj @Bg @Bp)) (aj (aj @Ff @nP) (aj @Xt (aj @Xu @VB)))) (aj (aj (aj @VC @Pf) (aj @Vg (aj @Cv @NM))) (aj (aj @NN @NO) (aj @Sq (aj @Gx @Vh))))) (aj (aj (aj (aj @Vi @Sr) (aj
 @Vj @Xv)) (aj (aj @DL @DN) (aj @DO (aj @Xw @Xx)))) (aj (aj (aj @DP @DR) (aj @DS (aj @vV @Hj))) (aj (aj @xX @Jz) (aj @NR (aj @NS @Fh)))))) (aj (aj (aj (aj (aj @Fi @uB) (aj @vQ @Hk)) (aj (aj @Hl @vD) (aj @xS (aj @vW @Hm)))) (aj (aj (aj @tI @Cp) (aj @xY (aj @Kb @Xy))) (aj (aj @Xz @Bh) (aj @Bi (aj @zA @zB))))) (aj (aj (aj (aj @qN @rQ) (aj @pW @Kc)) (aj (aj @Mh @qV) (aj @Mi (aj @DW @DX)))) (aj (aj (aj @pD @Ht) (aj @qF (aj @Kd @Su))) (aj (aj @Sv @Gy) (aj @Gz (aj @xT @qO))))))) (aj (aj (aj (aj (aj (aj @Hu @Hv) (aj @yH @rR)) (aj (aj @pE @Hw) (aj @nN (aj @Fk @Nk)))) (aj (aj (aj @Dg @qW) (aj @Mj (aj @Nl @NT))) (aj (aj @Ke @Kf) (aj @vX (aj @Ya @NU))))) (aj (aj (aj (aj @NV @EA) (aj @EB @uC)) (aj (aj
 @vE @tQ) (aj @qY (aj @pQ @qM)))) (aj (aj (aj @uD @vF) (aj @pR (aj @oH @Mk))) (aj (aj @yP @qZ) (aj @Ml (aj @Kg @Kh)))))) (aj (aj (aj (aj (aj @uK @Ag) (aj @Sw @Bx)) (aj (aj @Vl @Sx) (aj @Vm (aj @EC @HB)))) (aj (aj (aj @HC @HD) (aj @Pj (aj @Sy @Vn))) (aj (aj @Yb @NY) (aj @NZ (aj @OA @VH))))) (aj (aj (aj (aj @OB @OC) (aj @y8 (aj @y9 @Ds))) (aj (aj @OD @OE) (aj @sR (aj @sJ @OF)))) (aj (aj (aj @OG @By) (aj @EE (aj @EF @HE))) (aj (aj @OH @OI) (aj @VI (aj @z4 @z5))))))))
def FA:=aj (aj (aj (aj (aj (aj (aj (aj @ld3 @ik3) (aj @lk3 (aj @ze3 @aVF))) (aj (aj @aVG @XQ) (aj @aJG (aj @aVH @aVI)))) (aj (aj (aj @aVJ @ld5) (aj @ik5 (aj @lk5 @ze5))) (aj (aj @ik2 (aj @lk2 @ze2)) (aj @aVK (aj @aVL @aVM))))) (aj (aj (aj (aj @ld4 @lk4) (aj @ze4 (aj @be4 @aVN))) (aj (aj @aM5 (aj @aPP @aJH)) (aj @aVO (aj @aVP @aH3)))) (aj (aj (aj @aVQ @aVR) (aj @aVS (aj @aVT @aPQ))) (aj (aj @aVU (aj @aMN @aVV)) (aj @aVW (aj @aVX @aJI)))))) (aj (aj (aj (aj (aj @aJJ @aM4) (aj @aJK (aj @aVY @aVZ))) (aj (aj @aV0 @aV1) (aj @aV2 (aj @aJL @aJM)))) (aj (aj (aj @aV3 @aV4) (aj @aV5 (aj @YK @aJN))) (aj (aj @aJO (aj @aJP @aJQ)) (aj @aJR (aj @aJS @aJT))))) (aj (aj (aj (aj @aJU @aJV) (aj @aJW (aj @aFB @aJX))) (aj (aj @aV6 (aj @aV7 @aV8)) (aj @aV9 (aj @aWa @aJY)))) (aj (aj (aj @aJZ @aJ0) (aj @aJ1 (aj @aPR @aWb))) (aj (aj @aWc (aj @aWd @aWe)) (aj @aJ2 (aj @aWf @aWg))))))) (aj (aj (aj (aj (aj (aj @aWh @aJ3) (aj @aWi (aj @aWj @aWk))) (aj (aj @aWl @aJ4) (aj @aJ5 (aj @aJ6 @aWm)))) (aj (aj (aj @aPS @aWn) (aj @aWo (aj @aWp @aWq))) (aj (aj @aJ7 (aj @aJ8 @aJ9)) (aj @aKa (aj @aKb @aKc))))) (aj (aj (aj (aj @aWr @aPT) (aj @aWs (aj @aWt @aWu))) (aj (aj @aWv (aj @aKd @aKe)) (aj @aKf (aj @aKg @aKh)))) (aj (aj (aj @aKi @aWw) (aj @aWx (aj @aPU @aGK))) (aj (aj @aFC (aj @aFD @aFE)) (aj @aHB (aj @aHC @aPV)))))) (aj (aj (aj (aj (aj @aPW @aWy) (aj @aWz (aj @aKj @aKk))) (aj (aj @aKl (aj @aKm @aPX)) (aj @aWA (aj @aPY @aPZ)))) (aj (aj (aj @aFF @aFG) (aj @aFH (aj @aFI @aP0))) (aj (aj @aP1 (aj @aP2 @aP3)) (aj @aFJ (aj @aFK @aP4))))) (aj (aj (aj (aj @aP5 @aP6) (aj @aP7 (aj @aFL @aFM))) (aj (aj @aHD (aj @aP8 @aWB)) (aj @aIB (aj @aKn @aKo)))) (aj (aj (aj @aKp @aKq) (aj @aKr (aj @aP9 @aWC))) (aj (aj @aWD (aj @aWE @aWF)) (aj
 @aKs (aj @aKt @aKu)))))))) (aj (aj (aj (aj (aj (aj (aj @aQa @aQb) (aj @aWG (aj @aWH @aWI))) (aj (aj @aWJ @aKv) (aj @aKw (aj @aWK @aWL)))) (aj (aj (aj @aWM @aWN) (aj @aKx (aj @aKy @aWO))) (aj (aj @aQc (aj @aWP @aWQ)) (aj @aWR (aj @aKz @aKA))))) (aj (aj (aj (aj @aWS @aWT) (aj @aWU (aj @aKB @aKC))) (aj (aj @aKD (aj @aKE @aKF)) (aj @aKG (aj @aKH @aKI)))) (aj (aj (aj @aWV @aWW) (aj @aWX (aj @aWY @aKJ))) (aj (aj @aKK (aj @aKL @aKM)) (aj @aKN (aj @aKO @aKP)))))) (aj (aj (aj (aj (aj @aKQ @aWZ) (aj @aW0 (aj @aQd @aQe))) (aj (aj @aFN (aj @aFO @aFP)) (aj @aFQ (aj @aFR @aFS)))) (aj (aj (aj @aFT @aFU) (aj @aHE (aj @aQf @aKR))) (aj (aj @Lx (aj @aFV @aW1)) (aj @aW2 (aj @aW3 @aW4))))) (aj (aj (aj (aj @aW5 @z7) (aj @aKS (aj @aW6 @aW7))) (aj (aj @aW8 (aj @aW9 @aXa)) (aj @T5 (aj @aKT @aXb)))) (aj (aj (aj @aXc @aXd) (aj @aXe (aj @aXf @aCV))) (aj (aj @aQg (aj @aXg @aXh)) (aj @aXi (aj @nY @aKU))))))) (aj (aj (aj (aj (aj (aj @aXj @aXk) (aj @aXl (aj @aXm @aXn))) (aj (aj @VJ @aKV) (aj @aXo (aj @aXp @aXq)))) (aj (aj (aj @aXr @OJ) (aj @aQh (aj @aXs @aXt))) (aj (aj @aXu (aj @Mc @aKW)) (aj @aXv (aj @aXw @aXx))))) (aj (aj (aj (aj @aXy @aXz) (aj @aFW (aj @aQi @aXA))) (aj (aj @aXB (aj @Z3 @aHF)) (aj @aQj (aj @aQk @H6)))) (aj (aj (aj @aQl @aQm) (aj @aQn (aj @aHG @aQo))) (aj (aj @aQp (aj @aQq @H7)) (aj @aQr (aj @aQs @aQt)))))) (aj (aj (aj (aj (aj @VK @aHH) (aj @aQu (aj @aQv @aXC))) (aj (aj @aXD (aj @aXE @aXF)) (aj @aXG (aj @aXH @aXI)))) (aj (aj (aj @aXJ @aXK) (aj @aXL (aj @aXM @aXN))) (aj (aj @aXO (aj @aXP @aXQ)) (aj @aXR (aj @aXS @aXT))))) (aj (aj (aj (aj @aXU @aXV) (aj @aXW (aj @aXX @aXY))) (aj (aj @aXZ (aj @aX0 @aX1)) (aj @aX2 (aj @aX3 @aX4)))) (aj (aj (aj @aQw @aQx) (aj @aQy (aj @aQz @aQA))) (aj (aj @aQB (aj
 @aQC @aQD)) (aj @aQE (aj @aQF @aQG))))))))
def ZZ:=aj (aj EV LE) (aj RD FA)
section
variable {f:Nat} {fn:Func} {st:St} {x y z:AV}
theorem bT {t:Nat} (hr:fn.results.toList=[.tmp t]) (hx:st.env t=x) (hf:Flat x:=by exact .v _) (hk:Ext.pY f=false:=by exact aJ (by decide)):Bk Tryz.prog f fn (.ret,st)=some x:=TM hk (.inl rfl) hr hx hf
theorem fK {t T:Nat} (hr:fn.results.toList=[.cell t T]) (hy:st.env t=y) (hx:He Tryz.prog st T y=some x) (hf:Flat x) (hk:Ext.pY f=false:=by exact aJ (by decide)):Bk Tryz.prog f fn (.ret,st)=some x:=R4 hk (.inl rfl) hr hy hx hf
theorem tH {t s g e' sz n:Nat} {cs:List AV} (hr:fn.results.toList=[.tmp t]) (hx:st.env t=.own s g) (hh:st.heap s g=some (.row e' sz n cs)) (hf:∀c∈cs,Flat c) (hk:Ext.pY f=false:=by exact aJ (by decide)):Bk Tryz.prog f fn (.ret,st)=some (.uniq e' sz n cs):=Qr hk (.inl rfl) hr hx hh hf
theorem dY {t T:Nat} {cs:List AV} (hr:fn.results.toList=[.cell t T]) (hz:st.env t=z) (hx:He Tryz.prog st T z=some (.agg cs)) (hy:eW st (.agg cs)=some y) (hk:Ext.pY f=false:=by exact aJ (by decide)):Bk Tryz.prog f fn (.ret,st)=some y:=o0 hk (.inl rfl) hr hz hx hy
theorem dJ {r1 r2:ResultVar} {x1 x2 y1 y2:AV} (hr:fn.results.toList=[r1,r2]) (h1:bX Tryz.prog st r1=some x1) (h2:bX Tryz.prog st r2=some x2) (e1:eW st x1=some y1) (e2:eW st x2=some y2) (hk:Ext.pY f=false:=by exact aJ (by decide)):Bk Tryz.prog f fn (.ret,st)=some (.dX [y1,y2]):=aCy hk (.inl rfl) hr h1 h2 e1 e2
theorem aNI {r1 r2:ResultVar} {x1 x2 y1 y2:AV} (hr:fn.results.toList=[r1,r2]) (h1:bX Tryz.prog st r1=some x1) (h2:bX Tryz.prog st r2=some x2) (e0:eW st x1=none) (e1:Pq st x1=some y1) (e2:eW st x2=some y2) (hk:Ext.pY f=false:=by exact aJ (by decide)):Bk Tryz.prog f fn (.ret,st)=some (.dX [y1,y2]):=R5 hk (.inl rfl) hr h1 h2 e0 e1 e2
theorem gR {r1 r2 r3:ResultVar} {x1 x2 x3 y1 y2 y3:AV} (hr:fn.results.toList=[r1,r2,r3]) (h1:bX Tryz.prog st r1=some x1) (h2:bX Tryz.prog st r2=some x2) (h3:bX Tryz.prog st r3=some x3) (e1:eW st x1=some y1) (e2:eW st x2=some y2) (e3:eW st x3=some y3) (hk:Ext.pY f=false:=by exact aJ (by decide)):Bk Tryz.prog f fn (.ret,st)=some (.dX [y1,y2,y3]):=o6 hk (.inl rfl) hr h1 h2 h3 e1 e2 e3
theorem cL {c:Code} (hf:Tryz.prog.funcs[f]? = some fn) (hb:fn.body=some c) (qK:bF fn=true) {xs:List AV} (hu:xs.any oC=false) (hx:(f == 164)=false:=by rfl):aC Tryz.prog f xs=cA (Ac Tryz.prog c (St.init xs)) (Bk Tryz.prog f fn):=Qw _ hf hb qK xs (sV _ _ hx) hu
theorem cG {c:Code} (hf:Tryz.prog.funcs[f]? = some fn) (hb:fn.body=some c) (qK:sO fn=true) (hc:kI c=true) {xs:List AV} (hu:xs.any oC=false) (hx:(f == 164)=false:=by rfl):aC Tryz.prog f xs=cA (wW Tryz.prog true c (St.init xs)) (Bk Tryz.prog f fn):=by
 rw[BR Tryz.prog hf hb qK xs (sV _ _ hx) hu,hc]
end
section
variable {b:Code} {st st':St} {n:Nat} {I:Nat->St->Prop} {Q:Ex->St->Prop}
theorem oN (m:Nat) (h:Ac Tryz.prog b st=some (.normal,st')) (hi:I m st') (hm:m<n:=by omega):∃e st',Ac Tryz.prog b st=some (e,st')/\((e=.normal/\∃m,m<n/\I m st')\/(e≠.normal/\Q e st')):=oZ h m hm hi
theorem oT (e:Ex) (h:Ac Tryz.prog b st=some (e,st')) (hq:Q e st') (he:e≠.normal:=by simp):∃e st',Ac Tryz.prog b st=some (e,st')/\((e=.normal/\∃m,m<n/\I m st')\/(e≠.normal/\Q e st')):=aJu h he hq
theorem Ge {bi:Bool} (m:Nat) (h:wW Tryz.prog bi b st=some (.normal,st')) (hi:I m st') (hm:m<n:=by omega):∃e st',wW Tryz.prog bi b st=some (e,st')/\((e=.normal/\∃m,m<n/\I m st')\/(e≠.normal/\Q e st')):=aJy h m hm hi
theorem OS {bi:Bool} (e:Ex) (h:wW Tryz.prog bi b st=some (e,st')) (hq:Q e st') (he:e≠.normal:=by simp):∃e st',wW Tryz.prog bi b st=some (e,st')/\((e=.normal/\∃m,m<n/\I m st')\/(e≠.normal/\Q e st')):=aFp h he hq
end
end Go.Ab.Tryz
end
namespace Go.Ab.Tryz
open Classical Go.Proofs Go.Ab
def FT:=aj (aj (aj (aj (aj (aj @V8 (aj @ON @aDm)) (aj @EH (aj @EI @VT))) (aj (aj @VU (aj @JZ @D0)) (aj @Qi (aj @VV @aDn)))) (aj (aj (aj @aK8 (aj @QE @Yl)) (aj @H8 (aj @D1 @KG))) (aj (aj @A5 (aj @aDo @aK9)) (aj (aj @KR @D5) (aj @Yo @aAE))))) (aj (aj (aj (aj @OO (aj @nH @OP)) (aj @VW (aj @aDp @aLa))) (aj (aj @IQ (aj @ID @Ti)) (aj @IE (aj @Ql @aQN)))) (aj (aj (aj @aGp (aj @OQ @aDq)) (aj @aLb (aj @V9 @iS))) (aj (aj @IN (aj @rZ @uN)) (aj (aj @VX @Ap) (aj @aQO @aGq)))))) (aj (aj (aj (aj (aj @EJ (aj @aDr @aLc)) (aj @VY (aj @rH @rI))) (aj (aj @Wb (aj @pI @Gk)) (aj @Ar (aj @Oe @aQP)))) (aj (aj (aj @aGr (aj @VZ @aDs)) (aj @aLd (aj @oM @wV))) (aj (aj @aGs (aj @aDt @QI)) (aj (aj @D6 @rX) (aj @YE @Nz))))) (aj (aj (aj (aj @YF (aj @Ea @A6)) (aj @Gi (aj @A7 @W0))) (aj (aj @aDu (aj @aLe @Qp)) (aj (aj @Gh @KI) (aj @jW @aQQ)))) (aj (aj (aj @aGt (aj @A8 @A9)) (aj @W3 (aj @aDv @aLf))) (aj (aj @aGu (aj @Gf @yX)) (aj (aj @vZ @aDw) (aj @aAd @aAc))))))
def E8:=EV
def L8:=LE
def R8:=RD
def F8:=aj FA FT
def EGn:=aj (aj (aj (aj (aj (aj @List.size_toArray.{0} @mJ) (aj @oJ @mK)) (aj (aj @mL @oK) (aj @BM @BP))) (aj (aj (aj @LG @Yq) (aj @Ua @UP)) (aj (aj @p9 @p5) (aj @TY (aj @dW @bW))))) (aj (aj (aj (aj @bM @S4) (aj @p7 @S5)) (aj (aj @aCC @aCD) (aj @UB (aj @UC @UD)))) (aj (aj (aj @UE @UF) (aj @UG @UH)) (aj (aj @UI @UJ) (aj @UK (aj @UL @UM)))))) (aj (aj (aj (aj (aj @UN @UO) (aj @aJE @aCR)) (aj (aj @Qt @H2) (aj @aFq (aj @S6 @aFr)))) (aj (aj (aj @aCF @aJB) (aj @aCG @GK)) (aj (aj @MY @UQ) (aj @aFs (aj @aCH @aCI))))) (aj (aj (aj (aj @aFt @MZ) (aj @aCJ @NA)) (aj (aj @r7 @r9) (aj @aCK (aj @u4 @aJC)))) (aj (aj (aj @aFu @KQ) (aj @aFv @aCL)) (aj (aj @aCM @aCN) (aj @aJD (aj @S7 @aCO))))))
def ZC:=aj (aj L8 R8) F8
def Z8:=aj EV ZC
def ZG:=aj (aj (aj EGn @R9) Z8) (aj @Bool.false_and @Prod.mk.injEq.{0,0})
end Go.Ab.Tryz
namespace Go.Ab.Tryz
open Go.Ab
theorem Hq:(((aE 0 2 (some 2)=[])/\((aE 1 13 (some 11)=[])/\(aE 2 17 (some 22)=[])))/\(((aE 3 4 (some 37)=[])/\(aE 4 8 (some 40)=[]))/\((aE 5 10 (some 48)=[])/\(aE 6 9 (some 56)=[(4,7)]))))/\(((aE 7 6 (some 63)=[])/\((aE 8 6 (some 68)=[])/\(aE 9 9 (some 73)=[])))/\(((aE 10 18 (some 82)=[])/\(aE 11 4 (some 99)=[]))/\((aE 12 3 (some 103)=[])/\(aE 13 2 (some 105)=[])))):=⟨⟨⟨rfl,⟨rfl,rfl⟩⟩,⟨⟨rfl,rfl⟩,⟨rfl,rfl⟩⟩⟩,⟨⟨rfl,⟨rfl,rfl⟩⟩,⟨⟨rfl,rfl⟩,⟨rfl,rfl⟩⟩⟩⟩
theorem KW:(((aE 0 5 (some 2)=[])/\(aE 1 1 (some 7)=[]))/\((aE 2 5 (some 9)=[])/\(aE 4 11 (some 16)=[])))/\(((aE 5 7 (some 27)=[])/\(aE 6 13 (some 32)=[]))/\((aE 7 5 (some 44)=[(1,2)])/\((aE 3 3 (some 14)=[])/\(aE 8 5 (some 46)=[])))):=⟨⟨⟨rfl,rfl⟩,⟨rfl,rfl⟩⟩,⟨⟨rfl,rfl⟩,⟨rfl,⟨rfl,rfl⟩⟩⟩⟩
theorem YS:((((aE 0 3 (some 2)=[])/\(aE 1 8 (some 9)=[(3,6)]))/\((aE 2 41 (some 13)=[])/\(aE 3 1 (some 4)=[])))/\(((aE 4 38 (some 54)=[])/\(aE 5 1 (some 4)=[]))/\((aE 6 1 (some 7)=[])/\(aE 7 6 (some 131)=[]))))/\((((aE 9 14 (some 139)=[])/\(aE 10 1 (some 4)=[]))/\((aE 8 3 (some 137)=[])/\(aE 11 1 (some 8)=[])))/\(((aE 12 6 (some 153)=[])/\(aE 14 13 (some 161)=[]))/\((aE 15 1 (some 4)=[])/\((aE 13 3 (some 159)=[])/\(aE 16 1 (some 4)=[]))))):=⟨⟨⟨⟨rfl,rfl⟩,⟨rfl,rfl⟩⟩,⟨⟨rfl,rfl⟩,⟨rfl,rfl⟩⟩⟩,⟨⟨⟨rfl,rfl⟩,⟨rfl,rfl⟩⟩,⟨⟨rfl,rfl⟩,⟨rfl,⟨rfl,rfl⟩⟩⟩⟩⟩
theorem sX:(((((aE 0 2 (some 3)=[])/\(aE 1 7 (some 12)=[]))/\((aE 2 4 (some 18)=[])/\(aE 3 14 (some 22)=[])))/\(((aE 4 8 (some 35)=[])/\(aE 5 23 (some 41)=[]))/\((aE 6 9 (some 62)=[])/\((aE 7 5 (some 71)=[])/\(aE 8 4 (some 75)=[])))))/\((((aE 9 9 (some 79)=[])/\(aE 10 7 (some 87)=[]))/\((aE 11 6 (some 93)=[])/\((aE 12 13 (some 97)=[])/\(aE 13 4 (some 110)=[]))))/\(((aE 14 6 (some 114)=[])/\(aE 15 4 (some 119)=[]))/\((aE 16 15 (some 122)=[])/\((aE 17 12 (some 137)=[(7,9)])/\(aE 18 11 (some 147)=[]))))))/\(((((aE 19 5 (some 158)=[])/\(aE 20 8 (some 162)=[(3,5)]))/\((aE 21 3 (some 168)=[])/\((aE 22 2 (some 172)=[])/\(aE 23 6 (some 173)=[]))))/\(((aE 24 2 (some 179)=[])/\(aE 25 5 (some 180)=[]))/\((aE 26 2 (some 185)=[])/\((aE 27 5 (some 186)=[])/\(aE 28 2 (some 191)=[])))))/\((((aE 29 9 (some 192)=[])/\(aE 30 2 (some 201)=[]))/\((aE 31 5 (some 202)=[])/\((aE 32 2 (some 207)=[])/\(aE 33 16 (some 208)=[]))))/\(((aE 34 2 (some 224)=[])/\(aE 35 5 (some 225)=[]))/\((aE 36 2 (some 230)=[])/\((aE 37 3 (some 231)=[])/\(aE 38 2 (some 233)=[])))))):=⟨⟨⟨⟨⟨rfl,rfl⟩,⟨rfl,rfl⟩⟩,⟨⟨rfl,rfl⟩,⟨rfl,⟨rfl,rfl⟩⟩⟩⟩,⟨⟨⟨rfl,rfl⟩,⟨rfl,⟨rfl,rfl⟩⟩⟩,⟨⟨rfl,rfl⟩,⟨rfl,⟨rfl,rfl⟩⟩⟩⟩⟩,⟨⟨⟨⟨rfl,rfl⟩,⟨rfl,⟨rfl,rfl⟩⟩⟩,⟨⟨rfl,rfl⟩,⟨rfl,⟨rfl,rfl⟩⟩⟩⟩,⟨⟨⟨rfl,rfl⟩,⟨rfl,⟨rfl,rfl⟩⟩⟩,⟨⟨rfl,rfl⟩,⟨rfl,⟨rfl,rfl⟩⟩⟩⟩⟩⟩
theorem Th:(((aE 0 6 (some 3)=[])/\(aE 1 10 (some 13)=[(5,8)]))/\((aE 2 5 (some 19)=[])/\((aE 3 2 (some 24)=[])/\(aE 4 5 (some 25)=[]))))/\(((aE 5 2 (some 30)=[])/\(aE 6 12 (some 31)=[]))/\((aE 7 36 (some 41)=[])/\((aE 8 5 (some 114)=[])/\(aE 9 5 (some 116)=[(1,2)])))):=⟨⟨⟨rfl,rfl⟩,⟨rfl,⟨rfl,rfl⟩⟩⟩,⟨⟨rfl,rfl⟩,⟨rfl,⟨rfl,rfl⟩⟩⟩⟩
theorem tJ:((((aE 0 4 (some 3)=[])/\(aE 1 13 (some 16)=[]))/\((aE 2 2 (some 23)=[])/\((aE 3 2 (some 25)=[])/\(aE 4 7 (some 26)=[]))))/\(((aE 5 6 (some 32)=[])/\(aE 6 8 (some 37)=[(1,4)]))/\((aE 7 2 (some 43)=[])/\((aE 8 2 (some 45)=[])/\(aE 9 14 (some 47)=[])))))/\((((aE 10 6 (some 59)=[])/\(aE 11 3 (some 65)=[]))/\((aE 12 9 (some 68)=[])/\((aE 13 1 (some 13)=[])/\(aE 14 1 (some 14)=[]))))/\(((aE 15 6 (some 74)=[])/\((aE 17 9 (some 82)=[])/\(aE 18 10 (some 91)=[])))/\((aE 16 3 (some 80)=[])/\((aE 19 4 (some 100)=[])/\(aE 20 2 (some 103)=[]))))):=⟨⟨⟨⟨rfl,rfl⟩,⟨rfl,⟨rfl,rfl⟩⟩⟩,⟨⟨rfl,rfl⟩,⟨rfl,⟨rfl,rfl⟩⟩⟩⟩,⟨⟨⟨rfl,rfl⟩,⟨rfl,⟨rfl,rfl⟩⟩⟩,⟨⟨rfl,⟨rfl,rfl⟩⟩,⟨rfl,⟨rfl,rfl⟩⟩⟩⟩⟩
theorem Mb:(((aE 0 2 (some 1)=[])/\(aE 1 3 (some 5)=[]))/\((aE 2 2 (some 7)=[])/\((aE 3 1 (some 4)=[])/\(aE 4 4 (some 8)=[]))))/\(((aE 6 9 (some 14)=[])/\((aE 7 10 (some 23)=[])/\(aE 8 7 (some 32)=[])))/\((aE 9 13 (some 39)=[])/\((aE 5 3 (some 12)=[])/\(aE 10 2 (some 51)=[])))):=⟨⟨⟨rfl,rfl⟩,⟨rfl,⟨rfl,rfl⟩⟩⟩,⟨⟨rfl,⟨rfl,rfl⟩⟩,⟨rfl,⟨rfl,rfl⟩⟩⟩⟩
theorem BD:((((aE 0 3 (some 2)=[])/\(aE 1 4 (some 14)=[]))/\((aE 2 10 (some 17)=[])/\(aE 3 1 (some 9)=[])))/\(((aE 4 4 (some 22)=[])/\(aE 5 4 (some 25)=[]))/\((aE 6 1 (some 10)=[])/\(aE 7 1 (some 11)=[]))))/\((((aE 8 3 (some 29)=[])/\(aE 10 5 (some 34)=[]))/\((aE 11 2 (some 38)=[])/\(aE 12 1 (some 12)=[])))/\(((aE 13 7 (some 40)=[])/\(aE 14 5 (some 45)=[]))/\((aE 15 8 (some 50)=[])/\((aE 9 3 (some 32)=[])/\(aE 16 6 (some 56)=[(2,3)]))))):=⟨⟨⟨⟨rfl,rfl⟩,⟨rfl,rfl⟩⟩,⟨⟨rfl,rfl⟩,⟨rfl,rfl⟩⟩⟩,⟨⟨⟨rfl,rfl⟩,⟨rfl,rfl⟩⟩,⟨⟨rfl,rfl⟩,⟨rfl,⟨rfl,rfl⟩⟩⟩⟩⟩
theorem aAq:((aE 0 3 (some 1)=[])/\((aE 1 5 (some 5)=[])/\(aE 2 8 (some 8)=[])))/\((aE 3 3 (some 16)=[])/\((aE 4 5 (some 17)=[(0,2)])/\(aE 5 5 (some 20)=[(1,3)]))):=⟨⟨rfl,⟨rfl,rfl⟩⟩,⟨rfl,⟨rfl,rfl⟩⟩⟩
theorem Mr:((((aE 0 2 (some 1)=[])/\(aE 1 8 (some 6)=[]))/\((aE 2 1 (some 2)=[])/\((aE 3 7 (some 15)=[])/\(aE 4 2 (some 19)=[]))))/\(((aE 5 2 (some 21)=[])/\((aE 6 5 (some 22)=[])/\(aE 7 2 (some 25)=[])))/\((aE 8 2 (some 28)=[])/\((aE 9 4 (some 29)=[])/\(aE 10 2 (some 33)=[])))))/\((((aE 11 4 (some 34)=[])/\((aE 12 2 (some 38)=[])/\(aE 13 4 (some 39)=[])))/\((aE 14 2 (some 43)=[])/\((aE 15 4 (some 44)=[])/\(aE 16 2 (some 48)=[]))))/\(((aE 17 4 (some 49)=[])/\((aE 18 2 (some 53)=[])/\(aE 19 8 (some 54)=[(3,5)])))/\((aE 20 4 (some 60)=[])/\((aE 21 1 (some 2)=[])/\(aE 22 1 (some 2)=[]))))):=⟨⟨⟨⟨rfl,rfl⟩,⟨rfl,⟨rfl,rfl⟩⟩⟩,⟨⟨rfl,⟨rfl,rfl⟩⟩,⟨rfl,⟨rfl,rfl⟩⟩⟩⟩,⟨⟨⟨rfl,⟨rfl,rfl⟩⟩,⟨rfl,⟨rfl,rfl⟩⟩⟩,⟨⟨rfl,⟨rfl,rfl⟩⟩,⟨rfl,⟨rfl,rfl⟩⟩⟩⟩⟩
theorem QC:((aE 0 2 (some 3)=[])/\(aE 1 1 (some 5)=[]))/\((aE 2 15 (some 6)=[])/\((aE 3 3 (some 21)=[])/\(aE 4 13 (some 23)=[(7,10)]))):=⟨⟨rfl,rfl⟩,⟨rfl,⟨rfl,rfl⟩⟩⟩
theorem Ch:((((aE 0 3 (some 1)=[])/\(aE 1 3 (some 9)=[]))/\((aE 2 3 (some 12)=[])/\(aE 3 5 (some 13)=[])))/\(((aE 4 3 (some 17)=[])/\(aE 5 7 (some 19)=[]))/\((aE 6 4 (some 26)=[])/\((aE 7 7 (some 28)=[])/\(aE 8 4 (some 34)=[])))))/\((((aE 9 3 (some 37)=[])/\(aE 10 1 (some 6)=[]))/\((aE 11 4 (some 39)=[])/\((aE 13 8 (some 45)=[])/\(aE 14 12 (some 53)=[]))))/\(((aE 15 11 (some 65)=[])/\(aE 16 2 (some 73)=[]))/\((aE 17 7 (some 75)=[])/\((aE 12 3 (some 43)=[])/\(aE 18 3 (some 81)=[]))))):=⟨⟨⟨⟨rfl,rfl⟩,⟨rfl,rfl⟩⟩,⟨⟨rfl,rfl⟩,⟨rfl,⟨rfl,rfl⟩⟩⟩⟩,⟨⟨⟨rfl,rfl⟩,⟨rfl,⟨rfl,rfl⟩⟩⟩,⟨⟨rfl,rfl⟩,⟨rfl,⟨rfl,rfl⟩⟩⟩⟩⟩
theorem aOe:((aE 0 2 (some 3)=[])/\(aE 1 14 (some 5)=[(3,5),(3,8),(6,8),(3,11),(6,11),(9,11)]))/\((aE 2 8 (some 18)=[(3,5)])/\((aE 3 8 (some 25)=[(3,5)])/\(aE 4 13 (some 32)=[(4,7),(4,10),(8,10)]))):=⟨⟨rfl,rfl⟩,⟨rfl,⟨rfl,rfl⟩⟩⟩
theorem aG0:((aE 0 3 (some 1)=[])/\(aE 1 4 (some 5)=[]))/\((aE 2 2 (some 8)=[])/\((aE 3 3 (some 10)=[])/\(aE 4 14 (some 11)=[(5,7),(5,10),(8,10)]))):=⟨⟨rfl,rfl⟩,⟨rfl,⟨rfl,rfl⟩⟩⟩
theorem QM:(((aE 0 3 (some 1)=[])/\(aE 1 4 (some 6)=[]))/\((aE 2 2 (some 2)=[])/\(aE 3 14 (some 10)=[(7,9),(7,10)])))/\(((aE 4 1 (some 5)=[])/\(aE 5 5 (some 23)=[]))/\((aE 7 8 (some 30)=[])/\((aE 6 3 (some 28)=[])/\(aE 8 3 (some 37)=[])))):=⟨⟨⟨rfl,rfl⟩,⟨rfl,rfl⟩⟩,⟨⟨rfl,rfl⟩,⟨rfl,⟨rfl,rfl⟩⟩⟩⟩
theorem aAA:((aE 0 3 (some 1)=[])/\(aE 1 8 (some 4)=[]))/\((aE 2 2 (some 2)=[])/\(aE 3 13 (some 12)=[(7,9)])):=⟨⟨rfl,rfl⟩,⟨rfl,rfl⟩⟩
theorem aNY:(aE 0 2 (some 3)=[])/\(aE 1 8 (some 5)=[(3,5)]):=⟨rfl,rfl⟩
theorem aGZ:(aE 0 2 (some 3)=[])/\(aE 1 14 (some 5)=[(3,5),(3,8),(6,8),(3,11),(6,11),(9,11)]):=⟨rfl,rfl⟩
theorem AN:((aE 0 1 (some 4)=[])/\((aE 1 1 (some 5)=[])/\(aE 2 12 (some 6)=[])))/\(((aE 3 3 (some 18)=[])/\(aE 4 12 (some 20)=[]))/\((aE 5 2 (some 32)=[])/\(aE 6 12 (some 33)=[(6,9)]))):=⟨⟨rfl,⟨rfl,rfl⟩⟩,⟨⟨rfl,rfl⟩,⟨rfl,rfl⟩⟩⟩
end Go.Ab.Tryz
namespace Go.Ab.Tryz
open Classical Go.Proofs Go.Ab
theorem Im (x:Int) (h1:-9223372036854775808<=x) (h2:x<=9223372036854775807):IntKind.i64.wrap x=x:=wrap_i64 x h1 h2
theorem c87 (ns:List Node) (i:Int):aC Tryz.prog 87 [.agg (cU ⟨ns⟩),.v (.int .i64 i)]=some (.v (.bool (decide (0<=i) && decide (i<ns.length)))):=by
 rw[cL Tryz.func87 rfl aX6 rfl];by_cases h:0<=i
 all_goals
  simp only[ZZ,seval,h,decide_true,decide_false,Bool.false_eq_true,Bool.true_and,Bool.false_and];exact bT rfl (by simp only[EV,seval]) (.v _)
theorem WC (ns:List Node) (i:Int) (st:St) (d:Option Nat):aN (aC Tryz.prog) 87 [.agg (cU ⟨ns⟩),.v (.int .i64 i)] st d=some { dst:=d,val:=.v (.bool (decide (0<=i) && decide (i<ns.length)))}:=bL (bH (nC _) (.v _)) (c87 ns i) (.v _)
def WV (n:Int):Bool:=decide (0<=n) && decide (n<=2)
theorem aRC (i:Int):aC Tryz.prog 186 [.v (.int .i64 i)]=some (.v (.bool (WV i))):=by
 rw[cL Tryz.func186 rfl aQH rfl];by_cases h:0<=i
 all_goals
  simp only[ZZ,seval,h,decide_true,decide_false,Bool.false_eq_true,Bool.true_and,Bool.false_and];exact bT rfl (by simp only[EV,seval,WV,h,decide_true,decide_false,Bool.false_and,Bool.true_and]) (.v _)
noncomputable def aP (ns:List Node) (r:cJ):Int:=match ns.findIdx? (fun n=>decide (n.block.root=r)) with
 | some k=>(k:Int)
 | none=>-1
theorem PJ {ns:List Node} {r:cJ} {i:Int} (h0:0<=i) (h1:i<ns.length) (hr:(nd ns i).block.root=r) (hb:∀j,0<=j->j<i->(nd ns j).block.root≠r):aP ns r=i:=by
 obtain⟨hi,e⟩:=Nu h0 h1
 have:ns.findIdx? (fun n=>decide (n.block.root=r))=some i.toNat:=by
  rw[List.findIdx?_eq_some_iff_getElem];refine⟨hi,by simp[<- e,hr],fun j hj=>?_⟩
  have h:=hb j (by omega) (by omega)
  have hj':j<ns.length:=by omega
  simp[nd,hj'] at h
  simpa using h
 unfold aP;rw[this];simp;omega
theorem Zr {ns:List Node} {r:cJ} (hb:∀j,0<=j->j<(ns.length:Int)->(nd ns j).block.root≠r):aP ns r=-1:=by
 have:ns.findIdx? (fun n=>decide (n.block.root=r))=none:=by
  rw[List.findIdx?_eq_none_iff];intro n hn;obtain⟨j,hj,rfl⟩:=List.getElem_of_mem hn
  have h:=hb j (by omega) (by omega)
  simp[nd,hj] at h
  simpa using h
 unfold aP;rw[this]
theorem c46 (ns:List Node) (r:cJ) (hn:(ns.length:Int)<1000000):aC Tryz.prog 46 [.agg (cU ⟨ns⟩),.agg (aX r)]=some (.v (.int .i64 (aP ns r))):=by
 rw[cL Tryz.func46 rfl aX5 rfl];simp only[ZZ,seval];refine lP (fun n st=>∃i:Int,st.env 2=.ptr 2 0 0/\st.env 3=.ptr 3 0 0/\st.heap 2 0=some (.cells (cU ⟨ns⟩))/\st.heap 3 0=some (.cells (aX r))/\st.env 5=.v (.int .i64 i)/\0<=i/\i<=ns.length/\n=(ns.length-i).toNat /\
  ∀j,0<=j->j<i->(nd ns j).block.root≠r)
  (fun e st=>(e=.ret/\st.env 4=.v (.int .i64 (aP ns r)))\/(e=.exit 0/\aP ns r=-1)) ns.length ?step ?start ?rest
 case step =>
  rintro n st ⟨i,h2,h3,vG,WW,h5,i0,i1,Kk,hb⟩
  by_cases aZ:i<ns.length
  ·have hw:IntKind.i64.wrap (i+1)=i+1:=Im _ (by omega) (by omega)
   by_cases hr:(nd ns i).block.root=r
   ·apply oT (.ret)
    ·simp only[ZZ,seval,h2,h3,vG,WW,h5,aZ,i0,hr];rfl
    ·exact .inl ⟨rfl,by simp only[EV,seval,PJ i0 aZ hr hb]⟩
   ·apply oN ((ns.length-(i+1)).toNat)
    ·simp only[ZZ,seval,h2,h3,vG,WW,h5,aZ,i0,hr,hw];rfl
    ·exact⟨i+1,by simp only[EV,seval,h2],by simp only[EV,seval,h3],by simp only[EV,seval,vG],by simp only[EV,seval,WW],(by simp only[EV,seval]),by omega,by omega,rfl,fun j j0 j1=>by
     rcases Int.lt_or_eq_of_le (show j<=i by omega) with h|rfl
     ·exact hb j j0 h
     ·exact hr⟩
  ·apply oT (.exit 0)
   ·simp only[ZZ,seval,h2,h3,vG,WW,h5,aZ,i0];rfl
   ·exact .inr ⟨rfl,Zr fun j j0 j1=>hb j j0 (by omega)⟩
 case start=>exact⟨0,(by simp only[EV,seval]),(by simp only[EV,seval]),(by simp only[EV,seval]),(by simp only[EV,seval]),(by simp only[EV,seval]),by omega,by omega,by omega,fun j _ _=>by omega⟩
 case rest =>
  rintro e st (⟨rfl,h⟩|⟨rfl,h⟩)
  ·simp only[ZZ,seval];exact bT rfl h (.v _)
  ·simp only[ZZ,seval];exact bT rfl (by simp only[EV,seval,h]) (.v _)
end Go.Ab.Tryz
