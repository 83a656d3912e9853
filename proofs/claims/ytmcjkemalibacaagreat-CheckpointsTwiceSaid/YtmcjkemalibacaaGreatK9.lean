/-
  Part 9 of the proof: an evaluator of programs, its soundness, and what functions of this program compute.
-/
import Derived.Test.YtmcjkemalibacaaGreatK8
import Derived.Test.YtmcjkemalibacaaGreatK5
set_option linter.all false
set_option maxRecDepth 20000
set_option maxHeartbeats 40000000
section
namespace Go.Ab
open Classical
instance:Inhabited Node:=⟨C3⟩
def nd (ns:List Node) (i:Int):Node:=ns.getD i.toNat C3
def it (l:List Int) (i:Int):Int:=l.getD i.toNat 0
theorem Nc {ns:List Node} {i:Int} (h0:0≤i) (h1:i<ns.length):∃h:i.toNat<ns.length,nd ns i=ns[i.toNat]:=by
 have h:i.toNat<ns.length:=by omega
 exact⟨h,by simp[nd,h]⟩
theorem yA {l:List Int} {i:Int} (h0:0≤i) (h1:i<l.length):∃h:i.toNat<l.length,it l i=l[i.toNat]:=by
 have h:i.toNat<l.length:=by omega
 exact⟨h,by simp[it,h]⟩
theorem UB (l:List Int):aK l=l.map fun x=>.v (.int .i64 x):=by
 induction l with
 | nil=>rfl
 | cons a l ih=>simp only[aK,List.flatMap_cons,List.map_cons,qR] at *;rw[ih];rfl
theorem NQ (l:List Int):bI l=l.map fun x=>.v (.int .u64 x):=by
 induction l with
 | nil=>rfl
 | cons a l ih=>simp only[bI,List.flatMap_cons,List.map_cons,lV] at *;rw[ih];rfl
theorem N5 (a b:List Int):aK (a++b)=aK a++aK b:=by simp[aK]
theorem DG (a b:List Node):bU (a++b)=bU a++bU b:=by simp[bU]
theorem I1 (l:List Int):∀c∈aK l,iD c:=by rw[UB];intro c hc;obtain⟨x,_,rfl⟩:=List.mem_map.1 hc;exact .v _
theorem N6 {l:List Int} {i:Int} (h0:0≤i) (h1:i<l.length):(aK l)[i.toNat]? = some (.v (.int .i64 (it l i))):=by
 obtain⟨h,e⟩:=yA h0 h1
 rw[UB,List.getElem?_map,List.getElem?_eq_getElem h,e];rfl
theorem I0 {l:List Int} {i:Int} (h0:0≤i) (h1:i<l.length):(bI l)[i.toNat]? = some (.v (.int .u64 (it l i))):=by
 obtain⟨h,e⟩:=yA h0 h1
 rw[NQ,List.getElem?_map,List.getElem?_eq_getElem h,e];rfl
theorem ZT {ns:List Node} {i:Int} (h0:0≤i) (h1:i<ns.length):((bU ns).drop (i.toNat * 240)).take 240=fJ (nd ns i):=by
 obtain⟨h,e⟩:=Nc h0 h1
 rw[e,← M3 ns i.toNat h];rfl
theorem MY:((1:Nat)=0)=False:=by simp
theorem MZ:((0:Nat)=1)=False:=by simp
theorem cV {x:AV} (h:Flat x):∀y∈[x],Flat y:=by simpa using h
theorem bF {x y:AV} (h:Flat x) (h':Flat y):∀z∈[x,y],Flat z:=by simp[h,h']
theorem mE {x y u:AV} (h:Flat x) (h':Flat y) (h2:Flat u):∀z∈[x,y,u],Flat z:=by simp[h,h',h2]
theorem mD (t:Tree):Flat (.agg (cO t)):=.agg _ (YT t)
theorem tJ (t:Block):Flat (.agg (aV t)):=.agg _ (Ck t)
theorem qQ (t:cN):Flat (.agg (bD t)):=.agg _ (dO t)
theorem Sw (l:List Int):Flat (.sl l.length (aK l)):=.sl _ _ (fV l)
theorem aEp (st:St) (n:Nat) (cs:List AV):aX st (.sl n cs)=some (n,cs):=rfl
theorem aBz (st:St):aX st (.v (.slice none 0 0))=some (0,[]):=rfl
theorem aI1 (x:Int):qR x=[.v (.int .i64 x)]:=rfl
theorem aI2 (x:Int):lV x=[.v (.int .u64 x)]:=rfl
theorem aEq (x:Bool):vD x=[.v (.bool x)]:=rfl
namespace Tryz
open Go.Proofs
theorem aOz (st:St) {ns:List Node} {k:IntKind} {i:Int} (h0:0≤i) (h1:i<ns.length):bH Tryz.prog st 48 (.sl ns.length (bU ns)) (.v (.int k i))=some (.ip (fJ (nd ns i)) 0):=by
 have hl:i.toNat<ns.length:=by omega
 have:i.toNat * 240+240≤ns.length * 240:=by rw[← Nat.succ_mul];exact Nat.mul_le_mul_right _ hl
 simp only[bH,aIY,TZ,h0,h1,Ni,this,and_self,if_true,ZT h0 h1]
theorem aE7 (st:St) {l:List Int} {k:IntKind} {i:Int} (h0:0≤i) (h1:i<l.length):bH Tryz.prog st 22 (.sl l.length (aK l)) (.v (.int k i))=some (.ip (qR (it l i)) 0):=by
 obtain⟨h,e⟩:=yA h0 h1
 have:i.toNat * 1+1≤l.length * 1:=by omega
 have hr:=aA9 l i.toNat h
 simp only[bH,aEn,Nd,h0,h1,Kr,this,and_self,if_true,e,← hr];rfl
theorem aBA {call:Nat→List AV→Option AV} {ops:Array Oper} {st:St} {d:Option Nat} {T:Nat} {pos:String} {eW:Array Edge} (g:Nat) (args:Array Operand) (tR:Array Nat) (h:(g == 215 || g == 226 || g == 227 || g == 229 || g == 228 || g == 230 || g == 231 || g == 210 || g == 81 || g == 217 || g == 222 || g == 235 || g == 220 || g == 101 || g == 57 || g == 32 || (g == 43 && d == some 72) || (g == 31 && d == some 40))=false) :
 cH Tryz.prog call ops ⟨d,.call ⟨.value (.func g),args,tR⟩,T,pos,eW,none⟩ st=cT (aO call g (args.toList.map st.ev) st d) fun e=>some (e.apply st):=by
 simp only[Bool.or_eq_false_iff] at h;exact aDI g args tR (aD1 (by simp only[h,Bool.or_self])) (aBr (by simp only[h,Bool.or_self]))
theorem N7 {call:Nat→List AV→Option AV} {ops:Array Oper} {st:St} {d:Option Nat} {T:Nat} {pos:String} {eW:Array Edge} (g:Nat) (args:Array Operand) (tR:Array Nat) (h:(g == 215 || g == 226 || g == 227 || g == 229 || g == 228 || g == 230 || g == 231 || g == 210 || g == 81)=true) :
 cH Tryz.prog call ops ⟨d,.call ⟨.value (.func g),args,tR⟩,T,pos,eW,none⟩ st=cT (lN call g (args.toList.map st.ev) st d) fun e=>some (e.apply st):=aA3 g args tR (C6 h)
theorem aBB {call:Nat→List AV→Option AV} {ops:Array Oper} {st:St} {d:Option Nat} {T:Nat} {pos:String} {eW:Array Edge} (g:Nat) (args:Array Operand) (tR:Array Nat) (h:(g == 217 || g == 222 || g == 235 || g == 220 || g == 101 || g == 57 || g == 32 || (g == 43 && d == some 72) || (g == 31 && d == some 40))=true) :
 cH Tryz.prog call ops ⟨d,.call ⟨.value (.func g),args,tR⟩,T,pos,eW,none⟩ st=cT (fG call g (args.toList.map st.ev) st d) fun e=>some (e.apply st):=by
 refine YL g args tR ?_ (aBs h)
 simp only[Bool.or_eq_true,Bool.and_eq_true,beq_iff_eq] at h;rcases h with (((((((h|h)|h)|h)|h)|h)|h)|⟨h,_⟩)|⟨h,_⟩<;>(subst h;rfl)
theorem aOA {S d:Nat} (h:((S == 54 && (d == 36 || d == 42 || d == 26)) || (S == 45 && (d == 84 || d == 91)))=false):Ext.va S d=false:=C4 (by
 simp only[Bool.or_eq_false_iff,Bool.and_eq_false_iff] at h ⊢;exact h.1.imp id fun h=>h.2)
theorem aOB {S d:Nat} (h:((S == 54 && (d == 36 || d == 42 || d == 26)) || (S == 45 && (d == 84 || d == 91)))=false):Ext.pa S d=false:=aD0 (by
 simp only[Bool.or_eq_false_iff,Bool.and_eq_false_iff] at h ⊢;exact⟨h.1.imp id fun h=>h.1,h.2⟩)
theorem aBC {S d:Nat} (h:((S == 54 && (d == 36 || d == 42)) || (S == 45 && (d == 84 || d == 91)))=true):Ext.va S d=false:=C4 (by
 by_cases h2:d=26
 ·subst h2;simp at h
 ·simp[h2])
theorem aEr {call:Nat→List AV→Option AV} {ops:Array Oper} {st:St} {T:Nat} {pos:String} {eW:Array Edge} (s x:Operand) (S d:Nat) (h:((S == 54 && (d == 36 || d == 42 || d == 26)) || (S == 45 && (d == 84 || d == 91)))=false):cH Tryz.prog call ops ⟨some d,.call ⟨.builtin .append,#[s,x],#[S,S]⟩,T,pos,eW,none⟩ st=cT (dH Tryz.prog st S (st.ev s) (st.ev x)) fun ur =>
 some (((match ur.1 with|some p=>st.jC p.1 p.2 none|none=>st).new d ur.2).put (some d) (.own d (st.aU d))):=BY s x S d (aOA h) (aOB h)
theorem iO {call:Nat→List AV→Option AV} {ops:Array Oper} {st:St} {T:Nat} {pos:String} {eW:Array Edge} (s x:Operand) (S d:Nat) (h:((S == 54 && (d == 36 || d == 42)) || (S == 45 && (d == 84 || d == 91)))=true) (hn:¬(st.ev s=.v (.slice none 0 0)∧(aX st (st.ev x)).map Prod.fst=some 0)):cH Tryz.prog call ops ⟨some d,.call ⟨.builtin .append,#[s,x],#[S,S]⟩,T,pos,eW,none⟩ st=cT (dH Tryz.prog st S (st.ev s) (st.ev x)) fun ur =>
 some (((match ur.1 with|some p=>st.jC p.1 p.2 none|none=>st).new d ur.2).put (some d) (.own d (st.aU d))):=aA5 s x S d (aBC h) (C5 h) hn
theorem iN {call:Nat→List AV→Option AV} {ops:Array Oper} {st:St} {T:Nat} {pos:String} {eW:Array Edge} (s x:Operand) (S d:Nat) (h:((S == 54 && (d == 36 || d == 42)) || (S == 45 && (d == 84 || d == 91)))=true) (hi:(dT Tryz.prog S).isSome=true) (h1:st.ev s=.v (.slice none 0 0)) (h2:(aX st (st.ev x)).map Prod.fst=some 0):cH Tryz.prog call ops ⟨some d,.call ⟨.builtin .append,#[s,x],#[S,S]⟩,T,pos,eW,none⟩ st=some (st.put (some d) (.v (.slice none 0 0))):=aA6 s x S d (aBC h) (C5 h) hi h1 h2
end Tryz
end Go.Ab
end
section
namespace Go.Ab
open Classical
noncomputable def uF (call:Nat→List AV→Option AV) (g:Nat) (xs:Option (List AV)) (fl:Bool) (st:St) (d:Option Nat):Option rX :=
 cT xs fun xs=>cT (call g xs) fun r=>if fl=true∨Yj r then jD r st d else none
theorem Eb {st:St}:∀(args:List AV),(∀x∈args,Flat x)→cM (args.map (fP st))=some args
 | [],_=>rfl
 | x :: xs,h=>by
   simp only[List.map_cons,eB (h x (by simp)),cM,Eb xs fun y hy=>h y (by simp[hy]),Option.map_some]
theorem jV (call:Nat→List AV→Option AV) (g:Nat) (args:List AV) (st:St) (d:Option Nat):aO call g args st d=uF call g (cM (args.map (fP st))) (decide (∀x∈args,Flat x)) st d:=by
 unfold aO uF;by_cases h:∀x∈args,Flat x
 ·rw[if_pos h,Eb args h];have hd:decide (∀x∈args,Flat x)=true:=decide_eq_true h
  rw[hd];simp only[cF,true_or,if_true]
 ·rw[if_neg h];cases cM (args.map (fP st)) with
  | none=>rfl
  | some xs =>
    have hd:decide (∀x∈args,Flat x)=false:=decide_eq_false h
    rw[hd];simp only[cF,Bool.false_eq_true,false_or]
theorem F6 {call:Nat→List AV→Option AV} {g:Nat} {xs:List AV} {r:AV} {fl:Bool} {st:St} {d:Option Nat} (h:call g xs=some r) (hr:Yj r) (hf:Flat r):uF call g (some xs) fl st d=some { dst:=d,val:=r }:=by
 unfold uF;simp only[cF,h,hr,or_true,if_true,jD,if_pos hf]
theorem Sv {call:Nat→List AV→Option AV} {g:Nat} {xs:List AV} {b:Bool} {fl:Bool} {st:St} {d:Option Nat} (h:call g xs=some (.v (.bool b))):uF call g (some xs) fl st d=some { dst:=d,val:=.v (.bool b)}:=F6 h (.v _) (.v _)
theorem Vp {call:Nat→List AV→Option AV} {g:Nat} {xs:List AV} {k:IntKind} {b:Int} {fl:Bool} {st:St} {d:Option Nat} (h:call g xs=some (.v (.int k b))):uF call g (some xs) fl st d=some { dst:=d,val:=.v (.int k b)}:=F6 h (.v _) (.v _)
theorem W0 {call:Nat→List AV→Option AV} {g:Nat} {xs:List AV} {e sz n:Nat} {cs:List AV} {fl:Bool} {st:St} {d:Nat} (h:call g xs=some (.uniq e sz n cs)) (hr:∀c∈cs,iD c):uF call g (some xs) fl st (some d)=some { dst:=some d,val:=.own d (st.aU d),new:=some (d,[.row e sz n cs])}:=by
 have p5:Yj (.uniq e sz n cs):=hr
 have hnf:¬Flat (.uniq e sz n cs):=by intro h;cases h
 unfold uF;simp only[cF,h,p5,or_true,if_true,jD,if_neg hnf];rfl
noncomputable def jI (o:Option nP):Option AV :=
 match o with
 | some (.row _ _ n cs)=>if ∀c∈cs,Flat c then some (.sl n cs) else none
 | _=>none
theorem vS (st:St) (s g:Nat):fP st (.own s g)=jI (st.heap s g):=by
 unfold fP cJ jI;rw[if_neg (nA s g)];simp only[if_neg (nA s g)];cases st.heap s g with
 | none=>rfl
 | some e=>cases e<;>rfl
theorem N8 (e sz n:Nat) (l:List Int):jI (some (.row e sz n (aK l)))=some (.sl n (aK l)):=by
 unfold jI;simp only;rw[if_pos (fV l)]
theorem N9 (e sz n:Nat) (l:List Int):jI (some (.row e sz n (bI l)))=some (.sl n (bI l)):=by
 unfold jI;simp only;rw[if_pos (gZ l)]
theorem ZU (e sz n:Nat) (l:List Node):jI (some (.row e sz n (bU l)))=some (.sl n (bU l)):=by
 unfold jI;simp only;rw[if_pos (gX l)]
theorem UC (e sz:Nat) (x:Node):jI (some (.row e sz 1 (fJ x)))=some (.sl [x].length (bU [x])):=by
 unfold jI;simp only;rw[if_pos (Nh x)];simp[bU]
theorem Nk (st:St) (x:Value):fP st (.v x)=some (.v x):=eB (.v x)
theorem Km (st:St) (t:Tree):fP st (.agg (cO t))=some (.agg (cO t)):=eB (mD t)
theorem Tj (st:St) (t:cN):fP st (.agg (bD t))=some (.agg (bD t)):=eB (qQ t)
theorem Nq (st:St) (t:Block):fP st (.agg (aV t))=some (.agg (aV t)):=eB (tJ t)
theorem aBD (st:St) (n:Nat) (l:List Int):fP st (.sl n (aK l))=some (.sl n (aK l)):=eB (.sl _ _ (fV l))
theorem aBE (st:St) (n:Nat) (l:List Int):fP st (.sl n (bI l))=some (.sl n (bI l)):=eB (.sl _ _ (gZ l))
theorem aEs (st:St):fP st (.agg [.v (.slice none 0 0)])=some (.agg [.v (.slice none 0 0)]):=eB (.agg _ (by simp;exact .v _))
theorem fY {α:Type}:cM ([]:List (Option α))=some []:=rfl
theorem bM {α:Type} (x:α) (r:List (Option α)):cM (some x :: r)=(cM r).map (x :: ·):=rfl
theorem aEt (x:Int):yW 3 1 8 (some (1,[.v (.int .i64 x)]))=some (none,.row 3 1 [x].length (aK [x])):=by
 simp[yW,maxLen];rfl
theorem aEu (l:List Int) (x:Int) (s g:Nat) (h:(l.length:Int)<1000000):yL 3 1 8 (some (.row 3 1 l.length (aK l))) s g (some (1,[.v (.int .i64 x)]))=some (some (s,g),.row 3 1 (l++[x]).length (aK (l++[x]))):=by
 simp only[yL];rw[if_pos ⟨by simp,by simp,by simp,by omega,by simp only[maxLen];omega⟩,N5]
 simp[aK,qR]
theorem aBF (x:Node):yW 76 240 352 (some (1,fJ x))=some (none,.row 76 240 [x].length (bU [x])):=by
 simp[yW,maxLen,bU]
theorem aBG (l:List Node) (x:Node) (s g:Nat) (h:(l.length:Int)<1000000):yL 76 240 352 (some (.row 76 240 l.length (bU l))) s g (some (1,fJ x))=some (some (s,g),.row 76 240 (l++[x]).length (bU (l++[x]))):=by
 simp only[yL];rw[if_pos ⟨by simp,by simp,by simp,by omega,by simp only[maxLen];omega⟩,DG]
 simp[bU]
theorem aBH (l:List Node) (h:(l.length:Int)<1000000):yW 76 240 352 (some (l.length,bU l))=some (none,.row 76 240 l.length (bU l)):=by
 simp only[yW];rw[if_pos (by refine⟨by simp, ?_, ?_⟩<;>(try simp only[maxLen])<;>omega)]
theorem aBI (l:List Node) (h:(l.length:Int)<1000000):acE 76 240 352 0 [] (some (l.length,bU l))=some (none,.row 76 240 l.length (bU l)):=by
 simp only[acE];rw[if_pos ⟨by simp,by simp,by simp,by omega,by simp only[maxLen];omega⟩]
 simp
theorem aBJ (l:List Node) (x:Node) (h:(l.length:Int)<1000000):acE 76 240 352 l.length (bU l) (some (1,fJ x))=some (none,.row 76 240 (l++[x]).length (bU (l++[x]))):=by
 simp only[acE];rw[if_pos (by refine⟨by simp,by simp,.inr (by omega), ?_, ?_⟩<;>(try simp only[maxLen])<;>omega),DG]
 simp[bU]
def onI {α:Type} (x:AV) (k:Int→Option α):Option α :=
 match x with
 | .v (.int .i64 v)=>k v
 | _=>none
def aF4 {α:Type} (z:Nat) (x:AV) (k:List AV→Option α):Option α :=
 match x with
 | .agg cs=>if cs.length=z then k cs else none
 | _=>none
@[congr] theorem aJN {α:Type} {x y:AV} {k:Int→Option α} (h:x=y):onI x k=onI y k:=by rw[h]
@[congr] theorem aF5 {α:Type} {z:Nat} {x y:AV} {k:List AV→Option α} (h:x=y):aF4 z x k=aF4 z y k:=by rw[h]
def Nf {α:Type} (x:AV) (k:Int→Option α) (fb:Option α):Option α :=
 match x with
 | .v (.int .i64 v)=>k v
 | _=>fb
def UD {α:Type} (z:Nat) (x:AV) (k:List AV→Option α) (fb:Option α):Option α :=
 match x with
 | .agg cs=>if cs.length=z then k cs else fb
 | _=>fb
def UE {α:Type} (x:AV) (k:Nat→List AV→Option α) (fb:Option α):Option α :=
 match x with
 | .rW g cs=>k g cs
 | _=>fb
theorem aEv {α:Type} (v:Int) (k:Int→Option α) (fb:Option α):Nf (.v (.int .i64 v)) k fb=k v:=rfl
theorem O0 {α:Type} (z:Nat) (cs:List AV) (k:List AV→Option α) (fb:Option α) (h:cs.length=z):UD z (.agg cs) k fb=k cs:=if_pos h
theorem O1 {α:Type} (g:Nat) (cs:List AV) (k:Nat→List AV→Option α) (fb:Option α):UE (.rW g cs) k fb=k g cs:=rfl
@[congr] theorem aJO {α:Type} {x y:AV} {k:Int→Option α} {fb:Option α} (h:x=y):Nf x k fb=Nf y k fb:=by rw[h]
@[congr] theorem aF6 {α:Type} {z:Nat} {x y:AV} {k:List AV→Option α} {fb:Option α} (h:x=y):UD z x k fb=UD z y k fb:=by rw[h]
@[congr] theorem aF7 {α:Type} {x y:AV} {k:Nat→List AV→Option α} {fb:Option α} (h:x=y):UE x k fb=UE y k fb:=by rw[h]
namespace Tryz
open Go.Proofs
theorem O2 (st:St) (x:AV):dH Tryz.prog st 22 (.v (.slice none 0 0)) x=yW 3 1 8 (aX st x):=uU Nd x
theorem O3 (st:St) (s g:Nat) (x:AV):dH Tryz.prog st 22 (.own s g) x=yL 3 1 8 (st.heap s g) s g (aX st x):=rU Nd s g x
theorem O4 (st:St) (x:AV):dH Tryz.prog st 48 (.v (.slice none 0 0)) x=yW 76 240 352 (aX st x):=uU TZ x
theorem O5 (st:St) (s g:Nat) (x:AV):dH Tryz.prog st 48 (.own s g) x=yL 76 240 352 (st.heap s g) s g (aX st x):=rU TZ s g x
theorem aBK (st:St) (n:Nat) (cs:List AV) (x:AV):dH Tryz.prog st 48 (.cl n cs) x=acE 76 240 352 n cs (aX st x):=aHA TZ n cs x
theorem O6 (st:St) (s g:Nat) (k:IntKind) (i:Int):bH Tryz.prog st 22 (.own s g) (.v (.int k i))=NI 3 1 (st.heap s g) s g i:=by
 simp only[bH,aEn,Nd,NI];cases st.heap s g with
 | none=>rfl
 | some e=>cases e<;>rfl
theorem O7 (st:St) (s g:Nat) (k:IntKind) (i:Int):bH Tryz.prog st 48 (.own s g) (.v (.int k i))=NI 76 240 (st.heap s g) s g i:=by
 simp only[bH,aIY,TZ,NI];cases st.heap s g with
 | none=>rfl
 | some e=>cases e<;>rfl
theorem aEw (l:List Int) (s g:Nat) (i:Int) (h0:0≤i) (h1:i<l.length):NI 3 1 (some (.row 3 1 l.length (aK l))) s g i=some (.ptr s g i.toNat):=by
 simp[NI,h0,h1]
theorem aBL (l:List Node) (s g:Nat) (i:Int) (h0:0≤i) (h1:i<l.length):NI 76 240 (some (.row 76 240 l.length (bU l))) s g i=some (.ptr s g (i.toNat * 240)):=by
 simp[NI,h0,h1]
theorem UF (st:St) (s g:Nat):fP st (.agg [.own s g])=(jI (st.heap s g)).map fun y=>.agg [y]:=by
 have hn:¬Flat (.agg [.own s g]):=by intro h;cases h with|agg _ h=>exact nA s g (h _ (by simp))
 unfold fP jI;rw[if_neg hn];simp only[List.map_cons,List.map_nil];unfold cJ;rw[if_neg (nA s g)];simp only
 cases st.heap s g with
 | none=>rfl
 | some e=>cases e with
   | row a b n cs =>
     by_cases h:∀c∈cs,Flat c
     ·simp only[if_pos h,cM,Option.map_some]
     ·simp only[if_neg h,cM,Option.map_none]
   | _=>rfl
theorem aI3 (x:AV):rd [x] 0 1=[x]:=rfl
theorem aI4 (x y:AV):dS [x] 0 [y] 1=[y]:=rfl
theorem aBM (x:AV) (t:Tree):dS [x] 0 (cO t) 1=cO t:=rfl
theorem aBN (x:AV) (t:Tree):dS (cO t) 0 [x] 1=[x]:=rfl
theorem nK {l:List Int} {i:Int} (h0:0≤i) (h1:i<l.length):(aK l)[i.toNat]? = some (.v (.int .i64 (it l i))):=N6 h0 h1
def vow (o:Option nP):Option (Nat × List AV) :=
 match o with
 | some (.row _ _ n cs)=>some (n,cs)
 | _=>none
theorem aEx (e sz n:Nat) (cs:List AV):vow (some (.row e sz n cs))=some (n,cs):=rfl
theorem O8 (st:St) (s g:Nat):aX st (.own s g)=vow (st.heap s g):=by
 simp only[aX,vow];cases st.heap s g with
 | none=>rfl
 | some o=>cases o<;>rfl
section
variable {call:Nat→List AV→Option AV} {ops:Array Oper} {st:St} {T:Nat} {pos:String} {eW:Array Edge}
theorem aEy (d:Nat) (x:Operand) {v:Int} (h:st.ev x=.v (.int .i64 v)):cH Tryz.prog call ops ⟨some d,.buildSlice 22 1 #[(0,x)],T,pos,eW,none⟩ st=some ((st.new d (.row 3 1 1 [.v (.int .i64 v)])).put (some d) (.own d (st.aU d))):=by
 rw[lA];simp[Nd,ze3,cT,h,AV.jE,Value.oneCell',gT,AV.cells]
theorem aEz (d:Nat) (x:Operand) {cs:List AV} (h:st.ev x=.agg cs) (hl:cs.length=240):cH Tryz.prog call ops ⟨some d,.buildSlice 48 1 #[(0,x)],T,pos,eW,none⟩ st=some ((st.new d (.row 76 240 1 cs)).put (some d) (.own d (st.aU d))):=by
 rw[lA];have hz:(CD.map AV.v).length=240:=by rw[LN];simp
 simp only[TZ,aH4,cT,List.toList_toArray,List.all_cons,List.all_nil,h,AV.jE,Bool.and_self,List.map_cons,List.map_nil,gT,AV.cells,hl,Nat.zero_mul,Nat.zero_add,true_and,List.take_zero,List.nil_append];have h2:((List.range 1).flatMap fun _=>CD.map AV.v)=CD.map AV.v:=by simp[List.range,List.range.loop]
 rw[h2,if_pos (by simp),if_pos (by rw[hz];exact Nat.le_refl _)]
 rw[List.drop_of_length_le (by rw[hz];exact Nat.le_refl _),List.append_nil]
theorem aBO (d:Nat) (x:Operand):cH Tryz.prog call ops ⟨some d,.buildSlice 22 1 #[(0,x)],T,pos,eW,none⟩ st =
 Nf (st.ev x) (fun v=>some ((st.new d (.row 3 1 1 [.v (.int .i64 v)])).put (some d) (.own d (st.aU d)))) (cH Tryz.prog call ops ⟨some d,.buildSlice 22 1 #[(0,x)],T,pos,eW,none⟩ st):=by
 unfold Nf;split
 ·rename_i v h;exact aEy d x h
 ·rfl
theorem O9 (d:Nat) (x y z:Operand) {a b c:Int} (h1:st.ev x=.v (.int .i64 a)) (h2:st.ev y=.v (.int .i64 b)) (h3:st.ev z=.v (.int .i64 c)):cH Tryz.prog call ops ⟨some d,.buildSlice 22 3 #[(0,x),(1,y),(2,z)],T,pos,eW,none⟩ st =
 some ((st.new d (.row 3 1 [a,b,c].length (aK [a,b,c]))).put (some d) (.own d (st.aU d))):=by
 rw[lA];simp[Nd,ze3,cT,h1,h2,h3,AV.jE,Value.oneCell',gT,AV.cells,List.range,List.range.loop,aK,qR]
theorem ZV (d:Nat) (x y z:Operand):cH Tryz.prog call ops ⟨some d,.buildSlice 22 3 #[(0,x),(1,y),(2,z)],T,pos,eW,none⟩ st =
 Nf (st.ev x) (fun a=>Nf (st.ev y) (fun b=>Nf (st.ev z) (fun c=>some ((st.new d (.row 3 1 [a,b,c].length (aK [a,b,c]))).put (some d) (.own d (st.aU d)))) (cH Tryz.prog call ops ⟨some d,.buildSlice 22 3 #[(0,x),(1,y),(2,z)],T,pos,eW,none⟩ st))
  (cH Tryz.prog call ops ⟨some d,.buildSlice 22 3 #[(0,x),(1,y),(2,z)],T,pos,eW,none⟩ st)) (cH Tryz.prog call ops ⟨some d,.buildSlice 22 3 #[(0,x),(1,y),(2,z)],T,pos,eW,none⟩ st):=by
 unfold Nf;split
 ·rename_i a h1;try dsimp only
  split
  ·rename_i b h2;try dsimp only
   split
   ·rename_i c h3;exact O9 d x y z h1 h2 h3
   ·rfl
  ·rfl
 ·rfl
theorem aBP (d:Nat) (x:Operand):cH Tryz.prog call ops ⟨some d,.buildSlice 48 1 #[(0,x)],T,pos,eW,none⟩ st =
 UD 240 (st.ev x) (fun cs=>some ((st.new d (.row 76 240 1 cs)).put (some d) (.own d (st.aU d)))) (cH Tryz.prog call ops ⟨some d,.buildSlice 48 1 #[(0,x)],T,pos,eW,none⟩ st):=by
 unfold UD;split
 ·rename_i cs h;split
  ·rename_i hl;exact aEz d x h hl
  ·rfl
 ·rfl
theorem GC (S d:Nat) (l c:Operand):cH Tryz.prog call ops ⟨some d,.makeSlice S l c,T,pos,eW,none⟩ st =
 Nf (st.ev l) (fun n=>Nf (st.ev c) (fun m=>if 0≤n∧n=m then (cT (dT Tryz.prog S) fun t=>cT (eH Tryz.prog t.1) fun z =>
  if n * t.2.2≤140737488355328∧n≤maxLen then some ((st.new d (.row t.1 t.2.1 n.toNat ((List.range n.toNat).flatMap fun _=>z.map .v))).put (some d) (.own d (st.aU d))) else none)
  else cH Tryz.prog call ops ⟨some d,.makeSlice S l c,T,pos,eW,none⟩ st) (cH Tryz.prog call ops ⟨some d,.makeSlice S l c,T,pos,eW,none⟩ st)) (cH Tryz.prog call ops ⟨some d,.makeSlice S l c,T,pos,eW,none⟩ st):=by
 unfold Nf;split
 ·rename_i n hl;split
  ·rename_i m hc;dsimp only
   split
   ·rename_i hnm;obtain⟨h0,rfl⟩:=hnm
    have hn:n=(n.toNat:Int):=by omega
    rw[LG S d l c (n:=n.toNat) (by rw[hl,← hn]) (by rw[hc,← hn]),← hn]
   ·rfl
  ·rfl
 ·rfl
theorem P0 (t:Nat) (args:Array Operand) (tR:Array Nat) (d:Option Nat):cH Tryz.prog call ops ⟨d,.call ⟨.value (.tmp t),args,tR⟩,T,pos,eW,none⟩ st =
 UE (st.env t) (fun g mJ=>cT (aO call g (args.toList.map st.ev++mJ) st d) fun e=>some (e.apply st)) (cH Tryz.prog call ops ⟨d,.call ⟨.value (.tmp t),args,tR⟩,T,pos,eW,none⟩ st):=by
 unfold UE;split
 ·rename_i g mJ h;exact aA4 t args tR h
 ·rfl
end
end Tryz
end Go.Ab
end
namespace Go.Ab
open Classical
theorem Oy {h0:Nat→Obj→Prop} {w w':World} {v:Value} {p:Option Addr} {cap:Nat} (h:v=.slice p 0 cap):KD h0 w w' (.sl 0 []) v:=by
 subst h;exact Tz (.sl 0 [] (fun x hx=>by cases hx)) (.IS 0 cap p (Nat.zero_le _))
theorem UG [Ext] {P:Program} (hm:P.follows .mixedOrders=true) (hx:HW P) {f:Nat} (h:∀p cap,∃r,aB P f [.v (.slice p 0 cap)]=some r∧(r=.v (.slice none 0 0)∨∃e sz,r=.uniq e sz 0 [])):Dd P f∧Tw P f [.sl 0 []] (.sl 0 []):=by
 have J9:Dd P f:=by
  obtain⟨r,hr,_⟩:=h none 0
  obtain⟨n,hn⟩:=(tQ P).1 hr
  exact (aAV hm hx n f _ r hn).1
 refine⟨J9,fun w h0 vs hh fU=>?_⟩
 have hl:=fU.len
 obtain⟨v,hv⟩:∃v,vs.toList=[v]:=by
  cases e:vs.toList with
  | nil=>rw[e] at hl;simp at hl
  | cons v r=>cases r with
    | nil=>exact⟨v,rfl⟩
    | cons _ _=>rw[e] at hl;simp at hl
 have hvs:vs=#[v]:=Array.ext' hv
 subst hvs;have h1:cY (bare h0) (.sl 0 []) v:=fU.rel 0 _ v rfl rfl
 obtain⟨p,cap,rfl⟩:=VI h1
 obtain⟨r,hr,hc⟩:=h p cap
 have hC:Tw P f [.v (.slice p 0 cap)] r:=AS (P:=P) hm hx hr
 refine (hC w h0 #[.slice p 0 cap] hh ⟨rfl,fun i x y hx hy=>?_⟩).mono fun e w' ⟨v,he,hv,hg⟩=>⟨v,he, ?_,hg⟩
 ·cases i with
  | zero=>cases hx;cases hy;exact .v _
  | succ i=>cases hx
 obtain⟨us,_,_,_,h4,h5⟩:=hv
 rcases hc with rfl|⟨e,sz,rfl⟩
 ·have hl:us=[]:=List.length_eq_zero_iff.1 (h4 0 0).symm
  subst hl;have:=(h5 (bare (newHs h0 w w' [])) 0 0 (fun _ _ h=>h) (by simp)).1
  exact Oy (iK this)
 ·have hl:us.length=1:=(h4 0 0).symm
  obtain⟨u,rfl⟩:=List.length_eq_one_iff.1 hl
  have h6:=h5 ⟨newHs h0 w w' [u],fun _ _=>u,fun _=>1⟩ 0 0 (fun _ _ h=>h) (fun i x hx=>by
   cases i with
   | zero=>cases hx;exact⟨Nat.zero_lt_one,rfl⟩
   | succ i=>cases hx)
  have h7:v=u:=by
   have:=h6.1
   cases this
   rfl
  subst h7;obtain⟨xs,ho,_⟩:=h6.2 0 _ v rfl rfl
  rcases ho.2 with ⟨q,hq,_⟩|⟨b,c,cur,hq,_⟩
  ·exact Oy hq
  ·exact Oy hq
end Go.Ab
section
namespace Go.Ab.Tryz
open Classical Go.Proofs Go.Ab
theorem aI5:@bK aDZ Tryz.f164=true:=by kernel_rfl
section
variable [E:Ext]
theorem aOC (p:Option Addr) (cap:Nat):gM Tryz.prog .eql 45 (.v (.slice p 0 cap)) (.v (.slice none 0 0))=some (.v (.bool p.isNone)):=by
 have h:tZ Tryz.prog .eql 45 p.isNone=some (.v (.bool p.isNone)):=by cases p<;>kernel_rfl
 exact h
theorem sv0 (st:St) (p:Option Addr) (cap:Nat):aX st (.v (.slice p 0 cap))=some (0,[]):=rfl
theorem aVD (hx:∀xs,E.ext 164 xs=none) (hk:E.qL 164=false) (hv:E.va 45 7=false) (hp:E.pa 45 7=false) (oS:bK Tryz.f164=true) (p:Option Addr) (cap:Nat):∃r,aB Tryz.prog 164 [.v (.slice p 0 cap)]=some r∧(r=.v (.slice none 0 0)∨∃e sz,r=.uniq e sz 0 []):=by
 rw[Qp Tryz.prog Tryz.func164 rfl oS _ (hx _) rfl];cases p with
 | none =>
   have h:=aOC none cap
   refine⟨.v (.slice none 0 0), ?_,.inl rfl⟩
   simp -implicitDefEqProofs only [Tryz.f164,cF,Ak,kE,zN,wC,zT,Kx,zO,Ky,Er,wD,Ld,Lf,Lg,Lh,Li,Lj,Lk,Ll,Lm,Ln,Mq,Fa,zS,wE,wF,Ep,Ro,Et,Ui,Kz,rS,Ez,Ew,tS,Kw,wA,zM,En,Eo,Kv,zQ,xL,xM,pX,Lb,Lc,Ev,La,Eu,Ey,zP,rT,zU,wG,Es,Up,Uq,Ff,Fg,Ex.inBlock,ge_iff_le,gt_iff_lt,Bool.or_false,Bool.false_or,Bool.false_and,Bool.or_true,Bool.not_true,Bool.not_false,Bool.false_eq_true,Bool.true_eq_false,List.getElem?_toArray,List.toList_toArray,Option.bind_some,Option.map_some,Option.getD_some,Option.getD_none,List.map_cons,List.map_nil,List.getElem?_cons_zero,List.getElem?_cons_succ,List.getElem?_nil,and_true,true_and,and_self,false_and,and_false,↓reduceIte,reduceCtorEq,if_true,if_false,decide_true,decide_false,not_false_eq_true,ne_eq,Nat.reduceEqDiff,Nat.reduceBEq,Nat.succ_ne_zero,Nat.add_zero,Nat.zero_add,seval,h,Option.isNone_none]
   exact RY hk (.inl rfl) rfl (by simp only[cF,Ak,kE,zN,wC,zT,Kx,zO,Ky,Er,wD,Ld,Lf,Lg,Lh,Li,Lj,Lk,Ll,Lm,Ln,Mq,Fa,zS,wE,wF,Ep,Ro,Et,Ui,Kz,rS,Ez,Ew,tS,Kw,wA,zM,En,Eo,Kv,zQ,xL,xM,pX,Lb,Lc,Ev,La,Eu,Ey,zP,rT,zU,wG,Es,Up,Uq,Ff,Fg,Ex.inBlock,ge_iff_le,gt_iff_lt,Bool.or_false,Bool.false_or,Bool.false_and,Bool.or_true,Bool.not_true,Bool.not_false,Bool.false_eq_true,Bool.true_eq_false,List.getElem?_toArray,List.toList_toArray,Option.bind_some,Option.map_some,Option.getD_some,Option.getD_none,List.map_cons,List.map_nil,List.getElem?_cons_zero,List.getElem?_cons_succ,List.getElem?_nil,and_true,true_and,and_self,false_and,and_false,↓reduceIte,reduceCtorEq,if_true,if_false,decide_true,decide_false,not_false_eq_true,ne_eq,Nat.reduceEqDiff,Nat.reduceBEq,Nat.succ_ne_zero,Nat.add_zero,Nat.zero_add,seval]) (.v _)
 | some a =>
   have h:=aOC (some a) cap
   have ha:=fun s g=>Kk (e:=74) (sz:=238) (by_:=336) (s:=s) (g:=g) (n:=0) (cs:=[]) rfl (by decide) (by decide)
   refine⟨.uniq 74 238 0 [], ?_,.inr ⟨74,238,rfl⟩⟩
   simp -implicitDefEqProofs only [Tryz.f164,cF,Ak,kE,zN,wC,zT,Kx,zO,Ky,Er,wD,Ld,Lf,Lg,Lh,Li,Lj,Lk,Ll,Lm,Ln,Mq,Fa,zS,wE,wF,Ep,Ro,Et,Ui,Kz,rS,Ez,Ew,tS,Kw,wA,zM,En,Eo,Kv,zQ,xL,xM,pX,Lb,Lc,Ev,La,Eu,Ey,zP,rT,zU,wG,Es,Up,Uq,Ff,Fg,Ex.inBlock,ge_iff_le,gt_iff_lt,Bool.or_false,Bool.false_or,Bool.false_and,Bool.or_true,Bool.not_true,Bool.not_false,Bool.false_eq_true,Bool.true_eq_false,List.getElem?_toArray,List.toList_toArray,Option.bind_some,Option.map_some,Option.getD_some,Option.getD_none,List.map_cons,List.map_nil,List.getElem?_cons_zero,List.getElem?_cons_succ,List.getElem?_nil,and_true,true_and,and_self,false_and,and_false,↓reduceIte,reduceCtorEq,if_true,if_false,decide_true,decide_false,not_false_eq_true,ne_eq,Nat.reduceEqDiff,Nat.reduceBEq,Nat.succ_ne_zero,Nat.add_zero,Nat.zero_add,seval,h,Option.isNone_some,Uo mW aAl,BY _ _ 45 7 hv hp,rU mW,sv0,ha]
   exact Ql (s:=7) (g:=0) hk (.inl rfl) rfl (by simp only[cF,Ak,kE,zN,wC,zT,Kx,zO,Ky,Er,wD,Ld,Lf,Lg,Lh,Li,Lj,Lk,Ll,Lm,Ln,Mq,Fa,zS,wE,wF,Ep,Ro,Et,Ui,Kz,rS,Ez,Ew,tS,Kw,wA,zM,En,Eo,Kv,zQ,xL,xM,pX,Lb,Lc,Ev,La,Eu,Ey,zP,rT,zU,wG,Es,Up,Uq,Ff,Fg,Ex.inBlock,ge_iff_le,gt_iff_lt,Bool.or_false,Bool.false_or,Bool.false_and,Bool.or_true,Bool.not_true,Bool.not_false,Bool.false_eq_true,Bool.true_eq_false,List.getElem?_toArray,List.toList_toArray,Option.bind_some,Option.map_some,Option.getD_some,Option.getD_none,List.map_cons,List.map_nil,List.getElem?_cons_zero,List.getElem?_cons_succ,List.getElem?_nil,and_true,true_and,and_self,false_and,and_false,↓reduceIte,reduceCtorEq,if_true,if_false,decide_true,decide_false,not_false_eq_true,ne_eq,Nat.reduceEqDiff,Nat.reduceBEq,Nat.succ_ne_zero,Nat.add_zero,Nat.zero_add,seval]) (by simp only[cF,Ak,kE,zN,wC,zT,Kx,zO,Ky,Er,wD,Ld,Lf,Lg,Lh,Li,Lj,Lk,Ll,Lm,Ln,Mq,Fa,zS,wE,wF,Ep,Ro,Et,Ui,Kz,rS,Ez,Ew,tS,Kw,wA,zM,En,Eo,Kv,zQ,xL,xM,pX,Lb,Lc,Ev,La,Eu,Ey,zP,rT,zU,wG,Es,Up,Uq,Ff,Fg,Ex.inBlock,ge_iff_le,gt_iff_lt,Bool.or_false,Bool.false_or,Bool.false_and,Bool.or_true,Bool.not_true,Bool.not_false,Bool.false_eq_true,Bool.true_eq_false,List.getElem?_toArray,List.toList_toArray,Option.bind_some,Option.map_some,Option.getD_some,Option.getD_none,List.map_cons,List.map_nil,List.getElem?_cons_zero,List.getElem?_cons_succ,List.getElem?_nil,and_true,true_and,and_self,false_and,and_false,↓reduceIte,reduceCtorEq,if_true,if_false,decide_true,decide_false,not_false_eq_true,ne_eq,Nat.reduceEqDiff,Nat.reduceBEq,Nat.succ_ne_zero,Nat.add_zero,Nat.zero_add,seval]<;>rfl) (fun c h=>by cases h)
end
theorem aI6:HW Tryz.prog:=fun g xs r h=>by
 have h:(bif g == 164 then clE xs else none)=some r:=h
 cases hg:g == 164 with
 | false=>rw[hg] at h;cases h
 | true =>
   rw[hg] at h;have hg:g=164:=by simpa using hg
   subst hg;have h:clE xs=some r:=h
   unfold clE at h;split at h
   ·cases h
    exact @UG aDZ Tryz.prog mixed (fun _ _ _ h=>by cases h) 164 (@aVD aDZ (fun _=>rfl) rfl rfl rfl aI5)
   ·cases h
end Go.Ab.Tryz
end
namespace Go.Ab
open Classical
theorem aEA (b:Bool):unA .not (.v (.bool b))=some (.v (.bool (!b))):=rfl
theorem aEB (k:IntKind) (n:Int):unA .neg (.v (.int k n))=some (.v (.int k (k.wrap (0-n)))):=rfl
theorem aEC (k:IntKind) (n:Int):unA .xor (.v (.int k n))=some (.v (.int k (k.wrap (BitVec.ofInt k.bits (if k.signed then -1 else k.max) ^^^ BitVec.ofInt k.bits n).toNat))):=rfl
def aBQ (a b:Option IntKind) (n:Int):Option AV :=
 match a,b with
 | some k,some _=>some (.v (.int k (k.wrap n)))
 | _,_=>none
theorem ZW (k k':IntKind) (n:Int):aBQ (some k) (some k') n=some (.v (.int k (k.wrap n))):=rfl
theorem P1 (P:Program) (s d:Nat) (k:IntKind) (n:Int):Mq P s d (.v (.int k n))=aBQ (intKind P d) (intKind P s) n:=by
 simp only[Mq,aBQ];cases intKind P d with
 | none=>rfl
 | some a=>cases intKind P s<;>rfl
theorem aED (s g o k:Nat):vJ (.ptr s g o) k=some (.ptr s g (o+k)):=rfl
theorem aI7 (cs:List AV) (o k:Nat):vJ (.ip cs o) k=if o+k≤cs.length then some (.ip cs (o+k)) else none:=rfl
def sA (P:Program) (T:Nat) (e:Option nP) (o:Nat):Option AV :=
 match e with
 | some (.cells cs)=>fD P T cs o
 | some (.row _ _ _ cs)=>fD P T cs o
 | _=>none
theorem UH (P:Program) (T o:Nat) (cs:List AV):sA P T (some (.cells cs)) o=fD P T cs o:=rfl
theorem P2 (P:Program) (T o e sz n:Nat) (cs:List AV):sA P T (some (.row e sz n cs)) o=fD P T cs o:=rfl
theorem aEE (P:Program) (st:St) (T o:Nat) (cs:List AV):Gz P st T (.ip cs o)=fD P T cs o:=rfl
theorem aBR (P:Program) (st:St) (T s g o:Nat):Gz P st T (.ptr s g o)=sA P T (st.heap s g) o:=by
 simp only[Gz,sA];cases st.heap s g with
 | none=>rfl
 | some e=>cases e<;>rfl
theorem aI8 (x:Value):(AV.v x).jE=x.oneCell':=rfl
theorem aBS (cs:List AV):(AV.agg cs).jE=true:=rfl
theorem aEF (n:Nat) (cs:List AV):(AV.sl n cs).jE=true:=rfl
theorem aEG (n:Nat) (cs:List AV):(AV.cl n cs).jE=true:=rfl
theorem aEH (n:Nat) (cs:List AV):(AV.ip cs n).jE=true:=rfl
theorem aBT (s g o:Nat):(AV.ptr s g o).jE=true:=rfl
theorem aBU (s g:Nat):(AV.own s g).jE=true:=rfl
theorem aEI (s g:Nat):(AV.mp s g).jE=true:=rfl
theorem aBV (f:Nat) (cs:List AV):(AV.rW f cs).jE=true:=rfl
theorem aOD (x:Value):(AV.v x).cells=[.v x]:=rfl
theorem aEJ (cs:List AV):(AV.agg cs).cells=cs:=rfl
theorem aI9 (n:Nat) (cs:List AV):(AV.sl n cs).cells=[.sl n cs]:=rfl
theorem aJa (n:Nat) (cs:List AV):(AV.cl n cs).cells=[.cl n cs]:=rfl
theorem aJb (n:Nat) (cs:List AV):(AV.ip cs n).cells=[.ip cs n]:=rfl
theorem aEK (s g o:Nat):(AV.ptr s g o).cells=[.ptr s g o]:=rfl
theorem aEL (s g:Nat):(AV.own s g).cells=[.own s g]:=rfl
theorem aJc (s g:Nat):(AV.mp s g).cells=[.mp s g]:=rfl
theorem aEM (f:Nat) (cs:List AV):(AV.rW f cs).cells=[.rW f cs]:=rfl
theorem aEN (k:IntKind) (n:Int):(Value.int k n).oneCell'=true:=rfl
theorem aBW (b:Bool):(Value.bool b).oneCell'=true:=rfl
theorem P3 (a:Option Addr) (n m:Nat):(Value.slice a n m).oneCell'=true:=rfl
theorem ZX (id:Nat):Ex.normal.inBlock id=.normal:=rfl
theorem aEO (id:Nat):Ex.ret.inBlock id=.ret:=rfl
theorem aBX (id i:Nat):(Ex.exit i).inBlock id=if i=id then .normal else .exit i:=rfl
theorem aEP (l:List Oper) (j:Nat):Ro l.toArray j=(l[j]?).bind (·.dst):=by simp[Ro]
theorem gei (a b:Int):(a≥b)=(b≤a):=rfl
theorem gti (a b:Int):(a > b)=(b<a):=rfl
theorem aVE (a b:Nat):(a≥b)=(b≤a):=rfl
theorem gtn (a b:Nat):(a > b)=(b<a):=rfl
end Go.Ab
section
namespace Go.Ab
open Classical
def cU8 (x:Int):List AV:=[.v (.int .u8 x)]
theorem aEQ (x:Int):(cU8 x).length=1:=rfl
theorem aBY (s:Int):∀x∈cU8 s,Flat x:=by intro x hx;simp[cU8] at hx;subst hx;exact .v _
def kH (l:List Int):List AV:=l.flatMap cU8
theorem vU (l:List Int):∀x∈kH l,Flat x:=by
 intro x hx;obtain⟨y,_,hy⟩:=List.mem_flatMap.1 hx
 exact aBY y x hy
section
variable {α:Type} {c:α→List AV} {sz:Nat}
theorem iJ (hc:∀x,(c x).length=sz) (l:List α):(l.flatMap c).length=l.length * sz:=by
 induction l with
 | nil=>simp
 | cons x l ih=>simp only[List.flatMap_cons,List.length_append,hc,List.length_cons,ih];rw[Nat.succ_mul];omega
theorem wO (hc:∀x,(c x).length=sz):∀(l:List α) (k:Nat),(l.flatMap c).take (k * sz)=(l.take k).flatMap c
 | [],k=>by simp
 | x :: l,0=>by simp
 | x :: l,k+1=>by
   simp only[List.flatMap_cons,List.take_succ_cons];rw[List.take_append,List.take_of_length_le (by rw[hc,Nat.succ_mul];omega),hc,show (k+1) * sz-sz=k * sz by rw[Nat.succ_mul];omega,wO hc l k]
theorem Cd (hc:∀x,(c x).length=sz):∀(l:List α) (k:Nat),(l.flatMap c).drop (k * sz)=(l.drop k).flatMap c
 | [],k=>by simp
 | x :: l,0=>by simp
 | x :: l,k+1=>by
   simp only[List.flatMap_cons,List.drop_succ_cons];rw[List.drop_append,List.drop_of_length_le (by rw[hc,Nat.succ_mul];omega),List.nil_append,hc,show (k+1) * sz-sz=k * sz by rw[Nat.succ_mul];omega,Cd hc l k]
theorem Ke (hc:∀x,(c x).length=sz) {z:α} {l:List α} {i:Int} (h0:0≤i) (h1:i<l.length):((l.flatMap c).drop (i.toNat * sz)).take sz=c (gx z l i):=by
 obtain⟨h,e⟩:=ZD (z:=z) h0 h1
 rw[Cd hc,e];have h2:=wO hc (l.drop i.toNat) 1
 rw[Nat.one_mul] at h2;rw[h2];have h3:(l.drop i.toNat).take 1=[l[i.toNat]]:=by rw[List.take_one];simp[List.head?_drop,h]
 rw[h3];simp
theorem Vi (hc:∀x,(c x).length=sz) (l:List α) (k:Nat) (x:α) (h:k<l.length):dS (l.flatMap c) (k * sz) (c x) (k * sz+sz)=(l.set k x).flatMap c:=by
 unfold dS;rw[wO hc,show k * sz+sz=(k+1) * sz by rw[Nat.succ_mul],Cd hc,List.set_eq_take_append_cons_drop,if_pos h]
 simp
theorem IM [Ext] {P:Program} {T e n k off:Nat} (hc:∀x,(c x).length=sz) {z:α} {l:List α} {i:Int} (h0:0≤i) (h1:i<l.length) (hk:sT P T=some k) (rG:0<k) (ho:off+k≤sz) :
 sA P T (some (.row e sz n (l.flatMap c))) (i.toNat * sz+off)=fD P T (c (gx z l i)) off:=by
 obtain⟨hn,_⟩:=ZD (z:=z) h0 h1
 have hat:=Ke hc (z:=z) h0 h1
 have hle:i.toNat * sz+sz≤(l.flatMap c).length:=by
  rw[iJ hc,← Nat.succ_mul];exact Nat.mul_le_mul_right _ hn
 have Ac:=hc (gx z l i)
 simp only[sA,fD];unfold sT at hk;cases hi:fS P T with
 | none=>rfl
 | some r =>
   obtain⟨b,k'⟩:=r
   rw[hi] at hk;simp only[Option.map_some,Option.some.injEq] at hk;subst hk;have hg:∀j,j<sz→(l.flatMap c)[i.toNat * sz+j]? = (c (gx z l i))[j]?:=fun j hj=>by
    rw[← hat,List.getElem?_take,if_pos hj,List.getElem?_drop]
   cases b with
   | true =>
     simp only
     have e1:rd (l.flatMap c) (i.toNat * sz+off) k'=rd (c (gx z l i)) off k':=by
      unfold rd;rw[← hat,List.drop_take,List.drop_drop,List.take_take,Nat.min_eq_left (by omega)]
     rw[e1];have l1:k'≤(l.flatMap c).length-(i.toNat * sz+off):=by omega
     have l2:k'≤(c (gx z l i)).length-off:=by omega
     rw[if_pos ⟨rG,l1⟩,if_pos ⟨rG,l2⟩]
   | false =>
     simp only
     exact hg off (by omega)
end
theorem aBZ (ns:List Node):mL ⟨.sl ns.length (bU ns)⟩=cO ⟨ns⟩:=rfl
theorem DH (s:aM) (l:List Node):dS (aA s) 115 (cO ⟨l⟩) 116=aA { s with tree:=⟨.sl l.length (bU l)⟩}:=Di s ⟨.sl l.length (bU l)⟩
theorem DI (s:State) (l:List Node):dS (aT s) 115 (cO ⟨l⟩) 116=aT { s with store:={ s.store with tree:=⟨.sl l.length (bU l)⟩} }:=yP s ⟨.sl l.length (bU l)⟩
namespace Tryz
open Go.Proofs
theorem P4 (st:St) (t:dQ):fP st (.agg (bB t))=some (.agg (bB t)):=eB (.agg _ (bR t))
theorem NA (st:St) (t:Request):fP st (.agg (dD t))=some (.agg (dD t)):=eB (.agg _ (jR t))
theorem UI (st:St) (s:aM) (h:Flat (.agg (aA s))):fP st (.agg (aA s))=some (.agg (aA s)):=eB h
theorem UJ (st:St) (s:State) (h:Flat (.agg (aT s))):fP st (.agg (aT s))=some (.agg (aT s)):=eB h
theorem aER (st:St) {l:List dQ} {kk:IntKind} {i:Int} (h0:0≤i) (h1:i<l.length):bH Tryz.prog st 109 (.sl l.length (pF l)) (.v (.int kk i))=some (.ip (bB (gx gP l i)) 0):=by
 have hl:i.toNat<l.length:=by omega
 have h2:i.toNat * 33+33≤(l.flatMap bB).length:=by rw[iJ bV,← Nat.succ_mul];exact Nat.mul_le_mul_right _ hl
 have h3:((pF l).drop (i.toNat * 33)).take 33=bB (gx gP l i):=Ke bV h0 h1
 have h4:(pF l).length=(l.flatMap bB).length:=rfl
 (simp only[bH,aBy,OK,h0,h1,h4,h2,and_self,if_true,h3])<;>rfl
theorem JD {T n k off:Nat} {l:List dQ} {i:Int} (h0:0≤i) (h1:i<l.length) (hk:sT Tryz.prog T=some k) (rG:0<k) (ho:off+k≤33):sA Tryz.prog T (some (.row 41 33 n (pF l))) (i.toNat * 33+off)=fD Tryz.prog T (bB (gx gP l i)) off:=IM bV h0 h1 hk rG ho
theorem v8 {T n k:Nat} {l:List dQ} {i:Int} (h0:0≤i) (h1:i<l.length) (hk:sT Tryz.prog T=some k) (rG:0<k) (ho:k≤33):sA Tryz.prog T (some (.row 41 33 n (pF l))) (i.toNat * 33)=fD Tryz.prog T (bB (gx gP l i)) 0:=by
 have h:=JD (n:=n) (off:=0) h0 h1 hk rG (by omega)
 rw[Nat.add_zero] at h;exact h
theorem Qc (l:List dQ) (i:Int) (x:dQ) (h:i.toNat<l.length):dS (pF l) (i.toNat * 33) (bB x) (i.toNat * 33+33)=pF (l.set i.toNat x):=by
 generalize i.toNat=k at h ⊢
 have:=Vi (c:=bB) (sz:=33) bV l k x h
 exact this
theorem UK (st:St) (o:Option (List kO)):aX st (ov cW o)=some ((ol o).length,cW (ol o)):=by cases o<;>rfl
theorem qX (o:Option (List kO)):Flat (ov cW o):=by
 cases o with
 | none=>exact .v _
 | some l=>exact .sl _ _ (mF l)
theorem aB0 (st:St) {l:List kO} {kk:IntKind} {i:Int} (h0:0≤i) (h1:i<l.length):bH Tryz.prog st 37 (.sl l.length (cW l)) (.v (.int kk i))=some (.ip (jP (gx tN l i)) 0):=by
 have hl:i.toNat<l.length:=by omega
 have h2:i.toNat * 34+34≤(l.flatMap jP).length:=by rw[iJ rV,← Nat.succ_mul];exact Nat.mul_le_mul_right _ hl
 have h3:((cW l).drop (i.toNat * 34)).take 34=jP (gx tN l i):=Ke rV h0 h1
 have h4:(cW l).length=(l.flatMap jP).length:=rfl
 (simp only[bH,aIW,N4,h0,h1,h4,h2,and_self,if_true,h3])<;>rfl
theorem aJd (st:St) {o:Option (List kO)} {kk:IntKind} {i:Int} (h0:0≤i) (h1:i<(ol o).length):bH Tryz.prog st 37 (ov cW o) (.v (.int kk i))=some (.ip (jP (gx tN (ol o) i)) 0):=by
 cases o with
 | none=>simp[ol] at h1;omega
 | some l=>exact aB0 st h0 h1
theorem OP (l:List kO) (h:(l.length:Int)<1000000):yW 100 34 48 (some (l.length,cW l))=some (none,.row 100 34 l.length (cW l)):=by
 unfold yW;simp only
 rw[if_pos ⟨iJ rV l,by omega,by simp only[maxLen];omega⟩]
theorem Xx (n:Nat) (l:List kO):jI (some (.row 100 34 n (cW l)))=some (.sl n (cW l)):=by
 unfold jI;simp only;rw[if_pos (mF l)]
theorem D8 {T n k off:Nat} {l:List kO} {i:Int} (h0:0≤i) (h1:i<l.length) (hk:sT Tryz.prog T=some k) (rG:0<k) (ho:off+k≤34):sA Tryz.prog T (some (.row 100 34 n (cW l))) (i.toNat * 34+off)=fD Tryz.prog T (jP (gx tN l i)) off:=IM rV h0 h1 hk rG ho
theorem v9 {T n k:Nat} {l:List kO} {i:Int} (h0:0≤i) (h1:i<l.length) (hk:sT Tryz.prog T=some k) (rG:0<k) (ho:k≤34):sA Tryz.prog T (some (.row 100 34 n (cW l))) (i.toNat * 34)=fD Tryz.prog T (jP (gx tN l i)) 0:=by
 have h:=D8 (n:=n) (off:=0) h0 h1 hk rG (by omega)
 rw[Nat.add_zero] at h;exact h
theorem JH (l:List kO) (i:Int) (x:kO) (h:i.toNat<l.length):dS (cW l) (i.toNat * 34) (jP x) (i.toNat * 34+34)=cW (l.set i.toNat x):=by
 generalize i.toNat=k at h ⊢
 have:=Vi (c:=jP) (sz:=34) rV l k x h
 exact this
theorem ZY (st:St) (o:Option (List sG)):aX st (ov dM o)=some ((ol o).length,dM (ol o)):=by cases o<;>rfl
theorem Zl (o:Option (List sG)) (h:∀y∈ol o,Flat y.fB):Flat (ov dM o):=by
 cases o with
 | none=>exact .v _
 | some l=>exact .sl _ _ (qY l h)
theorem aB1 (st:St) {l:List sG} {kk:IntKind} {i:Int} (h0:0≤i) (h1:i<l.length):bH Tryz.prog st 44 (.sl l.length (dM l)) (.v (.int kk i))=some (.ip (iC (gx Lu l i)) 0):=by
 have hl:i.toNat<l.length:=by omega
 have h2:i.toNat * 67+67≤(l.flatMap iC).length:=by rw[iJ iH,← Nat.succ_mul];exact Nat.mul_le_mul_right _ hl
 have h3:((dM l).drop (i.toNat * 67)).take 67=iC (gx Lu l i):=Ke iH h0 h1
 have h4:(dM l).length=(l.flatMap iC).length:=rfl
 (simp only[bH,aN8,aBx,h0,h1,h4,h2,and_self,if_true,h3])<;>rfl
theorem aJe (st:St) {o:Option (List sG)} {kk:IntKind} {i:Int} (h0:0≤i) (h1:i<(ol o).length):bH Tryz.prog st 44 (ov dM o) (.v (.int kk i))=some (.ip (iC (gx Lu (ol o) i)) 0):=by
 cases o with
 | none=>simp[ol] at h1;omega
 | some l=>exact aB1 st h0 h1
theorem JS (x:sG):yW 87 67 104 (some (1,iC x))=some (none,.row 87 67 [x].length (dM [x])):=by
 simp[yW,maxLen,dM]
theorem y9 (l:List sG) (h:(l.length:Int)<1000000):yW 87 67 104 (some (l.length,dM l))=some (none,.row 87 67 l.length (dM l)):=by
 unfold yW;simp only
 rw[if_pos ⟨iJ iH l,by omega,by simp only[maxLen];omega⟩]
theorem Xz (l:List sG) (x:sG) (s g:Nat) (h:(l.length:Int)<1000000):yL 87 67 104 (some (.row 87 67 l.length (dM l))) s g (some (1,iC x))=some (some (s,g),.row 87 67 (l++[x]).length (dM (l++[x]))):=by
 simp only[yL];rw[if_pos ⟨by simp,trivial,trivial,by omega,by simp only[maxLen];omega⟩]
 simp[dM,List.flatMap_append]
theorem Y5 (n:Nat) (l:List sG) (h:∀y∈l,Flat y.fB):jI (some (.row 87 67 n (dM l)))=some (.sl n (dM l)):=by
 unfold jI;simp only;rw[if_pos (qY l h)]
theorem NB (st:St) (o:Option (List Table)):aX st (ov aI o)=some ((ol o).length,aI (ol o)):=by cases o<;>rfl
theorem jW (o:Option (List Table)) (h:∀y∈ol o,Flat y.iP):Flat (ov aI o):=by
 cases o with
 | none=>exact .v _
 | some l=>exact .sl _ _ (iL l h)
theorem nD (st:St) (o:Option (List Table)) (h:∀y∈ol o,Flat y.iP):fP st (ov aI o)=some (ov aI o):=eB (jW o h)
theorem NC (o:Option (List Table)):(ov aI o).jE=true:=by cases o<;>rfl
theorem UL (o:Option (List Table)):(ov aI o).cells=[ov aI o]:=by cases o<;>rfl
theorem aB2 (st:St) {l:List Table} {kk:IntKind} {i:Int} (h0:0≤i) (h1:i<l.length):bH Tryz.prog st 51 (.sl l.length (aI l)) (.v (.int kk i))=some (.ip (cA (gx eI l i)) 0):=by
 have hl:i.toNat<l.length:=by omega
 have h2:i.toNat * 34+34≤(l.flatMap cA).length:=by rw[iJ eN,← Nat.succ_mul];exact Nat.mul_le_mul_right _ hl
 have h3:((aI l).drop (i.toNat * 34)).take 34=cA (gx eI l i):=Ke eN h0 h1
 have h4:(aI l).length=(l.flatMap cA).length:=rfl
 (simp only[bH,aIZ,Tu,h0,h1,h4,h2,and_self,if_true,h3])<;>rfl
theorem aJf (st:St) {o:Option (List Table)} {kk:IntKind} {i:Int} (h0:0≤i) (h1:i<(ol o).length):bH Tryz.prog st 51 (ov aI o) (.v (.int kk i))=some (.ip (cA (gx eI (ol o) i)) 0):=by
 cases o with
 | none=>simp[ol] at h1;omega
 | some l=>exact aB2 st h0 h1
theorem HR (x:Table):yW 118 34 64 (some (1,cA x))=some (none,.row 118 34 [x].length (aI [x])):=by
 simp[yW,maxLen,aI]
theorem HG (l:List Table) (h:(l.length:Int)<1000000):yW 118 34 64 (some (l.length,aI l))=some (none,.row 118 34 l.length (aI l)):=by
 unfold yW;simp only
 rw[if_pos ⟨iJ eN l,by omega,by simp only[maxLen];omega⟩]
theorem Tc (l:List Table) (x:Table) (s g:Nat) (h:(l.length:Int)<1000000):yL 118 34 64 (some (.row 118 34 l.length (aI l))) s g (some (1,cA x))=some (some (s,g),.row 118 34 (l++[x]).length (aI (l++[x]))):=by
 simp only[yL];rw[if_pos ⟨by simp,trivial,trivial,by omega,by simp only[maxLen];omega⟩]
 simp[aI,List.flatMap_append]
theorem HH (l m:List Table) (s g:Nat) (h:(l.length:Int)<1000000) (h2:(m.length:Int)<1000000):yL 118 34 64 (some (.row 118 34 l.length (aI l))) s g (some (m.length,aI m))=some (some (s,g),.row 118 34 (l++m).length (aI (l++m))):=by
 simp only[yL];rw[if_pos ⟨iJ eN m,trivial,trivial,by omega,by simp only[maxLen];omega⟩]
 simp[aI,List.flatMap_append]
theorem Qe (n:Nat) (l:List Table) (h:∀y∈l,Flat y.iP):jI (some (.row 118 34 n (aI l)))=some (.sl n (aI l)):=by
 unfold jI;simp only;rw[if_pos (iL l h)]
theorem UM {T n k off:Nat} {l:List Table} {i:Int} (h0:0≤i) (h1:i<l.length) (hk:sT Tryz.prog T=some k) (rG:0<k) (ho:off+k≤34):sA Tryz.prog T (some (.row 118 34 n (aI l))) (i.toNat * 34+off)=fD Tryz.prog T (cA (gx eI l i)) off:=IM eN h0 h1 hk rG ho
theorem QD {T n k:Nat} {l:List Table} {i:Int} (h0:0≤i) (h1:i<l.length) (hk:sT Tryz.prog T=some k) (rG:0<k) (ho:k≤34):sA Tryz.prog T (some (.row 118 34 n (aI l))) (i.toNat * 34)=fD Tryz.prog T (cA (gx eI l i)) 0:=by
 have h:=UM (n:=n) (off:=0) h0 h1 hk rG (by omega)
 rw[Nat.add_zero] at h;exact h
theorem aB3 (l:List Table) (i:Int) (x:Table) (h:i.toNat<l.length):dS (aI l) (i.toNat * 34) (cA x) (i.toNat * 34+34)=aI (l.set i.toNat x):=by
 generalize i.toNat=k at h ⊢
 have:=Vi (c:=cA) (sz:=34) eN l k x h
 exact this
theorem aOE (st:St) (o:Option (List Table)) (hi:Operand):dB Tryz.prog st 51 (ov aI o) none (some hi)=Nf (st.ev hi) (fun j=>if 0≤j∧j≤(ol o).length then some (ov aI (o.map (·.take j.toNat))) else dB Tryz.prog st 51 (ov aI o) none (some hi)) (dB Tryz.prog st 51 (ov aI o) none (some hi)):=by
 unfold Nf;split
 ·rename_i j hj;dsimp only
  split
  ·rename_i hc;obtain⟨j0,j1⟩:=hc
   cases o with
   | none =>
     have:j=0:=by simp[ol] at j1;omega
     subst this;simp[dB,Tu,ov,hj]
   | some l =>
     have j1:j≤l.length:=j1
     have hn:j.toNat≤l.length:=by omega
     simp only[dB,Tu,ov,hj];rw[if_pos ⟨Int.le_refl _,j0,j1,iJ eN l⟩];simp only[Int.toNat_zero,Nat.zero_mul,List.drop_zero,Int.sub_zero,Option.map_some];rw[show (aI l).take (j.toNat * 34)=aI (l.take j.toNat) from wO eN l j.toNat,List.length_take,Nat.min_eq_left hn]
  ·rfl
 ·rfl
theorem aES (st:St) (o:Option (List Table)) (lo:Operand):dB Tryz.prog st 51 (ov aI o) (some lo) none=Nf (st.ev lo) (fun j=>if 0≤j∧j≤(ol o).length then some (ov aI (o.map (·.drop j.toNat))) else dB Tryz.prog st 51 (ov aI o) (some lo) none) (dB Tryz.prog st 51 (ov aI o) (some lo) none):=by
 unfold Nf;split
 ·rename_i j hj;dsimp only
  split
  ·rename_i hc;obtain⟨j0,j1⟩:=hc
   cases o with
   | none =>
     have:j=0:=by simp[ol] at j1;omega
     subst this;simp[dB,Tu,ov,hj]
   | some l =>
     have j1:j≤l.length:=j1
     have hn:j.toNat≤l.length:=by omega
     have e1:((l.length:Int)-j).toNat=l.length-j.toNat:=by omega
     simp only[dB,Tu,ov,hj];rw[if_pos ⟨j0,j1,Int.le_refl _,iJ eN l⟩];simp only[Option.map_some,e1];rw[show (aI l).drop (j.toNat * 34)=aI (l.drop j.toNat) from Cd eN l j.toNat,List.length_drop,List.take_of_length_le];rw[show aI (l.drop j.toNat)=(l.drop j.toNat).flatMap cA from rfl,iJ eN,List.length_drop];exact Nat.le_refl _
  ·rfl
 ·rfl
theorem ND (st:St) (o:Option (List Block)):aX st (ov aF o)=some ((ol o).length,aF (ol o)):=by cases o<;>rfl
theorem Fz (o:Option (List Block)):Flat (ov aF o):=by
 cases o with
 | none=>exact .v _
 | some l=>exact .sl _ _ (lC l)
theorem aB4 (st:St) {l:List Block} {kk:IntKind} {i:Int} (h0:0≤i) (h1:i<l.length):bH Tryz.prog st 45 (.sl l.length (aF l)) (.v (.int kk i))=some (.ip (aV (gx dX l i)) 0):=by
 have hl:i.toNat<l.length:=by omega
 have h2:i.toNat * 238+238≤(l.flatMap aV).length:=by rw[iJ bS,← Nat.succ_mul];exact Nat.mul_le_mul_right _ hl
 have h3:((aF l).drop (i.toNat * 238)).take 238=aV (gx dX l i):=Ke bS h0 h1
 have h4:(aF l).length=(l.flatMap aV).length:=rfl
 (simp only[bH,aIX,mW,h0,h1,h4,h2,and_self,if_true,h3])<;>rfl
theorem aJg (st:St) {o:Option (List Block)} {kk:IntKind} {i:Int} (h0:0≤i) (h1:i<(ol o).length):bH Tryz.prog st 45 (ov aF o) (.v (.int kk i))=some (.ip (aV (gx dX (ol o) i)) 0):=by
 cases o with
 | none=>simp[ol] at h1;omega
 | some l=>exact aB4 st h0 h1
theorem P5 (x:Block):yW 74 238 336 (some (1,aV x))=some (none,.row 74 238 [x].length (aF [x])):=by
 simp[yW,maxLen,aF]
theorem iV (l:List Block) (h:(l.length:Int)<1000000):yW 74 238 336 (some (l.length,aF l))=some (none,.row 74 238 l.length (aF l)):=by
 unfold yW;simp only
 rw[if_pos ⟨iJ bS l,by omega,by simp only[maxLen];omega⟩]
theorem HP (l:List Block) (x:Block) (s g:Nat) (h:(l.length:Int)<1000000):yL 74 238 336 (some (.row 74 238 l.length (aF l))) s g (some (1,aV x))=some (some (s,g),.row 74 238 (l++[x]).length (aF (l++[x]))):=by
 simp only[yL];rw[if_pos ⟨by simp,trivial,trivial,by omega,by simp only[maxLen];omega⟩]
 simp[aF,List.flatMap_append]
theorem rP (l m:List Block) (s g:Nat) (h:(l.length:Int)<1000000) (h2:(m.length:Int)<1000000):yL 74 238 336 (some (.row 74 238 l.length (aF l))) s g (some (m.length,aF m))=some (some (s,g),.row 74 238 (l++m).length (aF (l++m))):=by
 simp only[yL];rw[if_pos ⟨iJ bS m,trivial,trivial,by omega,by simp only[maxLen];omega⟩]
 simp[aF,List.flatMap_append]
theorem uM (n:Nat) (l:List Block):jI (some (.row 74 238 n (aF l)))=some (.sl n (aF l)):=by
 unfold jI;simp only;rw[if_pos (lC l)]
theorem UN {T n k off:Nat} {l:List Block} {i:Int} (h0:0≤i) (h1:i<l.length) (hk:sT Tryz.prog T=some k) (rG:0<k) (ho:off+k≤238):sA Tryz.prog T (some (.row 74 238 n (aF l))) (i.toNat * 238+off)=fD Tryz.prog T (aV (gx dX l i)) off:=IM bS h0 h1 hk rG ho
theorem xH {T n k:Nat} {l:List Block} {i:Int} (h0:0≤i) (h1:i<l.length) (hk:sT Tryz.prog T=some k) (rG:0<k) (ho:k≤238):sA Tryz.prog T (some (.row 74 238 n (aF l))) (i.toNat * 238)=fD Tryz.prog T (aV (gx dX l i)) 0:=by
 have h:=UN (n:=n) (off:=0) h0 h1 hk rG (by omega)
 rw[Nat.add_zero] at h;exact h
theorem aB5 (l:List Block) (i:Int) (x:Block) (h:i.toNat<l.length):dS (aF l) (i.toNat * 238) (aV x) (i.toNat * 238+238)=aF (l.set i.toNat x):=by
 generalize i.toNat=k at h ⊢
 have:=Vi (c:=aV) (sz:=238) bS l k x h
 exact this
theorem aOF (st:St) (o:Option (List Block)) (hi:Operand):dB Tryz.prog st 45 (ov aF o) none (some hi)=Nf (st.ev hi) (fun j=>if 0≤j∧j≤(ol o).length then some (ov aF (o.map (·.take j.toNat))) else dB Tryz.prog st 45 (ov aF o) none (some hi)) (dB Tryz.prog st 45 (ov aF o) none (some hi)):=by
 unfold Nf;split
 ·rename_i j hj;dsimp only
  split
  ·rename_i hc;obtain⟨j0,j1⟩:=hc
   cases o with
   | none =>
     have:j=0:=by simp[ol] at j1;omega
     subst this;simp[dB,mW,ov,hj]
   | some l =>
     have j1:j≤l.length:=j1
     have hn:j.toNat≤l.length:=by omega
     simp only[dB,mW,ov,hj];rw[if_pos ⟨Int.le_refl _,j0,j1,iJ bS l⟩];simp only[Int.toNat_zero,Nat.zero_mul,List.drop_zero,Int.sub_zero,Option.map_some];rw[show (aF l).take (j.toNat * 238)=aF (l.take j.toNat) from wO bS l j.toNat,List.length_take,Nat.min_eq_left hn]
  ·rfl
 ·rfl
theorem aET (st:St) (o:Option (List Block)) (lo:Operand):dB Tryz.prog st 45 (ov aF o) (some lo) none=Nf (st.ev lo) (fun j=>if 0≤j∧j≤(ol o).length then some (ov aF (o.map (·.drop j.toNat))) else dB Tryz.prog st 45 (ov aF o) (some lo) none) (dB Tryz.prog st 45 (ov aF o) (some lo) none):=by
 unfold Nf;split
 ·rename_i j hj;dsimp only
  split
  ·rename_i hc;obtain⟨j0,j1⟩:=hc
   cases o with
   | none =>
     have:j=0:=by simp[ol] at j1;omega
     subst this;simp[dB,mW,ov,hj]
   | some l =>
     have j1:j≤l.length:=j1
     have hn:j.toNat≤l.length:=by omega
     have e1:((l.length:Int)-j).toNat=l.length-j.toNat:=by omega
     simp only[dB,mW,ov,hj];rw[if_pos ⟨j0,j1,Int.le_refl _,iJ bS l⟩];simp only[Option.map_some,e1];rw[show (aF l).drop (j.toNat * 238)=aF (l.drop j.toNat) from Cd bS l j.toNat,List.length_drop,List.take_of_length_le];rw[show aF (l.drop j.toNat)=(l.drop j.toNat).flatMap aV from rfl,iJ bS,List.length_drop];exact Nat.le_refl _
  ·rfl
 ·rfl
theorem DJ (st:St) (o:Option (List Request)):aX st (ov aE o)=some ((ol o).length,aE (ol o)):=by cases o<;>rfl
theorem iZ (o:Option (List Request)):Flat (ov aE o):=by
 cases o with
 | none=>exact .v _
 | some l=>exact .sl _ _ (uK l)
theorem aB6 (st:St) {l:List Request} {kk:IntKind} {i:Int} (h0:0≤i) (h1:i<l.length):bH Tryz.prog st 54 (.sl l.length (aE l)) (.v (.int kk i))=some (.ip (dD (gx cZ l i)) 0):=by
 have hl:i.toNat<l.length:=by omega
 have h2:i.toNat * 35+35≤(l.flatMap dD).length:=by rw[iJ gS,← Nat.succ_mul];exact Nat.mul_le_mul_right _ hl
 have h3:((aE l).drop (i.toNat * 35)).take 35=dD (gx cZ l i):=Ke gS h0 h1
 have h4:(aE l).length=(l.flatMap dD).length:=rfl
 (simp only[bH,aI0,To,h0,h1,h4,h2,and_self,if_true,h3])<;>rfl
theorem aJh (st:St) {o:Option (List Request)} {kk:IntKind} {i:Int} (h0:0≤i) (h1:i<(ol o).length):bH Tryz.prog st 54 (ov aE o) (.v (.int kk i))=some (.ip (dD (gx cZ (ol o) i)) 0):=by
 cases o with
 | none=>simp[ol] at h1;omega
 | some l=>exact aB6 st h0 h1
theorem UO (x:Request):yW 63 35 56 (some (1,dD x))=some (none,.row 63 35 [x].length (aE [x])):=by
 simp[yW,maxLen,aE]
theorem qZ (l:List Request) (h:(l.length:Int)<1000000):yW 63 35 56 (some (l.length,aE l))=some (none,.row 63 35 l.length (aE l)):=by
 unfold yW;simp only
 rw[if_pos ⟨iJ gS l,by omega,by simp only[maxLen];omega⟩]
theorem tP (l:List Request) (x:Request) (s g:Nat) (h:(l.length:Int)<1000000):yL 63 35 56 (some (.row 63 35 l.length (aE l))) s g (some (1,dD x))=some (some (s,g),.row 63 35 (l++[x]).length (aE (l++[x]))):=by
 simp only[yL];rw[if_pos ⟨by simp,trivial,trivial,by omega,by simp only[maxLen];omega⟩]
 simp[aE,List.flatMap_append]
theorem Vu (l m:List Request) (s g:Nat) (h:(l.length:Int)<1000000) (h2:(m.length:Int)<1000000):yL 63 35 56 (some (.row 63 35 l.length (aE l))) s g (some (m.length,aE m))=some (some (s,g),.row 63 35 (l++m).length (aE (l++m))):=by
 simp only[yL];rw[if_pos ⟨iJ gS m,trivial,trivial,by omega,by simp only[maxLen];omega⟩]
 simp[aE,List.flatMap_append]
theorem pJ (n:Nat) (l:List Request):jI (some (.row 63 35 n (aE l)))=some (.sl n (aE l)):=by
 unfold jI;simp only;rw[if_pos (uK l)]
theorem Gh {T n k off:Nat} {l:List Request} {i:Int} (h0:0≤i) (h1:i<l.length) (hk:sT Tryz.prog T=some k) (rG:0<k) (ho:off+k≤35):sA Tryz.prog T (some (.row 63 35 n (aE l))) (i.toNat * 35+off)=fD Tryz.prog T (dD (gx cZ l i)) off:=IM gS h0 h1 hk rG ho
theorem Aq {T n k:Nat} {l:List Request} {i:Int} (h0:0≤i) (h1:i<l.length) (hk:sT Tryz.prog T=some k) (rG:0<k) (ho:k≤35):sA Tryz.prog T (some (.row 63 35 n (aE l))) (i.toNat * 35)=fD Tryz.prog T (dD (gx cZ l i)) 0:=by
 have h:=Gh (n:=n) (off:=0) h0 h1 hk rG (by omega)
 rw[Nat.add_zero] at h;exact h
theorem Nv (l:List Request) (i:Int) (x:Request) (h:i.toNat<l.length):dS (aE l) (i.toNat * 35) (dD x) (i.toNat * 35+35)=aE (l.set i.toNat x):=by
 generalize i.toNat=k at h ⊢
 have:=Vi (c:=dD) (sz:=35) gS l k x h
 exact this
theorem aOG (st:St) (o:Option (List Request)) (hi:Operand):dB Tryz.prog st 54 (ov aE o) none (some hi)=Nf (st.ev hi) (fun j=>if 0≤j∧j≤(ol o).length then some (ov aE (o.map (·.take j.toNat))) else dB Tryz.prog st 54 (ov aE o) none (some hi)) (dB Tryz.prog st 54 (ov aE o) none (some hi)):=by
 unfold Nf;split
 ·rename_i j hj;dsimp only
  split
  ·rename_i hc;obtain⟨j0,j1⟩:=hc
   cases o with
   | none =>
     have:j=0:=by simp[ol] at j1;omega
     subst this;simp[dB,To,ov,hj]
   | some l =>
     have j1:j≤l.length:=j1
     have hn:j.toNat≤l.length:=by omega
     simp only[dB,To,ov,hj];rw[if_pos ⟨Int.le_refl _,j0,j1,iJ gS l⟩];simp only[Int.toNat_zero,Nat.zero_mul,List.drop_zero,Int.sub_zero,Option.map_some];rw[show (aE l).take (j.toNat * 35)=aE (l.take j.toNat) from wO gS l j.toNat,List.length_take,Nat.min_eq_left hn]
  ·rfl
 ·rfl
theorem aEU (st:St) (o:Option (List Request)) (lo:Operand):dB Tryz.prog st 54 (ov aE o) (some lo) none=Nf (st.ev lo) (fun j=>if 0≤j∧j≤(ol o).length then some (ov aE (o.map (·.drop j.toNat))) else dB Tryz.prog st 54 (ov aE o) (some lo) none) (dB Tryz.prog st 54 (ov aE o) (some lo) none):=by
 unfold Nf;split
 ·rename_i j hj;dsimp only
  split
  ·rename_i hc;obtain⟨j0,j1⟩:=hc
   cases o with
   | none =>
     have:j=0:=by simp[ol] at j1;omega
     subst this;simp[dB,To,ov,hj]
   | some l =>
     have j1:j≤l.length:=j1
     have hn:j.toNat≤l.length:=by omega
     have e1:((l.length:Int)-j).toNat=l.length-j.toNat:=by omega
     simp only[dB,To,ov,hj];rw[if_pos ⟨j0,j1,Int.le_refl _,iJ gS l⟩];simp only[Option.map_some,e1];rw[show (aE l).drop (j.toNat * 35)=aE (l.drop j.toNat) from Cd gS l j.toNat,List.length_drop,List.take_of_length_le];rw[show aE (l.drop j.toNat)=(l.drop j.toNat).flatMap dD from rfl,iJ gS,List.length_drop];exact Nat.le_refl _
  ·rfl
 ·rfl
theorem UP (st:St) (o:Option (List cN)):aX st (ov hU o)=some ((ol o).length,hU (ol o)):=by cases o<;>rfl
theorem Iv (o:Option (List cN)):Flat (ov hU o):=by
 cases o with
 | none=>exact .v _
 | some l=>exact .sl _ _ (Wh l)
theorem aB7 (st:St) {l:List cN} {kk:IntKind} {i:Int} (h0:0≤i) (h1:i<l.length):bH Tryz.prog st 70 (.sl l.length (hU l)) (.v (.int kk i))=some (.ip (bD (gx dR l i)) 0):=by
 have hl:i.toNat<l.length:=by omega
 have h2:i.toNat * 32+32≤(l.flatMap bD).length:=by rw[iJ aP,← Nat.succ_mul];exact Nat.mul_le_mul_right _ hl
 have h3:((hU l).drop (i.toNat * 32)).take 32=bD (gx dR l i):=Ke aP h0 h1
 have h4:(hU l).length=(l.flatMap bD).length:=rfl
 (simp only[bH,aN9,aEo,h0,h1,h4,h2,and_self,if_true,h3])<;>rfl
theorem aJi (st:St) {o:Option (List cN)} {kk:IntKind} {i:Int} (h0:0≤i) (h1:i<(ol o).length):bH Tryz.prog st 70 (ov hU o) (.v (.int kk i))=some (.ip (bD (gx dR (ol o) i)) 0):=by
 cases o with
 | none=>simp[ol] at h1;omega
 | some l=>exact aB7 st h0 h1
theorem oM (l:List cN) (x:cN) (s g:Nat) (h:(l.length:Int)<1000000):yL 27 32 32 (some (.row 27 32 l.length (hU l))) s g (some (1,bD x))=some (some (s,g),.row 27 32 (l++[x]).length (hU (l++[x]))):=by
 simp only[yL];rw[if_pos ⟨by simp,trivial,trivial,by omega,by simp only[maxLen];omega⟩]
 simp[hU,List.flatMap_append]
theorem wP (n:Nat) (l:List cN):jI (some (.row 27 32 n (hU l)))=some (.sl n (hU l)):=by
 unfold jI;simp only;rw[if_pos (Wh l)]
theorem aEV (st:St) {l:List Bool} {kk:IntKind} {i:Int} (h0:0≤i) (h1:i<l.length):bH Tryz.prog st 262 (.sl l.length (mX l)) (.v (.int kk i))=some (.ip ([.v (.bool (gx false l i))]) 0):=by
 have hl:i.toNat<l.length:=by omega
 have h2:i.toNat * 1+1≤(l.flatMap vD).length:=by rw[iJ iB,← Nat.succ_mul];exact Nat.mul_le_mul_right _ hl
 have h3:((mX l).drop (i.toNat * 1)).take 1=vD (gx false l i):=Ke iB h0 h1
 have h4:(mX l).length=(l.flatMap vD).length:=rfl
 (simp only[bH,aF3,UA,h0,h1,h4,h2,and_self,if_true,h3])<;>rfl
theorem aB8 (x:Bool):yW 4 1 1 (some (1,[.v (.bool x)]))=some (none,.row 4 1 [x].length (mX [x])):=by
 simp[yW,maxLen,mX,vD]
theorem OU (l:List Bool) (x:Bool) (s g:Nat) (h:(l.length:Int)<1000000):yL 4 1 1 (some (.row 4 1 l.length (mX l))) s g (some (1,[.v (.bool x)]))=some (some (s,g),.row 4 1 (l++[x]).length (mX (l++[x]))):=by
 simp only[yL];rw[if_pos ⟨by simp,trivial,trivial,by omega,by simp only[maxLen];omega⟩]
 simp[mX,List.flatMap_append,vD]
theorem z4 (n:Nat) (l:List Bool):jI (some (.row 4 1 n (mX l)))=some (.sl n (mX l)):=by
 unfold jI;simp only;rw[if_pos (Vs l)]
theorem zJ (o:Option (List Int)):Flat (ov kH o):=by
 cases o with
 | none=>exact .v _
 | some l=>exact .sl _ _ (vU l)
theorem rM (st:St) (o:Option (List Int)):fP st (ov kH o)=some (ov kH o):=eB (zJ o)
theorem WS (x:Int):yW 5 1 1 (some (1,[.v (.int .u8 x)]))=some (none,.row 5 1 [x].length (kH [x])):=by
 simp[yW,maxLen,kH,cU8]
theorem Np (l:List Int) (x:Int) (s g:Nat) (h:(l.length:Int)<1000000):yL 5 1 1 (some (.row 5 1 l.length (kH l))) s g (some (1,[.v (.int .u8 x)]))=some (some (s,g),.row 5 1 (l++[x]).length (kH (l++[x]))):=by
 simp only[yL];rw[if_pos ⟨by simp,trivial,trivial,by omega,by simp only[maxLen];omega⟩]
 simp[kH,List.flatMap_append,cU8]
theorem WU (l m:List Int) (s g:Nat) (h:(l.length:Int)<1000000) (h2:(m.length:Int)<1000000):yL 5 1 1 (some (.row 5 1 l.length (kH l))) s g (some (m.length,kH m))=some (some (s,g),.row 5 1 (l++m).length (kH (l++m))):=by
 simp only[yL];rw[if_pos ⟨iJ aEQ m,trivial,trivial,by omega,by simp only[maxLen];omega⟩]
 simp[kH,List.flatMap_append]
theorem Ec (n:Nat) (l:List Int):jI (some (.row 5 1 n (kH l)))=some (.sl n (kH l)):=by
 unfold jI;simp only;rw[if_pos (vU l)]
theorem j8 (st:St) (o:Option (List Int)):aX st (ov aK o)=some ((ol o).length,aK (ol o)):=by cases o<;>rfl
theorem bX (o:Option (List Int)):Flat (ov aK o):=by
 cases o with
 | none=>exact .v _
 | some l=>exact .sl _ _ (fV l)
theorem Gf (st:St) (o:Option (List Int)):fP st (ov aK o)=some (ov aK o):=eB (bX o)
theorem j9 (o:Option (List Int)):(ov aK o).jE=true:=by cases o<;>rfl
theorem P6 (o:Option (List Int)):(ov aK o).cells=[ov aK o]:=by cases o<;>rfl
theorem aB9 (st:St) {l:List Int} {kk:IntKind} {i:Int} (h0:0≤i) (h1:i<l.length):bH Tryz.prog st 22 (.sl l.length (aK l)) (.v (.int kk i))=some (.ip ([.v (.int .i64 (gx (0:Int) l i))]) 0):=by
 have hl:i.toNat<l.length:=by omega
 have h2:i.toNat * 1+1≤(l.flatMap qR).length:=by rw[iJ bJ,← Nat.succ_mul];exact Nat.mul_le_mul_right _ hl
 have h3:((aK l).drop (i.toNat * 1)).take 1=qR (gx (0:Int) l i):=Ke bJ h0 h1
 have h4:(aK l).length=(l.flatMap qR).length:=rfl
 (simp only[bH,aEn,Nd,h0,h1,h4,h2,and_self,if_true,h3])<;>rfl
theorem aJj (st:St) {o:Option (List Int)} {kk:IntKind} {i:Int} (h0:0≤i) (h1:i<(ol o).length):bH Tryz.prog st 22 (ov aK o) (.v (.int kk i))=some (.ip ([.v (.int .i64 (gx (0:Int) (ol o) i))]) 0):=by
 cases o with
 | none=>simp[ol] at h1;omega
 | some l=>exact aB9 st h0 h1
theorem Qi (l:List Int) (h:(l.length:Int)<1000000):yW 3 1 8 (some (l.length,aK l))=some (none,.row 3 1 l.length (aK l)):=by
 unfold yW;simp only
 rw[if_pos ⟨iJ bJ l,by omega,by simp only[maxLen];omega⟩]
theorem Ge (l:List Int) (x:Int) (s g:Nat) (h:(l.length:Int)<1000000):yL 3 1 8 (some (.row 3 1 l.length (aK l))) s g (some (1,[.v (.int .i64 x)]))=some (some (s,g),.row 3 1 (l++[x]).length (aK (l++[x]))):=by
 simp only[yL];rw[if_pos ⟨by simp,trivial,trivial,by omega,by simp only[maxLen];omega⟩]
 simp[aK,List.flatMap_append,qR]
theorem JJ (l m:List Int) (s g:Nat) (h:(l.length:Int)<1000000) (h2:(m.length:Int)<1000000):yL 3 1 8 (some (.row 3 1 l.length (aK l))) s g (some (m.length,aK m))=some (some (s,g),.row 3 1 (l++m).length (aK (l++m))):=by
 simp only[yL];rw[if_pos ⟨iJ bJ m,trivial,trivial,by omega,by simp only[maxLen];omega⟩]
 simp[aK,List.flatMap_append]
theorem jY (n:Nat) (l:List Int):jI (some (.row 3 1 n (aK l)))=some (.sl n (aK l)):=by
 unfold jI;simp only;rw[if_pos (fV l)]
theorem aOH (st:St) (o:Option (List Int)) (hi:Operand):dB Tryz.prog st 22 (ov aK o) none (some hi)=Nf (st.ev hi) (fun j=>if 0≤j∧j≤(ol o).length then some (ov aK (o.map (·.take j.toNat))) else dB Tryz.prog st 22 (ov aK o) none (some hi)) (dB Tryz.prog st 22 (ov aK o) none (some hi)):=by
 unfold Nf;split
 ·rename_i j hj;dsimp only
  split
  ·rename_i hc;obtain⟨j0,j1⟩:=hc
   cases o with
   | none =>
     have:j=0:=by simp[ol] at j1;omega
     subst this;simp[dB,Nd,ov,hj]
   | some l =>
     have j1:j≤l.length:=j1
     have hn:j.toNat≤l.length:=by omega
     simp only[dB,Nd,ov,hj];rw[if_pos ⟨Int.le_refl _,j0,j1,iJ bJ l⟩];simp only[Int.toNat_zero,Nat.zero_mul,List.drop_zero,Int.sub_zero,Option.map_some];rw[show (aK l).take (j.toNat * 1)=aK (l.take j.toNat) from wO bJ l j.toNat,List.length_take,Nat.min_eq_left hn]
  ·rfl
 ·rfl
theorem aEW (st:St) (o:Option (List Int)) (lo:Operand):dB Tryz.prog st 22 (ov aK o) (some lo) none=Nf (st.ev lo) (fun j=>if 0≤j∧j≤(ol o).length then some (ov aK (o.map (·.drop j.toNat))) else dB Tryz.prog st 22 (ov aK o) (some lo) none) (dB Tryz.prog st 22 (ov aK o) (some lo) none):=by
 unfold Nf;split
 ·rename_i j hj;dsimp only
  split
  ·rename_i hc;obtain⟨j0,j1⟩:=hc
   cases o with
   | none =>
     have:j=0:=by simp[ol] at j1;omega
     subst this;simp[dB,Nd,ov,hj]
   | some l =>
     have j1:j≤l.length:=j1
     have hn:j.toNat≤l.length:=by omega
     have e1:((l.length:Int)-j).toNat=l.length-j.toNat:=by omega
     simp only[dB,Nd,ov,hj];rw[if_pos ⟨j0,j1,Int.le_refl _,iJ bJ l⟩];simp only[Option.map_some,e1];rw[show (aK l).drop (j.toNat * 1)=aK (l.drop j.toNat) from Cd bJ l j.toNat,List.length_drop,List.take_of_length_le];rw[show aK (l.drop j.toNat)=(l.drop j.toNat).flatMap qR from rfl,iJ bJ,List.length_drop];exact Nat.le_refl _
  ·rfl
 ·rfl
theorem l4 (st:St) (o:Option (List Int)):aX st (ov bI o)=some ((ol o).length,bI (ol o)):=by cases o<;>rfl
theorem dV (o:Option (List Int)):Flat (ov bI o):=by
 cases o with
 | none=>exact .v _
 | some l=>exact .sl _ _ (gZ l)
theorem l5 (o:Option (List Int)):(ov bI o).jE=true:=by cases o<;>rfl
theorem P7 (o:Option (List Int)):(ov bI o).cells=[ov bI o]:=by cases o<;>rfl
theorem aCa (st:St) {l:List Int} {kk:IntKind} {i:Int} (h0:0≤i) (h1:i<l.length):bH Tryz.prog st 34 (.sl l.length (bI l)) (.v (.int kk i))=some (.ip ([.v (.int .u64 (gx (0:Int) l i))]) 0):=by
 have hl:i.toNat<l.length:=by omega
 have h2:i.toNat * 1+1≤(l.flatMap lV).length:=by rw[iJ aZ,← Nat.succ_mul];exact Nat.mul_le_mul_right _ hl
 have h3:((bI l).drop (i.toNat * 1)).take 1=lV (gx (0:Int) l i):=Ke aZ h0 h1
 have h4:(bI l).length=(l.flatMap lV).length:=rfl
 (simp only[bH,aIV,ZS,h0,h1,h4,h2,and_self,if_true,h3])<;>rfl
theorem aJk (st:St) {o:Option (List Int)} {kk:IntKind} {i:Int} (h0:0≤i) (h1:i<(ol o).length):bH Tryz.prog st 34 (ov bI o) (.v (.int kk i))=some (.ip ([.v (.int .u64 (gx (0:Int) (ol o) i))]) 0):=by
 cases o with
 | none=>simp[ol] at h1;omega
 | some l=>exact aCa st h0 h1
theorem aEX (x:Int):yW 23 1 8 (some (1,[.v (.int .u64 x)]))=some (none,.row 23 1 [x].length (bI [x])):=by
 simp[yW,maxLen,bI,lV]
theorem Gc (l:List Int) (h:(l.length:Int)<1000000):yW 23 1 8 (some (l.length,bI l))=some (none,.row 23 1 l.length (bI l)):=by
 unfold yW;simp only
 rw[if_pos ⟨iJ aZ l,by omega,by simp only[maxLen];omega⟩]
theorem wQ (l:List Int) (x:Int) (s g:Nat) (h:(l.length:Int)<1000000):yL 23 1 8 (some (.row 23 1 l.length (bI l))) s g (some (1,[.v (.int .u64 x)]))=some (some (s,g),.row 23 1 (l++[x]).length (bI (l++[x]))):=by
 simp only[yL];rw[if_pos ⟨by simp,trivial,trivial,by omega,by simp only[maxLen];omega⟩]
 simp[bI,List.flatMap_append,lV]
theorem uN (n:Nat) (l:List Int):jI (some (.row 23 1 n (bI l)))=some (.sl n (bI l)):=by
 unfold jI;simp only;rw[if_pos (gZ l)]
theorem aCb {T n k off:Nat} {l:List Int} {i:Int} (h0:0≤i) (h1:i<l.length) (hk:sT Tryz.prog T=some k) (rG:0<k) (ho:off+k≤1):sA Tryz.prog T (some (.row 23 1 n (bI l))) (i.toNat * 1+off)=fD Tryz.prog T ([.v (.int .u64 (gx (0:Int) l i))]) off:=IM aZ h0 h1 hk rG ho
theorem V7 {T n k:Nat} {l:List Int} {i:Int} (h0:0≤i) (h1:i<l.length) (hk:sT Tryz.prog T=some k) (rG:0<k) (ho:k≤1):sA Tryz.prog T (some (.row 23 1 n (bI l))) (i.toNat * 1)=fD Tryz.prog T ([.v (.int .u64 (gx (0:Int) l i))]) 0:=by
 have h:=aCb (n:=n) (off:=0) h0 h1 hk rG (by omega)
 rw[Nat.add_zero] at h;exact h
theorem V6 (l:List Int) (i:Int) (x:Int) (h:i.toNat<l.length):dS (bI l) (i.toNat * 1) ([.v (.int .u64 x)]) (i.toNat * 1+1)=bI (l.set i.toNat x):=by
 generalize i.toNat=k at h ⊢
 have:=Vi (c:=lV) (sz:=1) aZ l k x h
 exact this
end Tryz
end Go.Ab
end
section
namespace Go.Ab.Tryz
open Classical Go.Proofs Go.Ab
theorem aj {a b:Prop} (x:a) (y:b):a∧b:=⟨x,y⟩
def EN:=aj (aj (aj (aj (aj (aj (aj @cF (aj @Ak @kE)) (aj @Ep (aj @zN @wC))) (aj (aj @zT (aj @decide_true @decide_false)) (aj (aj @Int.cast_ofNat_Int @Bool.not_true) (aj @Bool.not_false @Bool.false_eq_true)))) (aj (aj (aj @Bool.true_eq_false (aj @Ld @Lf)) (aj @Lg (aj @Lh @Li))) (aj (aj @Lj (aj @Lk @Ll)) (aj (aj @Lm @Ln) (aj @aDM @aDN))))) (aj (aj (aj (aj @aDK (aj @aDL @not_false_eq_true)) (aj @ne_eq.{1} (aj @Fa @zS))) (aj (aj @wE (aj @wF @Option.bind_some.{0,0})) (aj (aj @Kx @zO) (aj @Ky @Er)))) (aj (aj (aj @aDG (aj @wD @LC)) (aj @LD (aj @aDH @YK))) (aj (aj @aAZ (aj @aA0 @aA1)) (aj (aj @aHu @aA2) (aj @aBA @Bool.or_false)))))) (aj (aj (aj (aj (aj @Bool.false_or (aj @Bool.false_and @Bool.or_true)) (aj @aDJ (aj @aEr @L2))) (aj (aj @L3 (aj @YM @LF)) (aj (aj @RR @vS) (aj @UF @O6)))) (aj (aj (aj @O7 (aj @aEw @aBL)) (aj @nK (aj @N8 @N9))) (aj (aj @ZU (aj @UC @Option.map_some.{0,0})) (aj (aj @Nk @Km) (aj @Tj @Nq))))) (aj (aj (aj (aj @aBD (aj @aBE @aEs)) (aj @fY (aj @bM @aBO))) (aj (aj @aBP (aj @GC @P0)) (aj (aj @aEv @O0) (aj @O1 @aDQ)))) (aj (aj (aj @aBa (aj @aDR @aDO)) (aj (aj @O2 @O3) (aj @O4 @O5))) (aj (aj @aBK (aj @O8 @aEx)) (aj (aj @aEt @aEu) (aj @aBF @aBG))))))) (aj (aj (aj (aj (aj (aj @aBH (aj @aBI @aBJ)) (aj @L5 (aj @LH @aEp))) (aj (aj @aBz (aj @aOz @aE7)) (aj (aj @Et @Ui) (aj @Kz @rS)))) (aj (aj (aj @La (aj @Eu @Lb)) (aj @Lc (aj @Ev
 @xL))) (aj (aj @xM (aj @pX @Ew)) (aj (aj @Ey @zP) (aj @Ez @tS))))) (aj (aj (aj (aj @L4 (aj @List.toList_toArray.{0} @List.map_cons.{0,0})) (aj @List.map_nil.{0,0} (aj @Kw @wA))) (aj (aj @zM (aj @En @Eo)) (aj (aj @Kv @rT) (aj @zU @wG)))) (aj (aj (aj @List.getElem?_cons_zero.{0} (aj @List.getElem?_cons_succ.{0} @List.getElem?_nil.{0})) (aj @Option.getD_some.{0} (aj @Option.getD_none.{0} @and_true))) (aj (aj @true_and (aj @and_self @false_and)) (aj (aj @and_false @if_true.{1}) (aj @if_false.{1} @Nat.succ_ne_zero)))))) (aj (aj (aj (aj (aj @MY (aj @MZ @Nat.add_zero)) (aj @Nat.zero_add (aj @ZV @Es))) (aj (aj @Up (aj @Uq @Ff)) (aj (aj @Fg @N7) (aj @YX @aBB)))) (aj (aj (aj @aEA (aj @aEB @aEC)) (aj @ZW (aj @P1 @aED))) (aj (aj @aI7 (aj @UH @P2)) (aj (aj @aEE @aBR) (aj @aI8 @aBS))))) (aj (aj (aj (aj @aEF (aj @aEG @aEH)) (aj @aBT (aj @aBU @aEI))) (aj (aj @aBV (aj @aOD @aEJ)) (aj (aj @aI9 @aJa) (aj @aJb @aEK)))) (aj (aj (aj @aEL (aj @aJc @aEM)) (aj (aj @aEN @aBW) (aj @P3 @ZX))) (aj (aj @aEO (aj @aBX @aEP)) (aj (aj @gei @gti) (aj @aVE @gtn)))))))
def EV:=aj EN @zQ
def LE:=aj (aj (aj (aj (aj (aj @aI3 @aI4) (aj @aBM (aj @aBN @Ni))) (aj (aj @Kr @Tq) (aj @aI1 (aj @aI2 @aEq)))) (aj (aj (aj @aZ @bJ) (aj @iB (aj @aP @dZ))) (aj (aj @bV (aj @cU @bS)) (aj @vN (aj @Un @Nat.sub_zero))))) (aj (aj (aj (aj @Nat.le_refl @OL) (aj @HE (aj @Option.map_some.{0,0} @List.all_cons.{0}))) (aj (aj @List.all_nil.{0} @Bool.and_true) (aj @Bool.true_and (aj @Bool.and_self @L6)))) (aj (aj (aj @List.length_cons.{0} @List.length_nil.{0}) (aj @jN (aj @jO @Rw))) (aj (aj @Bz (aj @Uk @LN)) (aj @Nat.zero_le (aj @Nat.mul_one @Zp)))))) (aj (aj (aj (aj (aj @oX @gY) (aj @mC (aj @gC @bT))) (aj (aj @rV @iH) (aj @iQ (aj @fO @eN)))) (aj (aj (aj @gS @nF) (aj @dG (aj @dC @iI))) (aj (aj @mQ (aj @dE @Ox)) (aj @DD (aj @ZR @xK))))) (aj (aj (aj (aj @GB @Lq) (aj @On (aj @Uv @Ux))) (aj (aj @D0 @ZH) (aj @CJ (aj @Jt @CK)))) (aj (aj (aj @CM @Ow) (aj @CU (aj @Jw @IL))) (aj (aj @TV (aj @CZ @TW)) (aj @aBw (aj @yY @aD2))))))
def RD:=aj (aj (aj (aj (aj (aj (aj (aj @RU @RV) (aj @RW @RX)) (aj (aj @kA @Dg) (aj @uT (aj @Gq @RZ)))) (aj (aj (aj @SA @Rp) (aj @Rq @yN)) (aj (aj @Av @Rr) (aj @Rs (aj @yO @EW))))) (aj (aj (aj (aj @EX @Ha) (aj @Wy @Aw)) (aj (aj @Oj @sC) (aj @Dh (aj @Ax @Ok)))) (aj (aj (aj @sD @Jo) (aj @EY (aj @Mr @EZ))) (aj (aj @Wz @Xa) (aj @Fb (aj @Ul @FB)))))) (aj (aj (aj (aj (aj @FC @CA) (aj @CB @Ms)) (aj (aj @FD @Jp) (aj @Ru (aj @LJ @Lw)))) (aj (aj (aj @Rv @Um) (aj @Xb (aj @LK @LM))) (aj (aj @FE @FF) (aj @Jq (aj @Fc @wH))))) (aj (aj (aj (aj @Fe @wI) (aj @Lx @Ol)) (aj (aj @Ho @Om) (aj @Rx (aj @SE @YS)))) (aj (aj (aj @Gy @Ij) (aj @SF (aj @SG @CE))) (aj (aj @SH @SI) (aj @Ay (aj @Mt @Rz))))))) (aj (aj (aj (aj (aj (aj @Gr @Hp) (aj @Ur @Xc)) (aj (aj @Sa @Sb) (aj @CG (aj @CH @Fh)))) (aj (aj (aj @Xd @Fi) (aj @Xe (aj @Cm
 @Us))) (aj (aj @Cn @Ut) (aj @Co (aj @Uu @Az))))) (aj (aj (aj (aj @Sc @FI) (aj @FJ @xT)) (aj (aj @xU @vF) (aj @vG (aj @vH @uV)))) (aj (aj (aj @Jr @FK) (aj @Se (aj @Uw @Mu))) (aj (aj @FL @Sf) (aj @Sg (aj @Ae @Mv)))))) (aj (aj (aj (aj (aj @FM @FN) (aj @LY @TJ)) (aj (aj @CI @FO) (aj @LZ (aj @MA @TK)))) (aj (aj (aj @TL @MB) (aj @TM (aj @TN @TO))) (aj (aj @FP @FQ) (aj @Js (aj @Ly @Oo))))) (aj (aj (aj (aj @Oq @Fy) (aj @TP @ZJ)) (aj (aj @ZK @wJ) (aj @Hb (aj @wK @Hc)))) (aj (aj (aj @FR @Mw) (aj @uJ (aj @FU @Si))) (aj (aj @Sj @Bk) (aj @Bl (aj @oH @Ot)))))))) (aj (aj (aj (aj (aj (aj (aj @Ou @Ba) (aj @Bm @Bb)) (aj (aj @Bn @Fj) (aj @nJ (aj @Xf @Xg)))) (aj (aj (aj @TS @TT) (aj @Ov @Va)) (aj (aj @Cw @MD) (aj @ME (aj @MF @Sk))))) (aj (aj (aj (aj @Gs @Vb) (aj @Vc @Sl)) (aj (aj @Vd @Xh) (aj
 @CL (aj @CN @CO)))) (aj (aj (aj @Xi @Xj) (aj @CP (aj @CR @CS))) (aj (aj @vP @Hd) (aj @yB (aj @Jv @MH)))))) (aj (aj (aj (aj (aj @MI @Fl) (aj @Fm @tT)) (aj (aj @vI @He) (aj @Hf (aj @uW @xV)))) (aj (aj (aj @vQ @Hg) (aj @sX (aj @Cp @yC))) (aj (aj @Jx @Xk) (aj @Xl (aj @Bc @Bd))))) (aj (aj (aj (aj @zD @zF) (aj @qJ @pU)) (aj (aj @Jy @Lz) (aj @qT (aj @Ma @CW)))) (aj (aj (aj @CX @pC) (aj @Hq (aj @qB @Jz))) (aj (aj @Sn @So) (aj @Gt (aj @Gu @xW))))))) (aj (aj (aj (aj (aj (aj @qK @Hr) (aj @Hs @yJ)) (aj (aj @rC @pD) (aj @Ht (aj @nI @Fp)))) (aj (aj (aj @Mx @Di) (aj @qU (aj @Mb @My))) (aj (aj @MJ @Ka) (aj @Kb (aj @vR @Xm))))) (aj (aj (aj (aj @MK @ML) (aj @DA @DB)) (aj (aj @tX @tG) (aj @qV (aj @pO
 @qI)))) (aj (aj (aj @tY @uX) (aj @pP (aj @oG @Mc))) (aj (aj @yP @qW) (aj @Md (aj @Kc @Kd)))))) (aj (aj (aj (aj (aj @uI @Ag) (aj @Sp @Bv)) (aj (aj @Vf @Sq) (aj @Vg (aj @DC @FX)))) (aj (aj (aj @FY @FZ) (aj @Sr (aj @Vh @Xn))) (aj (aj @MN @MO) (aj @MP (aj @TX @MQ))))) (aj (aj (aj (aj @MR @ZN) (aj @ZO @Dv)) (aj (aj @MS @MT) (aj @sJ (aj @rY @MU)))) (aj (aj (aj @MV @Bw) (aj @DE (aj @DF @GA))) (aj (aj @MW @MX) (aj @TY (aj @ZP @ZQ))))))))
def FA:=aj (aj (aj (aj (aj (aj (aj (aj @ld3 @ik3) (aj @lk3 (aj @ze3 @aTf))) (aj (aj @aTg @WE) (aj @aHJ (aj @aTh @aTi)))) (aj (aj (aj @aTj @ld5) (aj @ik5 (aj @lk5 @ze5))) (aj (aj @ik2 (aj @lk2 @ze2)) (aj @aTk (aj @aTl @aTm))))) (aj (aj (aj (aj @ld4 @lk4) (aj @ze4 (aj @aTn @aKY))) (aj (aj @aNI (aj @aHK @aTo)) (aj @aTp (aj @aGn @aTq)))) (aj (aj (aj @aTr @aTs) (aj @aTt (aj @aNJ @aTu))) (aj (aj @aKI (aj @aTv @aTw)) (aj @aTx (aj @aHL @aHM)))))) (aj (aj (aj (aj (aj @aGs @aHN) (aj @aTy (aj @aTz @aTA))) (aj (aj @aTB @aTC) (aj @aHO (aj @aHP @aTD)))) (aj (aj (aj @aTE @aTF) (aj @PJ (aj @aHQ @aHR))) (aj (aj @aHS (aj @aHT @aHU)) (aj @aHV (aj @aHW @aHX))))) (aj (aj (aj (aj @aHY @aHZ) (aj @aAl (aj @aH0 @aTG))) (aj (aj @aTH (aj @aTI @aTJ)) (aj @aTK (aj @aH1 @aH2)))) (aj (aj (aj @aH3 @aH4) (aj @aNK (aj @aTL @aTM))) (aj (aj @aTN (aj @aTO @aH5)) (aj @aTP (aj @aTQ @aTR))))))) (aj (aj (aj (aj (aj (aj @aH6 @aTS) (aj @aTT (aj @aTU @aTV))) (aj (aj @aH7 @aH8) (aj @aH9 (aj @aTW @aNL)))) (aj (aj (aj @aTX @aTY) (aj @aTZ (aj @aT0 @aIa))) (aj (aj @aIb (aj @aIc @aId)) (aj @aIe (aj @aIf @aT1))))) (aj (aj (aj (aj @aNM @aT2) (aj @aT3 (aj @aT4 @aT5))) (aj (aj @aIg (aj @aIh @aIi)) (aj @aIj (aj @aIk @aIl)))) (aj (aj (aj @aT6 @aT7) (aj @aNN (aj @aFf @aD4))) (aj (aj @aD5 (aj @aD6 @aFZ)) (aj @aF0 (aj @aNO @aNP)))))) (aj (aj (aj (aj (aj @aT8 @aT9) (aj @aIm (aj @aIn @aIo))) (aj (aj @aIp @aNQ) (aj @aUa (aj @aNR @aNS)))) (aj (aj (aj @aD7 @aD8) (aj @aD9 (aj @aEa @aNT))) (aj (aj @aNU (aj @aNV @aNW)) (aj @aEb (aj @aEc @aNX))))) (aj (aj (aj (aj @aNY @aNZ) (aj @aFO (aj @aEd @aEe))) (aj (aj @aAk (aj @aN0 @aUb)) (aj @aGW (aj @aIq @aIr)))) (aj (aj (aj @aIs @aIt) (aj @aN1 (aj @aUc @aUd))) (aj (aj @aUe (aj @aIu @aIv)) (aj
 @aIw (aj @aN2 @aN3)))))))) (aj (aj (aj (aj (aj (aj (aj @aUf @aUg) (aj @aUh (aj @aUi @aIx))) (aj (aj @aIy @aUj) (aj @aUk (aj @aUl @aUm)))) (aj (aj (aj @aIz @aIA) (aj @aUn (aj @aN4 @aUo))) (aj (aj @aUp (aj @aUq @aIB)) (aj @aIC (aj @aUr @aUs))))) (aj (aj (aj (aj @aUt @aID) (aj @aIE (aj @aIF @aIG))) (aj (aj @aIH (aj @aII @aIJ)) (aj @aIK (aj @aUu @aUv)))) (aj (aj (aj @aUw @aUx) (aj @aIL (aj @aIM @aIN))) (aj (aj @aIO (aj @aIP @aIQ)) (aj @aIR (aj @aIS @aUy)))))) (aj (aj (aj (aj (aj @aUz @aN5) (aj @aN6 (aj @aEf @aEg))) (aj (aj @aEh @aEi) (aj @aEj (aj @aEk @aEl)))) (aj (aj (aj @aEm @aF1) (aj @aN7 (aj @aIT @aIU))) (aj (aj @Nd (aj @aEn @aUA)) (aj @aUB (aj @aUC @aUD))))) (aj (aj (aj (aj @aUE @ZS) (aj @aIV (aj @aUF @aUG))) (aj (aj @aUH (aj @aUI @aUJ)) (aj @N4 (aj @aIW @aUK)))) (aj (aj (aj @aUL @aUM) (aj @aUN (aj @aUO @aBx))) (aj (aj @aN8 (aj @aUP @aUQ)) (aj @aUR (aj @mW @aIX))))))) (aj (aj (aj (aj (aj (aj @aUS @aUT) (aj @aUU (aj @aUV @aUW))) (aj (aj @TZ @aIY) (aj @aUX (aj @aUY @aUZ)))) (aj (aj (aj @aU0 @Tu) (aj @aIZ (aj @aU1 @aU2))) (aj (aj @aU3 (aj @To @aI0)) (aj @aU4 (aj @aU5 @aU6))))) (aj (aj (aj (aj @aEo @aN9) (aj @aU7 (aj @aU8 @OK))) (aj (aj @aBy (aj @aOa @aOb)) (aj @D6 (aj @aOc @aOd)))) (aj (aj (aj @aOe @aF2) (aj @aOf (aj @aOg @aOh))) (aj (aj @D7 (aj @aOi @aOj)) (aj @aOk (aj @UA @aF3)))))) (aj (aj (aj (aj (aj @aOl @aOm) (aj @aU9 (aj @aVa @aVb))) (aj (aj @aVc @aVd) (aj @aVe (aj @aVf @aVg)))) (aj (aj (aj @aVh @aVi) (aj @aVj (aj @aVk @aVl))) (aj (aj @aVm (aj @aVn @aVo)) (aj @aVp (aj @aVq @aVr))))) (aj (aj (aj (aj @aVs @aVt) (aj @aVu (aj @aVv @aVw))) (aj (aj @aVx (aj @aVy @aVz)) (aj @aVA (aj @aVB @aOn)))) (aj (aj (aj @aOo @aOp) (aj @aOq (aj @aOr @aOs))) (aj (aj @aOt (aj @aOu @aOv)) (aj @aOw
 (aj @aOx @aOy))))))))
def ZZ:=aj (aj EV LE) (aj RD FA)
section
variable {f:Nat} {fn:Func} {st:St} {x y z:AV}
theorem bZ {t:Nat} (hr:fn.results.toList=[.tmp t]) (hx:st.env t=x) (hf:Flat x:=by exact .v _) (hk:Ext.qL f=false:=by exact aH (by decide)):Bi Tryz.prog f fn (.ret,st)=some x:=RY hk (.inl rfl) hr hx hf
theorem fL {t T:Nat} (hr:fn.results.toList=[.cell t T]) (hy:st.env t=y) (hx:Gz Tryz.prog st T y=some x) (hf:Flat x) (hk:Ext.qL f=false:=by exact aH (by decide)):Bi Tryz.prog f fn (.ret,st)=some x:=L9 hk (.inl rfl) hr hy hx hf
theorem tV {t s g e' sz n:Nat} {cs:List AV} (hr:fn.results.toList=[.tmp t]) (hx:st.env t=.own s g) (hh:st.heap s g=some (.row e' sz n cs)) (hf:∀c∈cs,Flat c) (hk:Ext.qL f=false:=by exact aH (by decide)):Bi Tryz.prog f fn (.ret,st)=some (.uniq e' sz n cs):=Ql hk (.inl rfl) hr hx hh hf
theorem eA {t T:Nat} {cs:List AV} (hr:fn.results.toList=[.cell t T]) (hz:st.env t=z) (hx:Gz Tryz.prog st T z=some (.agg cs)) (hy:fP st (.agg cs)=some y) (hk:Ext.qL f=false:=by exact aH (by decide)):Bi Tryz.prog f fn (.ret,st)=some y:=YO hk (.inl rfl) hr hz hx hy
theorem dK {r1 r2:ResultVar} {x1 x2 y1 y2:AV} (hr:fn.results.toList=[r1,r2]) (h1:bY Tryz.prog st r1=some x1) (h2:bY Tryz.prog st r2=some x2) (e1:fP st x1=some y1) (e2:fP st x2=some y2) (hk:Ext.qL f=false:=by exact aH (by decide)):Bi Tryz.prog f fn (.ret,st)=some (.eG [y1,y2]):=aA8 hk (.inl rfl) hr h1 h2 e1 e2
theorem aLH {r1 r2:ResultVar} {x1 x2 y1 y2:AV} (hr:fn.results.toList=[r1,r2]) (h1:bY Tryz.prog st r1=some x1) (h2:bY Tryz.prog st r2=some x2) (e0:fP st x1=none) (e1:Ph st x1=some y1) (e2:fP st x2=some y2) (hk:Ext.qL f=false:=by exact aH (by decide)):Bi Tryz.prog f fn (.ret,st)=some (.eG [y1,y2]):=M0 hk (.inl rfl) hr h1 h2 e0 e1 e2
theorem fN {r1 r2 r3:ResultVar} {x1 x2 x3 y1 y2 y3:AV} (hr:fn.results.toList=[r1,r2,r3]) (h1:bY Tryz.prog st r1=some x1) (h2:bY Tryz.prog st r2=some x2) (h3:bY Tryz.prog st r3=some x3) (e1:fP st x1=some y1) (e2:fP st x2=some y2) (e3:fP st x3=some y3) (hk:Ext.qL f=false:=by exact aH (by decide)):Bi Tryz.prog f fn (.ret,st)=some (.eG [y1,y2,y3]):=YP hk (.inl rfl) hr h1 h2 h3 e1 e2 e3
theorem cL {c:Code} (hf:Tryz.prog.funcs[f]? = some fn) (hb:fn.body=some c) (oS:bK fn=true) {xs:List AV} (hu:xs.any uB=false) (hx:(f == 164)=false:=by rfl):aB Tryz.prog f xs=cT (Aa Tryz.prog c (St.init xs)) (Bi Tryz.prog f fn):=Qp _ hf hb oS xs (uP _ _ hx) hu
theorem cG {c:Code} (hf:Tryz.prog.funcs[f]? = some fn) (hb:fn.body=some c) (oS:sV fn=true) (hc:oA c=true) {xs:List AV} (hu:xs.any uB=false) (hx:(f == 164)=false:=by rfl):aB Tryz.prog f xs=cT (xE Tryz.prog true c (St.init xs)) (Bi Tryz.prog f fn):=by
 rw[RQ Tryz.prog hf hb oS xs (uP _ _ hx) hu,hc]
end
section
variable {b:Code} {st st':St} {n:Nat} {I:Nat→St→Prop} {Q:Ex→St→Prop}
theorem oN (m:Nat) (h:Aa Tryz.prog b st=some (.normal,st')) (hi:I m st') (hm:m<n:=by omega):∃e st',Aa Tryz.prog b st=some (e,st')∧((e=.normal∧∃m,m<n∧I m st')∨(e≠.normal∧Q e st')):=oY h m hm hi
theorem oT (e:Ex) (h:Aa Tryz.prog b st=some (e,st')) (hq:Q e st') (he:e≠.normal:=by simp):∃e st',Aa Tryz.prog b st=some (e,st')∧((e=.normal∧∃m,m<n∧I m st')∨(e≠.normal∧Q e st')):=aHx h he hq
theorem Cx {bi:Bool} (m:Nat) (h:xE Tryz.prog bi b st=some (.normal,st')) (hi:I m st') (hm:m<n:=by omega):∃e st',xE Tryz.prog bi b st=some (e,st')∧((e=.normal∧∃m,m<n∧I m st')∨(e≠.normal∧Q e st')):=aHB h m hm hi
theorem HF {bi:Bool} (e:Ex) (h:xE Tryz.prog bi b st=some (e,st')) (hq:Q e st') (he:e≠.normal:=by simp):∃e st',xE Tryz.prog bi b st=some (e,st')∧((e=.normal∧∃m,m<n∧I m st')∨(e≠.normal∧Q e st')):=aDS h he hq
end
end Go.Ab.Tryz
end
namespace Go.Ab.Tryz
open Classical Go.Proofs Go.Ab
def FT:=aj (aj (aj (aj (aj (aj @P4 (aj @NA @aBZ)) (aj @DH (aj @DI @UI))) (aj (aj @UJ (aj @aER @JD)) (aj (aj @v8 @Qc) (aj @UK @aB0)))) (aj (aj (aj @aJd (aj @OP @Xx)) (aj @D8 (aj @v9 @JH))) (aj (aj @ZY (aj @aB1 @aJe)) (aj (aj @JS @y9) (aj @Xz @Y5))))) (aj (aj (aj (aj @NB (aj @nD @NC)) (aj @UL (aj @aB2 @aJf))) (aj (aj @HR (aj @HG @Tc)) (aj (aj @HH @Qe) (aj @UM @QD)))) (aj (aj (aj @aB3 (aj @aOE @aES)) (aj (aj @ND @aB4) (aj @aJg @P5))) (aj (aj @iV (aj @HP @rP)) (aj (aj @uM @UN) (aj @xH @aB5)))))) (aj (aj (aj (aj (aj @aOF (aj @aET @DJ)) (aj @aB6 (aj @aJh @UO))) (aj (aj @qZ (aj @tP @Vu)) (aj (aj @pJ @Gh) (aj @Aq @Nv)))) (aj (aj (aj @aOG (aj @aEU @UP)) (aj @aB7 (aj @aJi @oM))) (aj (aj @wP (aj @aEV @aB8)) (aj (aj @OU @z4) (aj @rM @WS))))) (aj (aj (aj (aj @Np (aj @WU @Ec)) (aj @j8 (aj @Gf @j9))) (aj (aj @P6 (aj @aB9 @aJj)) (aj (aj @Qi @Ge) (aj @JJ @jY)))) (aj (aj (aj @aOH (aj @aEW @l4)) (aj (aj @l5 @P7) (aj @aCa @aJk))) (aj (aj @aEX (aj @Gc @wQ)) (aj (aj @uN @aCb) (aj @V7 @V6))))))
def E8:=EV
def L8:=LE
def R8:=RD
def F8:=aj FA FT
def EGn:=aj (aj (aj (aj (aj (aj @List.size_toArray.{0} @mM) (aj @oJ @mN)) (aj (aj @mO @oK) (aj @RM @RN))) (aj (aj (aj @B9 @JO) (aj @IF @TC)) (aj (aj @YY @YU) (aj @SJ (aj @bQ @aQ))))) (aj (aj (aj (aj @aW @M7) (aj @YW @M8)) (aj (aj @aBc @aBd) (aj @SM (aj @SN @SO)))) (aj (aj (aj @SP @SQ) (aj @SR @SS)) (aj (aj @SU @SW) (aj @SX (aj @SY @SZ)))))) (aj (aj (aj (aj (aj @TA @TB) (aj @aHH @aBt)) (aj (aj @AE @C6) (aj @aDT (aj @M9 @aDU)))) (aj (aj (aj @aBh @aHE) (aj @aBi @FG)) (aj (aj @LQ @TE) (aj @aDV (aj @aBj @aBk))))) (aj (aj (aj (aj @aDW @LR) (aj @aBl @LS)) (aj (aj @YZ @ZA) (aj @aBm (aj @ZB @aHF)))) (aj (aj (aj @aDX @XA) (aj @aDY @aBn)) (aj (aj @aBo @aBp) (aj @aHG (aj @N0 @aBq))))))
def ZC:=aj (aj L8 R8) F8
def Z8:=aj EV ZC
def ZG:=aj (aj EGn @M5) Z8
end Go.Ab.Tryz
namespace Go.Ab.Tryz
open Go.Ab
theorem Hm:(((aC 0 2 (some 2)=[])∧((aC 1 13 (some 11)=[])∧(aC 2 17 (some 22)=[])))∧(((aC 3 4 (some 37)=[])∧(aC 4 8 (some 40)=[]))∧((aC 5 10 (some 48)=[])∧(aC 6 9 (some 56)=[(4,7)]))))∧(((aC 7 6 (some 63)=[])∧((aC 8 6 (some 68)=[])∧(aC 9 9 (some 73)=[])))∧(((aC 10 18 (some 82)=[])∧(aC 11 4 (some 99)=[]))∧((aC 12 3 (some 103)=[])∧(aC 13 2 (some 105)=[])))):=⟨⟨⟨rfl,⟨rfl,rfl⟩⟩,⟨⟨rfl,rfl⟩,⟨rfl,rfl⟩⟩⟩,⟨⟨rfl,⟨rfl,rfl⟩⟩,⟨⟨rfl,rfl⟩,⟨rfl,rfl⟩⟩⟩⟩
theorem JX:(((aC 0 5 (some 2)=[])∧(aC 1 1 (some 7)=[]))∧((aC 2 5 (some 9)=[])∧(aC 4 11 (some 16)=[])))∧(((aC 5 7 (some 27)=[])∧(aC 6 13 (some 32)=[]))∧((aC 7 5 (some 44)=[(1,2)])∧((aC 3 3 (some 14)=[])∧(aC 8 5 (some 46)=[])))):=⟨⟨⟨rfl,rfl⟩,⟨rfl,rfl⟩⟩,⟨⟨rfl,rfl⟩,⟨rfl,⟨rfl,rfl⟩⟩⟩⟩
theorem XF:((((aC 0 3 (some 2)=[])∧(aC 1 8 (some 9)=[(3,6)]))∧((aC 2 41 (some 13)=[])∧(aC 3 1 (some 4)=[])))∧(((aC 4 38 (some 54)=[])∧(aC 5 1 (some 4)=[]))∧((aC 6 1 (some 7)=[])∧(aC 7 6 (some 131)=[]))))∧((((aC 9 14 (some 139)=[])∧(aC 10 1 (some 4)=[]))∧((aC 8 3 (some 137)=[])∧(aC 11 1 (some 8)=[])))∧(((aC 12 6 (some 153)=[])∧(aC 14 13 (some 161)=[]))∧((aC 15 1 (some 4)=[])∧((aC 13 3 (some 159)=[])∧(aC 16 1 (some 4)=[]))))):=⟨⟨⟨⟨rfl,rfl⟩,⟨rfl,rfl⟩⟩,⟨⟨rfl,rfl⟩,⟨rfl,rfl⟩⟩⟩,⟨⟨⟨rfl,rfl⟩,⟨rfl,rfl⟩⟩,⟨⟨rfl,rfl⟩,⟨rfl,⟨rfl,rfl⟩⟩⟩⟩⟩
theorem sM:(((((aC 0 2 (some 3)=[])∧(aC 1 7 (some 12)=[]))∧((aC 2 4 (some 18)=[])∧(aC 3 14 (some 22)=[])))∧(((aC 4 8 (some 35)=[])∧(aC 5 23 (some 41)=[]))∧((aC 6 9 (some 62)=[])∧((aC 7 5 (some 71)=[])∧(aC 8 4 (some 75)=[])))))∧((((aC 9 9 (some 79)=[])∧(aC 10 7 (some 87)=[]))∧((aC 11 6 (some 93)=[])∧((aC 12 13 (some 97)=[])∧(aC 13 4 (some 110)=[]))))∧(((aC 14 6 (some 114)=[])∧(aC 15 4 (some 119)=[]))∧((aC 16 15 (some 122)=[])∧((aC 17 12 (some 137)=[(7,9)])∧(aC 18 11 (some 147)=[]))))))∧(((((aC 19 5 (some 158)=[])∧(aC 20 8 (some 162)=[(3,5)]))∧((aC 21 3 (some 168)=[])∧((aC 22 2 (some 172)=[])∧(aC 23 6 (some 173)=[]))))∧(((aC 24 2 (some 179)=[])∧(aC 25 5 (some 180)=[]))∧((aC 26 2 (some 185)=[])∧((aC 27 5 (some 186)=[])∧(aC 28 2 (some 191)=[])))))∧((((aC 29 9 (some 192)=[])∧(aC 30 2 (some 201)=[]))∧((aC 31 5 (some 202)=[])∧((aC 32 2 (some 207)=[])∧(aC 33 16 (some 208)=[]))))∧(((aC 34 2 (some 224)=[])∧(aC 35 5 (some 225)=[]))∧((aC 36 2 (some 230)=[])∧((aC 37 3 (some 231)=[])∧(aC 38 2 (some 233)=[])))))):=⟨⟨⟨⟨⟨rfl,rfl⟩,⟨rfl,rfl⟩⟩,⟨⟨rfl,rfl⟩,⟨rfl,⟨rfl,rfl⟩⟩⟩⟩,⟨⟨⟨rfl,rfl⟩,⟨rfl,⟨rfl,rfl⟩⟩⟩,⟨⟨rfl,rfl⟩,⟨rfl,⟨rfl,rfl⟩⟩⟩⟩⟩,⟨⟨⟨⟨rfl,rfl⟩,⟨rfl,⟨rfl,rfl⟩⟩⟩,⟨⟨rfl,rfl⟩,⟨rfl,⟨rfl,rfl⟩⟩⟩⟩,⟨⟨⟨rfl,rfl⟩,⟨rfl,⟨rfl,rfl⟩⟩⟩,⟨⟨rfl,rfl⟩,⟨rfl,⟨rfl,rfl⟩⟩⟩⟩⟩⟩
theorem aSP:(((aC 0 3 (some 2)=[])∧((aC 1 29 (some 11)=[(14,27),(20,27),(21,27),(23,27),(24,27)])∧(aC 2 12 (some 36)=[(7,10)])))∧((aC 3 7 (some 44)=[])∧((aC 4 3 (some 50)=[])∧(aC 5 2 (some 54)=[]))))∧(((aC 6 9 (some 55)=[])∧((aC 7 2 (some 64)=[])∧(aC 8 6 (some 65)=[])))∧(((aC 9 9 (some 70)=[])∧(aC 10 2 (some 79)=[]))∧((aC 11 10 (some 80)=[])∧(aC 12 4 (some 89)=[(1,2)])))):=⟨⟨⟨rfl,⟨rfl,rfl⟩⟩,⟨rfl,⟨rfl,rfl⟩⟩⟩,⟨⟨rfl,⟨rfl,rfl⟩⟩,⟨⟨rfl,rfl⟩,⟨rfl,rfl⟩⟩⟩⟩
theorem JZ:(((aC 0 6 (some 3)=[])∧((aC 1 8 (some 16)=[(5,6)])∧(aC 2 5 (some 22)=[])))∧((aC 3 2 (some 27)=[])∧((aC 4 5 (some 28)=[])∧(aC 5 2 (some 33)=[]))))∧(((aC 6 8 (some 35)=[])∧((aC 7 8 (some 41)=[])∧(aC 8 5 (some 46)=[])))∧(((aC 9 11 (some 51)=[])∧(aC 10 31 (some 59)=[]))∧((aC 11 5 (some 90)=[])∧(aC 12 5 (some 92)=[(1,2)])))):=⟨⟨⟨rfl,⟨rfl,rfl⟩⟩,⟨rfl,⟨rfl,rfl⟩⟩⟩,⟨⟨rfl,⟨rfl,rfl⟩⟩,⟨⟨rfl,rfl⟩,⟨rfl,rfl⟩⟩⟩⟩
theorem Ta:(((aC 0 6 (some 3)=[])∧(aC 1 10 (some 13)=[(5,8)]))∧((aC 2 5 (some 19)=[])∧((aC 3 2 (some 24)=[])∧(aC 4 5 (some 25)=[]))))∧(((aC 5 2 (some 30)=[])∧(aC 6 12 (some 31)=[]))∧((aC 7 36 (some 41)=[])∧((aC 8 5 (some 114)=[])∧(aC 9 5 (some 116)=[(1,2)])))):=⟨⟨⟨rfl,rfl⟩,⟨rfl,⟨rfl,rfl⟩⟩⟩,⟨⟨rfl,rfl⟩,⟨rfl,⟨rfl,rfl⟩⟩⟩⟩
theorem sZ:((((aC 0 4 (some 3)=[])∧(aC 1 13 (some 16)=[]))∧((aC 2 2 (some 23)=[])∧((aC 3 2 (some 25)=[])∧(aC 4 7 (some 26)=[]))))∧(((aC 5 6 (some 32)=[])∧(aC 6 8 (some 37)=[(1,4)]))∧((aC 7 2 (some 43)=[])∧((aC 8 2 (some 45)=[])∧(aC 9 14 (some 47)=[])))))∧((((aC 10 6 (some 59)=[])∧(aC 11 3 (some 65)=[]))∧((aC 12 9 (some 68)=[])∧((aC 13 1 (some 13)=[])∧(aC 14 1 (some 14)=[]))))∧(((aC 15 6 (some 74)=[])∧((aC 17 9 (some 82)=[])∧(aC 18 10 (some 91)=[])))∧((aC 16 3 (some 80)=[])∧((aC 19 4 (some 100)=[])∧(aC 20 2 (some 103)=[]))))):=⟨⟨⟨⟨rfl,rfl⟩,⟨rfl,⟨rfl,rfl⟩⟩⟩,⟨⟨rfl,rfl⟩,⟨rfl,⟨rfl,rfl⟩⟩⟩⟩,⟨⟨⟨rfl,rfl⟩,⟨rfl,⟨rfl,rfl⟩⟩⟩,⟨⟨rfl,⟨rfl,rfl⟩⟩,⟨rfl,⟨rfl,rfl⟩⟩⟩⟩⟩
theorem Lv:(((aC 0 2 (some 1)=[])∧(aC 1 3 (some 5)=[]))∧((aC 2 2 (some 7)=[])∧((aC 3 1 (some 4)=[])∧(aC 4 4 (some 8)=[]))))∧(((aC 6 9 (some 14)=[])∧((aC 7 10 (some 23)=[])∧(aC 8 7 (some 32)=[])))∧((aC 9 13 (some 39)=[])∧((aC 5 3 (some 12)=[])∧(aC 10 2 (some 51)=[])))):=⟨⟨⟨rfl,rfl⟩,⟨rfl,⟨rfl,rfl⟩⟩⟩,⟨⟨rfl,⟨rfl,rfl⟩⟩,⟨rfl,⟨rfl,rfl⟩⟩⟩⟩
theorem AH:((((aC 0 3 (some 2)=[])∧(aC 1 4 (some 14)=[]))∧((aC 2 10 (some 17)=[])∧(aC 3 1 (some 9)=[])))∧(((aC 4 4 (some 22)=[])∧(aC 5 4 (some 25)=[]))∧((aC 6 1 (some 10)=[])∧(aC 7 1 (some 11)=[]))))∧((((aC 8 3 (some 29)=[])∧(aC 10 5 (some 34)=[]))∧((aC 11 2 (some 38)=[])∧(aC 12 1 (some 12)=[])))∧(((aC 13 7 (some 40)=[])∧(aC 14 5 (some 45)=[]))∧((aC 15 8 (some 50)=[])∧((aC 9 3 (some 32)=[])∧(aC 16 6 (some 56)=[(2,3)]))))):=⟨⟨⟨⟨rfl,rfl⟩,⟨rfl,rfl⟩⟩,⟨⟨rfl,rfl⟩,⟨rfl,rfl⟩⟩⟩,⟨⟨⟨rfl,rfl⟩,⟨rfl,rfl⟩⟩,⟨⟨rfl,rfl⟩,⟨rfl,⟨rfl,rfl⟩⟩⟩⟩⟩
theorem X0:((aC 0 3 (some 1)=[])∧((aC 1 5 (some 5)=[])∧(aC 2 8 (some 8)=[])))∧((aC 3 3 (some 16)=[])∧((aC 4 5 (some 17)=[(0,2)])∧(aC 5 5 (some 20)=[(1,3)]))):=⟨⟨rfl,⟨rfl,rfl⟩⟩,⟨rfl,⟨rfl,rfl⟩⟩⟩
theorem Mi:((((aC 0 2 (some 1)=[])∧(aC 1 8 (some 6)=[]))∧((aC 2 1 (some 2)=[])∧((aC 3 7 (some 15)=[])∧(aC 4 2 (some 19)=[]))))∧(((aC 5 2 (some 21)=[])∧((aC 6 5 (some 22)=[])∧(aC 7 2 (some 25)=[])))∧((aC 8 2 (some 28)=[])∧((aC 9 4 (some 29)=[])∧(aC 10 2 (some 33)=[])))))∧((((aC 11 4 (some 34)=[])∧((aC 12 2 (some 38)=[])∧(aC 13 4 (some 39)=[])))∧((aC 14 2 (some 43)=[])∧((aC 15 4 (some 44)=[])∧(aC 16 2 (some 48)=[]))))∧(((aC 17 4 (some 49)=[])∧((aC 18 2 (some 53)=[])∧(aC 19 8 (some 54)=[(3,5)])))∧((aC 20 4 (some 60)=[])∧((aC 21 1 (some 2)=[])∧(aC 22 1 (some 2)=[]))))):=⟨⟨⟨⟨rfl,rfl⟩,⟨rfl,⟨rfl,rfl⟩⟩⟩,⟨⟨rfl,⟨rfl,rfl⟩⟩,⟨rfl,⟨rfl,rfl⟩⟩⟩⟩,⟨⟨⟨rfl,⟨rfl,rfl⟩⟩,⟨rfl,⟨rfl,rfl⟩⟩⟩,⟨⟨rfl,⟨rfl,rfl⟩⟩,⟨rfl,⟨rfl,rfl⟩⟩⟩⟩⟩
theorem ON:((aC 0 2 (some 3)=[])∧(aC 1 1 (some 5)=[]))∧((aC 2 15 (some 6)=[])∧((aC 3 3 (some 21)=[])∧(aC 4 13 (some 23)=[(7,10)]))):=⟨⟨rfl,rfl⟩,⟨rfl,⟨rfl,rfl⟩⟩⟩
theorem Cg:((((aC 0 3 (some 1)=[])∧(aC 1 3 (some 9)=[]))∧((aC 2 3 (some 12)=[])∧(aC 3 5 (some 13)=[])))∧(((aC 4 3 (some 17)=[])∧(aC 5 7 (some 19)=[]))∧((aC 6 4 (some 26)=[])∧((aC 7 7 (some 28)=[])∧(aC 8 4 (some 34)=[])))))∧((((aC 9 3 (some 37)=[])∧(aC 10 1 (some 6)=[]))∧((aC 11 4 (some 39)=[])∧((aC 13 8 (some 45)=[])∧(aC 14 12 (some 53)=[]))))∧(((aC 15 11 (some 65)=[])∧(aC 16 2 (some 73)=[]))∧((aC 17 7 (some 75)=[])∧((aC 12 3 (some 43)=[])∧(aC 18 3 (some 81)=[]))))):=⟨⟨⟨⟨rfl,rfl⟩,⟨rfl,rfl⟩⟩,⟨⟨rfl,rfl⟩,⟨rfl,⟨rfl,rfl⟩⟩⟩⟩,⟨⟨⟨rfl,rfl⟩,⟨rfl,⟨rfl,rfl⟩⟩⟩,⟨⟨rfl,rfl⟩,⟨rfl,⟨rfl,rfl⟩⟩⟩⟩⟩
theorem aMd:((aC 0 2 (some 3)=[])∧(aC 1 14 (some 5)=[(3,5),(3,8),(6,8),(3,11),(6,11),(9,11)]))∧((aC 2 8 (some 18)=[(3,5)])∧((aC 3 8 (some 25)=[(3,5)])∧(aC 4 13 (some 32)=[(4,7),(4,10),(8,10)]))):=⟨⟨rfl,rfl⟩,⟨rfl,⟨rfl,rfl⟩⟩⟩
theorem aFu:((aC 0 3 (some 1)=[])∧(aC 1 4 (some 5)=[]))∧((aC 2 2 (some 8)=[])∧((aC 3 3 (some 10)=[])∧(aC 4 14 (some 11)=[(5,7),(5,10),(8,10)]))):=⟨⟨rfl,rfl⟩,⟨rfl,⟨rfl,rfl⟩⟩⟩
theorem PB:(((aC 0 3 (some 1)=[])∧(aC 1 4 (some 6)=[]))∧((aC 2 2 (some 2)=[])∧(aC 3 14 (some 10)=[(7,9),(7,10)])))∧(((aC 4 1 (some 5)=[])∧(aC 5 5 (some 23)=[]))∧((aC 7 8 (some 30)=[])∧((aC 6 3 (some 28)=[])∧(aC 8 3 (some 37)=[])))):=⟨⟨⟨rfl,rfl⟩,⟨rfl,rfl⟩⟩,⟨⟨rfl,rfl⟩,⟨rfl,⟨rfl,rfl⟩⟩⟩⟩
theorem Y1:((aC 0 3 (some 1)=[])∧(aC 1 8 (some 4)=[]))∧((aC 2 2 (some 2)=[])∧(aC 3 13 (some 12)=[(7,9)])):=⟨⟨rfl,rfl⟩,⟨rfl,rfl⟩⟩
theorem aLX:(aC 0 2 (some 3)=[])∧(aC 1 8 (some 5)=[(3,5)]):=⟨rfl,rfl⟩
theorem aFt:(aC 0 2 (some 3)=[])∧(aC 1 14 (some 5)=[(3,5),(3,8),(6,8),(3,11),(6,11),(9,11)]):=⟨rfl,rfl⟩
theorem Zv:((aC 0 1 (some 4)=[])∧((aC 1 1 (some 5)=[])∧(aC 2 12 (some 6)=[])))∧(((aC 3 3 (some 18)=[])∧(aC 4 12 (some 20)=[]))∧((aC 5 2 (some 32)=[])∧(aC 6 12 (some 33)=[(6,9)]))):=⟨⟨rfl,⟨rfl,rfl⟩⟩,⟨⟨rfl,rfl⟩,⟨rfl,rfl⟩⟩⟩
end Go.Ab.Tryz
