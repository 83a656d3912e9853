/-
  Part 5 of the proof: an evaluator of programs, its soundness, and what functions of this program compute.
-/
import Derived.Test.YthkgnakbkaafgaaGreatK4
import Derived.Below
set_option linter.all false
set_option maxRecDepth 20000
set_option maxHeartbeats 40000000
open List
noncomputable section
namespace Go.Ab
open Go Go.RowKit
theorem Xt {w w':World} (g:w.grownBy w' none):Below w.heap.size w w' :=
 ⟨g.os,g.tape,g.output,g.size,fun k R=>g.block k R qe⟩
def aLc [Ext] {P:Program} (hm:P.follows .mixedOrders=true) (N:Ze P) {f:Nat} {xs:List AV} {b:Bool} (h:aA P f xs=some (ae b)) (hu:xs.any tF=false) (w:World) (vs:Array Value)
 (X:jD (bare fun k o=>w.heap[k]? = some o) xs vs.toList) :
 Calls P f vs w fun e w'=>e=.returned (.bool b)/\Below w.heap.size w w':=by
 have hs:=FY (P:=P) hm N h
 have hC:Eh P f xs (ae b):=by
  unfold pU at hs;grind [tF]
 refine (hC w _ vs (fun _ _ h=>h) X).mono fun e w' ⟨v,he,C,hg⟩=>?_
 obtain⟨us,_,_,_,_,h5⟩:=C
 have W:us=[]:=by
  rename_i h4;have:=h4 0 0
  exact length_eq_zero_iff.1 this.symm
 subst W;have:=(h5 (bare (newHs (fun k o=>w.heap[k]? = some o) w w' [])) 0 0 (fun _ _ h=>h) qe).1
 have C:v=.bool b:=by cases this;rfl
 grind [Xt]
end Go.Ab
section
namespace Go.Ab
open Classical
variable {S:Nat} {z:List Value} {call:Nat->List AV->Option AV} {ops:Array Oper} {pos:String} {aft:Array Edge} {α:Type}
def My (e sz by_:Nat) (v:Option (Nat × List AV)):Option (Option (Nat × Nat) × mH) :=
 match v with
 | some (m,news)=>if news.length=m * sz/\m * by_<=140737488355328/\m<=maxLen then some (none,.row e sz m news) else none
 | none=>none
def Mz (e sz by_:Nat) (o:Option mH) (s g:Nat) (v:Option (Nat × List AV)):Option (Option (Nat × Nat) × mH) :=
 match o,v with
 | some (.row e' l n cs),some (m,news)=>if news.length=m * sz/\e'=e/\l=sz/\(n+m) * by_<=140737488355328/\n+m<=maxLen then some (some (s,g),.row e sz (n+m) (cs++news)) else none
 | _,_=>none
def dj (e sz by_ n:Nat) (cs:List AV) (v:Option (Nat × List AV)):Option (Option (Nat × Nat) × mH) :=
 match v with
 | some (m,news)=>if news.length=m * sz/\cs.length=n * sz/\(n=0\/0<m)/\(n+m) * by_<=140737488355328/\n+m<=maxLen then some (none,.row e sz (n+m) (cs++news)) else none
 | none=>none
section
variable {P:Program} {st:St} {T e sz by_:Nat}
theorem uF (hs:dD P T=some (e,sz,by_)) (x:AV):dS P st T af x=My e sz by_ (bA st x):=by
 grind [dS,My]
theorem rG (hs:dD P T=some (e,sz,by_)) (s g:Nat) (x:AV):dS P st T (.own s g) x=Mz e sz by_ (st.heap s g) s g (bA st x):=by
 simp only[dS,hs,Mz];grind
theorem aQn (hs:dD P T=some (e,sz,by_)) (n:Nat) (cs:List AV) (x:AV):dS P st T (.cl n cs) x=dj e sz by_ n cs (bA st x):=by
 grind [dS,dj]
end
def Vs (e sz:Nat) (o:Option mH) (s g:Nat) (i:Int):Option AV :=
 match o with
 | some (.row e' l n _)=>if 0<=i/\i<n/\e'=e/\l=sz then some (.ptr s g (i.toNat * sz)) else none
 | _=>none
def xX {P:Program} {st:St} {T e sz by_:Nat} (hn:gW P T=none) (hs:dD P T=some (e,sz,by_)) (s g:Nat) (k:IntKind) (i:Int):bK P st T (.own s g) (.v (.int k i))=Vs e sz (st.heap s g) s g i:=by
 grind [bK,Vs]
def aLJ (e sz n:Nat) (cs:List AV) (s g:Nat) (i:Int) (h0:0<=i) (J:i<n):Vs e sz (some (.row e sz n cs)) s g i=some (.ptr s g (i.toNat * sz)):=by
 simp[Vs,h0,J]
def T7 [Ext] {P:Program} {e sz by_:Nat} (hs:dD P S=some (e,sz,by_)) (hz:eC P e=some z) {st:St} {T:Nat} (d:Nat) (him:Ext.im S d=false) :
 cU P call ops ⟨some d,.buildSlice S 0 #[],T,pos,aft,none⟩ st=some ((st.new d (.row e sz 0 [])).put (some d) (.own d (st.aJ d))):=by
 simp_all [gF,cT,mP]
def bu (x:AV) (k:Value->Option α) (R:Option α):Option α :=
 match x with
 | .v y=>if y.oneCell'=true then k y else R
 | _=>R
def aLL (kk:IntKind) (n:Int) (k:Value->Option α) (R:Option α):bu (.v (.int kk n)) k R=k (.int kk n):=rfl
def aH9 (n:Bool) (k:Value->Option α) (R:Option α):bu (ae n) k R=k (.bool n):=rfl
@[congr] theorem aS0 {x y:AV} {k:Value->Option α} {R:Option α} (h:x=y):bu x k R=bu y k R:=yi
def VJ [Ext] {P:Program} {e by_:Nat} {z:Value} (hs:dD P S=some (e,1,by_)) (hz:eC P e=some [z]) {st:St} {T:Nat} (d:Nat) (x:Operand) (him:Ext.im S d=false) :
 cU P call ops ⟨some d,.buildSlice S 1 #[(0,x)],T,pos,aft,none⟩ st=bu (st.ev x) (fun y=>some ((st.new d (.row e 1 1 [.v y])).put (some d) (.own d (st.aJ d)))) (cU P call ops ⟨some d,.buildSlice S 1 #[(0,x)],T,pos,aft,none⟩ st):=by
 unfold bu;grind [gF,cT,AV.lL,mP,AV.cells]
def cj (z:Nat) (x:AV) (k:List AV->Option α) (R:Option α):Option α :=
 match x with
 | .agg cs=>if cs.length=z then k cs else R
 | _=>R
def aLM (z:Nat) (cs:List AV) (k:List AV->Option α) (R:Option α) (h:cs.length=z):cj z (.agg cs) k R=k cs:=if_pos h
@[congr] theorem aS1 {z:Nat} {x y:AV} {k:List AV->Option α} {R:Option α} (h:x=y):cj z x k R=cj z y k R:=yi
def Dq [Ext] {P:Program} {e sz by_:Nat} (hs:dD P S=some (e,sz,by_)) (hz:eC P e=some z) (hl:z.length=sz) (hm:sz<=2 ^ 24) {st:St} {T:Nat} (d:Nat) (x:Operand) (him:Ext.im S d=false) :
 cU P call ops ⟨some d,.buildSlice S 1 #[(0,x)],T,pos,aft,none⟩ st=cj sz (st.ev x) (fun cs=>some ((st.new d (.row e sz 1 cs)).put (some d) (.own d (st.aJ d)))) (cU P call ops ⟨some d,.buildSlice S 1 #[(0,x)],T,pos,aft,none⟩ st):=by
 unfold cj;grind [gF,cT,AV.lL,mP,AV.cells]
def SM {e sz by_ s g n:Nat} {cs:List AV} (hl:cs.length=n * sz) (hb:(n:Int) * by_<=140737488355328) (hm:(n:Int)<=maxLen):Mz e sz by_ (some (.row e sz 0 [])) s g (some (n,cs))=some (some (s,g),.row e sz n cs):=by
 grind [Mz]
end Go.Ab
end
section
namespace Go.Ab
open Classical
variable {bi:Bool} {o:Oper} {d:Option Nat} {g T s sz n k c ee:Nat} {pos:String} {aft:Array Edge} {fn:Func} {e:Ex} {r:ResultVar} {x y x' A:AV} {cs rest:List AV} {b:Code} {st':St} {Inv:Nat->St->Prop} {Q:Ex->St->Prop}
variable [Ext]
@[congr] theorem aS2 {P:Program} {c:Code} {s t:St} (h:s=t):vN P bi c s=vN P bi c t:=yi
theorem aD3 {P:Program} (c:Operand) (a b:Code) (st:St):vN P bi (.cond c a b) st=ab (st.ev c) fun t=>if t=true then vN P bi a st else vN P bi b st:=by
 cases h:st.ev c with
 | v x =>
   cases x with
   | bool t=>exact D9 P c a b st h
   | _ =>
     apply Option.ext
     intro r;rw[gJ];constructor
     ·rintro⟨n,m,G⟩
      cases m<;>grind [xZ]
     ·intro G;simp[ab] at G
 | _ =>
   apply Option.ext
   intro r;rw[gJ];constructor
   ·rintro⟨n,m,G⟩
    cases m<;>grind [xZ]
   ·intro G;simp[ab] at G
section
variable {P:Program} {call:Nat->List AV->Option AV} {inl:Nat->List AV->St->Option (AV × St)} {ops:Array Oper} {st:St}
theorem aAk:mW P true call inl ops [] st=some st:=rfl
theorem G4 (o:Oper) (l:List Oper):mW P true call inl ops (o :: l) st=cT (fZ P true call inl ops o st) (mW P true call inl ops l):=rfl
@[congr] theorem aNZ {s t:St} (h:s=t):fZ P true call inl ops o s=fZ P true call inl ops o t:=yi
theorem aIa (h:Ip o=none):fZ P true call inl ops o st=cU P call ops o st:=by
 grind [fZ]
theorem aD4 {args:Array Operand} {A:Array Nat} (h:Ext.inl g d=true) :
 fZ P true call inl ops ⟨d,.call ⟨.value (.func g),args,A⟩,T,pos,aft,none⟩ st=cT (inl g (args.toList.map st.ev) st) fun r=>some ((st.back r.2).put d r.1):=by
 have e:Ip ⟨d,.call ⟨.value (.func g),args,A⟩,T,pos,aft,none⟩=some (g,args.toList):=by
  grind [Ip]
 unfold fZ;rw[if_pos rfl,e];simp only[gv,if_true];cases inl g (args.toList.map st.ev) st<;>rfl
end
theorem bV (st s:St):(st.back s).env=st.env:=rfl
theorem aN (st s:St):(st.back s).heap=s.heap:=rfl
theorem aV (st s:St):(st.back s).aJ=s.aJ:=rfl
theorem Kk {P:Program} {st:St} (he:e=.ret\/e=.normal) (hr:fn.results.toList=[r]) (h1:jP P st r=some x):gg P fn (e,st)=some (Iq st x):=by
 grind [zY,gg]
theorem aHb {P:Program} {st:St} {G C:ResultVar} (he:e=.ret\/e=.normal) (hr:fn.results.toList=[G,C]) (h1:jP P st G=some x) (h2:jP P st C=some y):gg P fn (e,st)=some (.cY [x,y],st):=by
 have h:zY P fn st=some (.cY [x,y]):=by
  simp_all [zY,bM]
 grind [gg,Iq]
theorem aGm {st:St} {e:Nat} (h:st.heap s g=some (.row e sz n cs)) (hk:k<=n):Iq st (.vw s g 0 k)=(.own s (st.aJ s),(st.gV s g none).new s (.row e sz k (cs.take (k * sz)))):=by
 grind [Iq]
theorem aAl {P:Program} (Inv:Nat->St->Prop) (Q:Ex->St->Prop)
 (step:∀n st,Inv n st->∃e st',vN P bi b st=some (e,st')/\((e=.normal/\∃m,m<n/\Inv m st')\/(e≠.normal/\Q e st'))):∀n st,Inv n st->∃e st',vN P bi (.loop b) st=some (e,st')/\e≠.normal/\Q e st':=by
 intro n;induction n using Nat.strongRecOn with
 | _ n S =>
   intro st h;obtain⟨e,s1,J,h2⟩:=step n st h
   rw[D8,J];rcases h2 with ⟨rfl,m,hm,hi⟩|⟨mC,N⟩
   ·exact S m hm s1 hi
   ·refine⟨e,s1, ?_,mC,N⟩
    cases e with
    | normal=>grind
    | _=>rfl
theorem jV {P:Program} {st:St} {β:Type} {k:Ex × St->Option β} {R:β->Prop} (Inv:Nat->St->Prop) (Q:Ex->St->Prop) (n:Nat)
 (step:∀n st,Inv n st->∃e st',vN P bi b st=some (e,st')/\((e=.normal/\∃m,m<n/\Inv m st')\/(e≠.normal/\Q e st')))
 (start:Inv n st) (rest:∀e st',Q e st'->∃r,k (e,st')=some r/\R r):∃r,cT (vN P bi (.loop b) st) k=some r/\R r:=by
 obtain⟨e,s1,J,h2,S⟩:=aAl Inv Q step n st start
 rw[J];exact rest e s1 S
theorem aQo {P:Program} {st:St} (h:vN P bi b st=some (.normal,st')) (m:Nat) (hm:m<n) (hi:Inv m st') :
 ∃e st',vN P bi b st=some (e,st')/\((e=.normal/\∃m,m<n/\Inv m st')\/(e≠.normal/\Q e st')):=⟨_,_,h,.inl ⟨rfl,m,hm,hi⟩⟩
theorem aLN {P:Program} {st:St} (h:vN P bi b st=some (e,st')) (he:e≠.normal) (N:Q e st') :
 ∃e st',vN P bi b st=some (e,st')/\((e=.normal/\∃m,m<n/\Inv m st')\/(e≠.normal/\Q e st')):=⟨_,_,h,.inr ⟨he,N⟩⟩
theorem G5 {P:Program} {id:Nat} {ops:Array Oper} {d:Bool} {st:St} {l:List (Nat × Nat)} (h:Ext.dyn id ops.size (tK ops)=l) :
 vN P true (.region id ops d) st=cT (mW P true (aA P) (oX P) ops ops.toList st) fun s=>if sC ops s l then some (.normal,s) else none:=by
 grind [HY]
theorem aD5 (ops:Array Oper) (s:St):sC ops s []=True:=rfl
theorem aAm (ops:Array Oper) (s:St) (p:Nat × Nat) (l:List (Nat × Nat)):sC ops s (p :: l)=(CW ops s p/\sC ops s l):=rfl
def G6 (s:St) (x y:Option (List Nat)):Prop:=match x,y with|some D,some A=>Pl s D A|_,_=>False
theorem aD6 (ops:Array Oper) (s:St) (i j:Nat):CW ops s (i,j)=G6 s ((ops[i]?).bind iK) ((ops[j]?).bind iK):=rfl
theorem aIb (s:St) (a b:Nat):G6 s (some [a]) (some [b])=gB (s.env a) (s.env b):=by simp[G6,Pl]
theorem aIc (s:St) (a u b:Nat):G6 s (some [a,u]) (some [b])=(gB (s.env a) (s.env b)/\gB (s.env u) (s.env b)):=by simp[G6,Pl]
@[congr] theorem aId (h:x=x') (G:y=A):gB x y=gB x' A:=by rw[h,G]
theorem G7 (s g o D g' o':Nat):gB (.ptr s g o) (.ptr D g' o')=((s,g)≠(D,g')):=rfl
theorem G8 (s g o D g':Nat):gB (.ptr s g o) (.own D g')=((s,g)≠(D,g')):=rfl
theorem G9 (s g D g' o':Nat):gB (.own s g) (.ptr D g' o')=((s,g)≠(D,g')):=rfl
theorem H0 (x:Value) (s g o:Nat):gB (.v x) (.ptr s g o)=True:=rfl
theorem H2 (x:Value) (s g o:Nat):gB (.ptr s g o) (.v x)=True:=rfl
theorem H3 (s g n:Nat) (cs:List AV):gB (.own s g) (.sl n cs)=True:=rfl
theorem H4 (s g n:Nat) (cs:List AV):gB (.sl n cs) (.own s g)=True:=rfl
theorem H5 (s g o n:Nat) (cs:List AV):gB (.sl n cs) (.ptr s g o)=True:=rfl
theorem H6 (s g o n:Nat) (cs:List AV):gB (.ptr s g o) (.sl n cs)=True:=rfl
theorem H7 (n m:Nat) (cs ds:List AV):gB (.sl n cs) (.sl m ds)=True:=rfl
theorem H8 (s g:Nat) (x:Value):gB (.own s g) (.v x)=True:=rfl
theorem H9 (s g:Nat) (x:Value):gB (.v x) (.own s g)=True:=rfl
theorem I0 (x:Value) (n:Nat) (cs:List AV):gB (.v x) (.sl n cs)=True:=rfl
theorem I1 (x:Value) (n:Nat) (cs:List AV):gB (.sl n cs) (.v x)=True:=rfl
def ic (x y:AV):Option AV :=
 match x,y with
 | .v (.int k a),.v (.int _ b)=>some (.v (.int k (if b<a then b else a)))
 | _,_=>none
def ib (x y:AV):Option AV :=
 match x,y with
 | .v (.int k a),.v (.int _ b)=>some (.v (.int k (if b > a then b else a)))
 | _,_=>none
theorem v7 (k A:IntKind) (a b:Int):ic (.v (.int k a)) (.v (.int A b))=some (.v (.int k (if b<a then b else a))):=rfl
theorem u9 (k A:IntKind) (a b:Int):ib (.v (.int k a)) (.v (.int A b))=some (.v (.int k (if a<b then b else a))):=rfl
@[congr] theorem aQp (h:x=x') (G:y=A):ic x y=ic x' A:=by rw[h,G]
@[congr] theorem aQq (h:x=x') (G:y=A):ib x y=ib x' A:=by rw[h,G]
theorem aQr {P:Program} {call:Nat->List AV->Option AV} {ops:Array Oper} {st:St} (x y:Operand) (A:Array Nat) :
 cU P call ops ⟨d,.call ⟨.builtin .min,#[x,y],A⟩,T,pos,aft,none⟩ st=cT (ic (st.ev x) (st.ev y)) fun v=>some (st.put d v):=by
 rw[eB];simp only[dU,iZ,ic];cases st.ev x with
 | v a=>cases a with
   | int k a=>cases st.ev y with
     | v b=>cases b<;>rfl
     | _=>rfl
   | _=>rfl
 | _=>rfl
theorem aQs {P:Program} {call:Nat->List AV->Option AV} {ops:Array Oper} {st:St} (x y:Operand) (A:Array Nat) :
 cU P call ops ⟨d,.call ⟨.builtin .max,#[x,y],A⟩,T,pos,aft,none⟩ st=cT (ib (st.ev x) (st.ev y)) fun v=>some (st.put d v):=by
 rw[eB];simp only[dU,iZ,ib];cases st.ev x with
 | v a=>cases a with
   | int k a=>cases st.ev y with
     | v b=>cases b<;>rfl
     | _=>rfl
   | _=>rfl
 | _=>rfl
def B3 (call:Nat->List AV->Option AV) (g:Nat) (rest:List AV) (s k d c:Nat) (o:Option mH):Option rI :=
 match o with
 | some (.row e sz n cs) =>
   if (∀c∈cs,Flat c)/\∀x∈rest,Flat x then
    match call g (.uniq e sz n cs :: rest) with
    | some (.uniq e' l W Y)=>some { dst:=some d,val:=.own d c,dE:=some (s,k,none),new:=some (d,[.row e' l W Y])}
    | some (.cY [.uniq e' l W Y])=>some { dst:=some d,val:=.cY [],dE:=some (s,k,some (.row e' l W Y))}
    | _=>none
   else none
 | _=>none
theorem aAn (call:Nat->List AV->Option AV) (g s k d:Nat) (rest:List AV) (st:St):kU call g (.own s k :: rest) st (some d)=B3 call g rest s k d (st.aJ d) (st.heap s k):=by
 grind [kU,B3]
theorem Sx {call:Nat->List AV->Option AV} {d e e' l W:Nat} {Y:List AV} (hf:∀c∈cs,Flat c) (hr:∀x∈rest,Flat x) (hc:call g (.uniq e sz n cs :: rest)=some (.uniq e' l W Y)) :
 B3 call g rest s k d c (some (.row e sz n cs))=some { dst:=some d,val:=.own d c,dE:=some (s,k,none),new:=some (d,[.row e' l W Y])}:=by
 grind [B3]
@[congr] theorem aS3 {call:Nat->List AV->Option AV} {d c':Nat} {o o':Option mH} (h:c=c') (G:o=o'):B3 call g rest s k d c o=B3 call g rest s k d c' o':=by rw[h,G]
theorem R7 {call:Nat->List AV->Option AV} {d:Nat} {st:St} {e:Nat} (hr:∀x∈rest,Flat x) (G:call g (af :: rest)=some (.uniq e sz n cs)) :
 kU call g (af :: rest) st (some d)=some { dst:=some d,val:=.own d (st.aJ d),new:=some (d,[.row e sz n cs])}:=by
 have W:∀x∈af :: rest,Flat x:=by
  grind [Flat.v]
 have C:¬Flat (.uniq e sz n cs):=ym
 unfold kU;simp only[if_pos W];unfold aO;rw[if_pos W,G];simp only[cT];unfold jH;rw[if_neg C];rfl
theorem YZ {P:Program} {st:St} (he:e=.ret\/e=.normal) (hr:fn.results.toList=[r]) (h1:jP P st r=some (.own s g)) (h2:st.heap s g=some (.row ee sz n cs)) (hm:∀c∈cs,cZ c) :
 ey P fn (e,st)=some (.uniq ee sz n cs):=by
 have h:Db P fn st=some (.uniq ee sz n cs):=by
  grind [Db]
 rcases he with rfl|rfl<;>exact h
theorem aKh {P:Program} {st:St} (he:e=.ret\/e=.normal) (hr:fn.results.toList=[r]) (h1:jP P st r=some (.vw s g 0 k)) (h2:st.heap s g=some (.row ee sz n cs)) (hk:k<=n) (hl:cs.length=n * sz) (hm:∀c∈cs,cZ c) :
 ey P fn (e,st)=some (.uniq ee sz k (cs.take (k * sz))):=by
 have h:Db P fn st=some (.uniq ee sz k (cs.take (k * sz))):=by
  grind [Db]
 rcases he with rfl|rfl<;>exact h
theorem fP (e sz n:Nat) (cs rest:List AV):(St.uS e sz n cs rest).env 0=.own 0 0:=rfl
theorem gT (e sz n:Nat) (cs rest:List AV) (t:Nat):(St.uS e sz n cs rest).env (t+1)=(rest[t]?).getD (.v undef):=rfl
theorem fQ (e sz n:Nat) (cs rest:List AV):(St.uS e sz n cs rest).heap 0 0=some (.row e sz n cs):=rfl
theorem fY (e sz n:Nat) (cs rest:List AV):(St.uS e sz n cs rest).aJ 0=1:=rfl
theorem gU (e sz n:Nat) (cs rest:List AV) (s:Nat) (h:s≠0):(St.uS e sz n cs rest).aJ s=0:=if_neg h
end Go.Ab
end
section
namespace Go.Ab
open Classical
variable {a:Code} {β:Type}
variable [Ext]
theorem yP {P:Program} {st:St} {k:Ex × St->Option β} {R:β->Prop} (Q:Ex->St->Prop) (h:∃e st',wP P a st=some (e,st')/\Q e st')
 (rest:∀e st',Q e st'->∃r,k (e,st')=some r/\R r):∃r,cT (wP P a st) k=some r/\R r:=by
 obtain⟨e,s1,J,h2⟩:=h
 rw[J];exact rest e s1 h2
theorem Mx {P:Program} {bi:Bool} {st:St} {k:Ex × St->Option β} {R:β->Prop} (Q:Ex->St->Prop) (h:∃e st',vN P bi a st=some (e,st')/\Q e st')
 (rest:∀e st',Q e st'->∃r,k (e,st')=some r/\R r):∃r,cT (vN P bi a st) k=some r/\R r:=by
 obtain⟨e,s1,J,h2⟩:=h
 rw[J];exact rest e s1 h2
theorem eM {x:Option β} {v:β} (h:∃r,x=some r/\r=v):x=some v:=by
 grind
theorem I2 {P:Program} {id:Nat} {ops:Array Oper} {d:Bool} {st:St} :
 vN P true (.region id ops d) st=cT (mW P true (aA P) (oX P) ops ops.toList st) fun s=>if sC ops s (Ext.dyn id ops.size (tK ops)) then some (.normal,s) else none:=G5 rfl
theorem aAo (o:Oper) (l:List Oper):tK (o :: l).toArray=o.dst:=by simp[tK]
section
variable {P:Program} {call:Nat->List AV->Option AV} {inl:Nat->List AV->St->Option (AV × St)} {ops:Array Oper} {st:St} {d:Option Nat} {T:Nat} {pos:String} {aft:Array Edge} {g:Option (Nat × Bool)}
theorem aLO (x:Operand):fZ P true call inl ops ⟨d,.move x,T,pos,aft,g⟩ st=cU P call ops ⟨d,.move x,T,pos,aft,g⟩ st:=rfl
theorem aD7 (x:Operand):fZ P true call inl ops ⟨d,.assign x,T,pos,aft,g⟩ st=cU P call ops ⟨d,.assign x,T,pos,aft,g⟩ st:=rfl
theorem aLP (x y z:Operand):fZ P true call inl ops ⟨d,.pick x y z,T,pos,aft,g⟩ st=cU P call ops ⟨d,.pick x y z,T,pos,aft,g⟩ st:=rfl
theorem aIe (S:Nat):fZ P true call inl ops ⟨d,.alloc S,T,pos,aft,g⟩ st=cU P call ops ⟨d,.alloc S,T,pos,aft,g⟩ st:=rfl
theorem aQt (S:Nat) (x:Operand):fZ P true call inl ops ⟨d,.box S x,T,pos,aft,g⟩ st=cU P call ops ⟨d,.box S x,T,pos,aft,g⟩ st:=rfl
theorem aIf (S:Nat) (x:Array (Nat × Operand)):fZ P true call inl ops ⟨d,.build S x,T,pos,aft,g⟩ st=cU P call ops ⟨d,.build S x,T,pos,aft,g⟩ st:=rfl
theorem xT (S n:Nat) (x:Array (Nat × Operand)):fZ P true call inl ops ⟨d,.buildSlice S n x,T,pos,aft,g⟩ st=cU P call ops ⟨d,.buildSlice S n x,T,pos,aft,g⟩ st:=rfl
theorem VK (S:Nat) (x y:Operand):fZ P true call inl ops ⟨d,.makeSlice S x y,T,pos,aft,g⟩ st=cU P call ops ⟨d,.makeSlice S x y,T,pos,aft,g⟩ st:=rfl
theorem I3 (f:Fn) (x y:Array Operand):fZ P true call inl ops ⟨d,.makeFunc f x y,T,pos,aft,g⟩ st=cU P call ops ⟨d,.makeFunc f x y,T,pos,aft,g⟩ st:=rfl
theorem aLQ (S:Nat) (x:Operand):fZ P true call inl ops ⟨d,.load S x,T,pos,aft,g⟩ st=cU P call ops ⟨d,.load S x,T,pos,aft,g⟩ st:=rfl
theorem aIg (S:Nat) (x y:Operand):fZ P true call inl ops ⟨d,.store S x y,T,pos,aft,g⟩ st=cU P call ops ⟨d,.store S x y,T,pos,aft,g⟩ st:=rfl
theorem aIh (o:BinOp) (S M:Nat) (x y:Operand):fZ P true call inl ops ⟨d,.binOp o S x y M,T,pos,aft,g⟩ st=cU P call ops ⟨d,.binOp o S x y M,T,pos,aft,g⟩ st:=rfl
theorem aLR (o:UnOp) (S:Nat) (x:Operand):fZ P true call inl ops ⟨d,.unOp o S x,T,pos,aft,g⟩ st=cU P call ops ⟨d,.unOp o S x,T,pos,aft,g⟩ st:=rfl
theorem VL (S f:Nat) (x:Operand):fZ P true call inl ops ⟨d,.fieldAddr S x f,T,pos,aft,g⟩ st=cU P call ops ⟨d,.fieldAddr S x f,T,pos,aft,g⟩ st:=rfl
theorem aIi (S f:Nat) (x:Operand):fZ P true call inl ops ⟨d,.field S x f,T,pos,aft,g⟩ st=cU P call ops ⟨d,.field S x f,T,pos,aft,g⟩ st:=rfl
theorem VM (S:Nat) (x y:Operand):fZ P true call inl ops ⟨d,.indexAddr S x y,T,pos,aft,g⟩ st=cU P call ops ⟨d,.indexAddr S x y,T,pos,aft,g⟩ st:=rfl
theorem aAp (S M:Nat) (x:Operand):fZ P true call inl ops ⟨d,.convert S M x,T,pos,aft,g⟩ st=cU P call ops ⟨d,.convert S M x,T,pos,aft,g⟩ st:=rfl
theorem aAq (x:Operand) (i:Nat):fZ P true call inl ops ⟨d,.extract x i,T,pos,aft,g⟩ st=cU P call ops ⟨d,.extract x i,T,pos,aft,g⟩ st:=rfl
theorem aIj (S:Nat) (x:Operand) (a b c:Option Operand):fZ P true call inl ops ⟨d,.slice S x a b c,T,pos,aft,g⟩ st=cU P call ops ⟨d,.slice S x a b c,T,pos,aft,g⟩ st:=rfl
theorem aAr (b:Builtin) (x:Array Operand) (y:Array Nat):fZ P true call inl ops ⟨d,.call ⟨.builtin b,x,y⟩,T,pos,aft,g⟩ st=cU P call ops ⟨d,.call ⟨.builtin b,x,y⟩,T,pos,aft,g⟩ st:=rfl
theorem aQu (t:Nat) (x:Array Operand) (y:Array Nat):fZ P true call inl ops ⟨d,.call ⟨.value (.tmp t),x,y⟩,T,pos,aft,g⟩ st=cU P call ops ⟨d,.call ⟨.value (.tmp t),x,y⟩,T,pos,aft,g⟩ st:=rfl
theorem Tg (f:Nat) (x:Array Operand) (y:Array Nat) (h:Ext.inl f d=false):fZ P true call inl ops ⟨d,.call ⟨.value (.func f),x,y⟩,T,pos,aft,g⟩ st=cU P call ops ⟨d,.call ⟨.value (.func f),x,y⟩,T,pos,aft,g⟩ st:=aIa (by unfold Ip;simp[h])
theorem Kl (f:Nat) (x:Array Operand) (y:Array Nat) (h:Ext.inl f d=true):fZ P true call inl ops ⟨d,.call ⟨.value (.func f),x,y⟩,T,pos,aft,none⟩ st=cT (inl f (x.toList.map st.ev) st) fun r=>some ((st.back r.2).put d r.1):=aD4 h
theorem aLS (S a:Nat):iK ⟨d,.load S (.tmp a),T,pos,aft,none⟩=some [a]:=rfl
theorem aIk (S a:Nat) (x:Operand):iK ⟨d,.store S (.tmp a) x,T,pos,aft,none⟩=some [a]:=rfl
theorem aIl (S a:Nat) (x:Operand):iK ⟨d,.indexAddr S (.tmp a) x,T,pos,aft,none⟩=some [a]:=rfl
theorem aIm (S a:Nat) (x y z:Option Operand):iK ⟨d,.slice S (.tmp a) x y z,T,pos,aft,none⟩=some [a]:=rfl
theorem aQv (a:Nat) (y:Array Nat):iK ⟨d,.call ⟨.builtin .len,#[.tmp a],y⟩,T,pos,aft,none⟩=some [a]:=rfl
theorem aD8 (a b:Nat) (y:Array Nat):iK ⟨d,.call ⟨.builtin .append,#[.tmp a,.tmp b],y⟩,T,pos,aft,none⟩=some [a,b]:=rfl
theorem aIn (f a:Nat) (b:Operand) (y:Array Nat) (h:Ext.mv f=true):iK ⟨d,.call ⟨.value (.func f),#[.tmp a,b],y⟩,T,pos,aft,none⟩=some [a]:=by simp[iK,h]
end
end Go.Ab
end
