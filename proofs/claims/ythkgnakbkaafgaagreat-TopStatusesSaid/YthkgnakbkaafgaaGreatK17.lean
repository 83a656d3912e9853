/-
  Part 17 of the proof: an evaluator of programs, its soundness, and what functions of this program compute.
-/
import Derived.Test.YthkgnakbkaafgaaGreatK16
import Derived.Test.YthkgnakbkaafgaaGreatK15
import Derived.Test.YthkgnakbkaafgaaGreatK11
import Derived.Test.YthkgnakbkaafgaaGreatK13
import Derived.Test.YthkgnakbkaafgaaGreatK5
import Derived.Test.YthkgnakbkaafgaaGreatK14
set_option linter.all false
set_option maxRecDepth 20000
set_option maxHeartbeats 40000000
open Go.IntKind (i64 u64)
open List Go.Proofs.Tryz
noncomputable section
section
namespace Go.Ab
open Classical
variable {k:Nat} {p:AV × AV->Prop}
def ch (P:Program) (k:Nat) (z:AV) (e:Option mH) (x:AV) (ok:Bool):Option AV :=
 match e with
 | some (.map es) =>
   if oO P k x x/\∀p∈es,oO P k x p.1 then
    match KN es x with
    | some v=>some (if ok=true then .cY [v,ae true] else v)
    | none=>some (if ok=true then .cY [z,ae false] else z)
   else none
 | _=>none
def ia (P:Program) (k:Nat) (e:Option mH) (x y:AV):Option mH :=
 match e with
 | some (.map es)=>if (oO P k x x/\∀p∈es,oO P k x p.1)/\y.lL=true then some (.map (Zz es x y)) else none
 | _=>none
def aGA {P:Program} {st:St} {T:Nat} {z:AV} (hi:Da P T=some (k,z)) (s g:Nat) (x:AV) (ok:Bool):Io P st T (.mp s g) x ok=ch P k z (st.heap s g) x ok:=by
 simp only[Io,hi,ch];cases st.heap s g with
 | none=>rfl
 | some e=>cases e<;>rfl
def aGB {P:Program} {st:St} {T:Nat} {z:AV} (hi:Da P T=some (k,z)) (s g:Nat) (x y:AV):qD P st T (.mp s g) x y=cT (ia P k (st.heap s g) x y) fun e=>some (s,g,e):=by
 simp only[qD,hi,ia];cases st.heap s g with
 | none=>rfl
 | some e =>
   cases e with
   | map es =>
     simp only
     split<;>rfl
   | _=>rfl
def GC {p:AV × AV->Prop} {x y:AV} (N:p (x,y)):∀es:List (AV × AV),(∀e∈es,p e)->∀e∈Zz es x y,p e
 | [],_,e,he=>by rw[mem_singleton.1 he];exact N
 | a :: r,h,e,he=>by
   unfold Zz at he;split at he
   ·rcases mem_cons.1 he with rfl|he
    ·exact N
    ·exact h e (mem_cons_of_mem _ he)
   ·rcases mem_cons.1 he with rfl|he
    ·exact h _ (mem_cons_self ..)
    ·exact GC N r (fun e he=>h e (mem_cons_of_mem _ he)) e he
def GD {p:AV × AV->Prop} {x v:AV}:∀es:List (AV × AV),(∀e∈es,p e)->KN es x=some v->p (x,v)
 | [],_,h=>by cases h
 | a :: r,h,he=>by
   unfold KN at he;split at he
   ·rename_i e;cases he
    rw[<- e];exact h a (mem_cons_self ..)
   ·exact GD r (fun e he=>h e (mem_cons_of_mem _ he)) he
section
variable {P:Program} {call:Nat->List AV->Option AV} {inl:Nat->List AV->St->Option (AV × St)} {ops:Array Oper} {st:St} {d:Option Nat} {T:Nat} {pos:String} {aft:Array Edge} {g:Option (Nat × Bool)} [Ext]
theorem aGC (S:Nat):fZ P true call inl ops ⟨d,.makeMap S none,T,pos,aft,g⟩ st=cU P call ops ⟨d,.makeMap S none,T,pos,aft,g⟩ st:=rfl
theorem Nc (S:Nat) (x y:Operand) (b:Bool):fZ P true call inl ops ⟨d,.lookup S x y b,T,pos,aft,g⟩ st=cU P call ops ⟨d,.lookup S x y b,T,pos,aft,g⟩ st:=rfl
theorem aBB (S:Nat) (x y z:Operand):fZ P true call inl ops ⟨d,.mapUpdate S x y z,T,pos,aft,g⟩ st=cU P call ops ⟨d,.mapUpdate S x y z,T,pos,aft,g⟩ st:=rfl
end
end Go.Ab
namespace Go.Ab.Tryz
open Classical Go.Proofs Go.Ab
variable {es:List (AV × AV)} {n:Int}
def aND:Da prog 269=some (3,ae false):=WP
def aNE:Da prog 311=some (29,aa 0):=WP
def aBC (a b:Int):oO prog 3 (aa a) (aa b):=by
 have h:fG prog 20 3=some [true]:=WP
 have h2:dV prog 3=false:=WP
 unfold oO;rw[h];exact⟨Hs .i64 [a] [b] rfl,(fun S=>by rw[h2] at S;cases S),fun _=>⟨⟨_,rfl⟩,_,rfl⟩⟩
def aBD (a b:bU):oO prog 29 (.agg (aW a)) (.agg (aW b)):=by
 have h:fG prog 20 29=some Kx:=WP
 have h2:dV prog 29=true:=WP
 unfold oO;rw[h];exact⟨oY a b,fun _=>⟨⟨_,rfl⟩,_,rfl⟩,fun S=>by rw[h2] at S;cases S⟩
def Tp (st:St) (s g:Nat) (x:AV) (ok:Bool):Io prog st 269 (.mp s g) x ok=ch prog 3 (ae false) (st.heap s g) x ok:=aGA aND s g x ok
def aKD (st:St) (s g:Nat) (x y:AV):qD prog st 269 (.mp s g) x y=cT (ia prog 3 (st.heap s g) x y) fun e=>some (s,g,e):=aGB aND s g x y
def CJ (st:St) (s g:Nat) (x:AV) (ok:Bool):Io prog st 311 (.mp s g) x ok=ch prog 29 (aa 0) (st.heap s g) x ok:=aGA aNE s g x ok
def aKE (st:St) (s g:Nat) (x y:AV):qD prog st 311 (.mp s g) x y=cT (ia prog 29 (st.heap s g) x y) fun e=>some (s,g,e):=aGB aNE s g x y
def MI (es:List (AV × AV)):Prop:=∀p∈es,(∃i:Int,p.1=aa i)/\p.2=ae true
def MR (n:Int) (es:List (AV × AV)):Prop:=∀p∈es,(∃r:bU,p.1=.agg (aW r))/\∃k:Int,p.2=aa k/\0<=k/\k<n
def MI.set (h:MI es) (x:Int):ia prog 3 (some (.map es)) (aa x) (ae true)=some (.map (Zz es (aa x) (ae true)))/\MI (Zz es (aa x) (ae true)) :=
 ⟨if_pos ⟨⟨aBC x x,fun p hp=>QbY⟩,rfl⟩,GC ⟨⟨x,rfl⟩,rfl⟩ es h⟩
def MI.look (h:MI es) (x:Int):∃b:Bool,ch prog 3 (ae false) (some (.map es)) (aa x) false=some (ae b):=by
 have R:oO prog 3 (aa x) (aa x)/\∀p∈es,oO prog 3 (aa x) p.1:=⟨aBC x x,fun p hp=>QbY⟩
 simp only[ch];rw[if_pos R];cases e:KN es (aa x) with
 | none=>exact⟨false,rfl⟩
 | some v=>exact⟨true,by rw[show v=_ from (GD es h e).2];rfl⟩
def MR.set (h:MR n es) (r:bU) (k:Int) (R:0<=k/\k<n):ia prog 29 (some (.map es)) (.agg (aW r)) (aa k)=some (.map (Zz es (.agg (aW r)) (aa k)))/\MR n (Zz es (.agg (aW r)) (aa k)) :=
 ⟨if_pos ⟨⟨aBD r r,fun p hp=>QbX⟩,rfl⟩,GC ⟨⟨r,rfl⟩,k,rfl,R⟩ es h⟩
def MR.look (h:MR n es) (r:bU):∃(k:Int) (b:Bool),ch prog 29 (aa 0) (some (.map es)) (.agg (aW r)) true=some (.cY [aa k,ae b])/\(b=true->0<=k/\k<n):=by
 have R:oO prog 29 (.agg (aW r)) (.agg (aW r))/\∀p∈es,oO prog 29 (.agg (aW r)) p.1:=⟨aBD r r,fun p hp=>QbX⟩
 simp only[ch];rw[if_pos R];cases e:KN es (.agg (aW r)) with
 | none=>exact⟨0,false,rfl,fun h=>wu⟩
 | some v =>
   obtain⟨k,C,R⟩:=(GD es h e).2
   exact⟨k,true,by rw[show v=_ from C];rfl,fun _=>R⟩
def sm:aP 0 2 1/\aP 1 2 6/\aP 2 4 7/\aP 3 1 11/\aP 4 3 12/\aP 5 3 14/\aP 6 2 16/\aP 7 2 17:=⟨rfl,rfl,rfl,rfl,rfl,rfl,rfl,rfl⟩
def aGD (t:uV) (hl:Flat t.cJ) (Q:Option (List Int)) (C:t.dM=ov aH Q) (nQ:bg (ol Q).length) (p:St):∃X st',oX prog 298 [az t] p=some (X,st')/\∃es,X=.mp 6 (p.aJ 6)/\st'.heap 6 (p.aJ 6)=some (.map es)/\MI es/\(∀y h,h<p.aJ y->st'.heap y h=p.heap y h)/\∀y,p.aJ y<=st'.aJ y:=by
 suffices h:∃r:AV × St,oX prog 298 [az t] p=some r/\∃es,r.1=.mp 6 (p.aJ 6)/\r.2.heap 6 (p.aJ 6)=some (.map es)/\MI es/\(∀y h,h<p.aJ y->r.2.heap y h=p.heap y h)/\∀y,p.aJ y<=r.2.aJ y by
  obtain⟨⟨X,st'⟩,J,h2⟩:=h
  exact⟨X,st',J,h2⟩
 rw[Aj prog func298 rfl WP _ _ rfl]
 simp only[ZG,seval,sm,C,aGC];refine jV (fun m st=>∃(k:Nat) (es:List (AV × AV)),(st.env 3=.mp 6 (p.aJ 6)/\st.env 8=ov aH Q/\st.env 9=aa ((ol Q).length)/\st.env 10=aa k)/\st.heap 6 (p.aJ 6)=some (.map es)/\MI es/\(∀y h,h<p.aJ y->st.heap y h=p.heap y h)/\(∀y,p.aJ y<=st.aJ y)/\k<=(ol Q).length/\m=(ol Q).length-k)
  (fun e st=>e=.exit 0/\∃es:List (AV × AV),st.env 3=.mp 6 (p.aJ 6)/\st.heap 6 (p.aJ 6)=some (.map es)/\MI es/\(∀y h,h<p.aJ y->st.heap y h=p.heap y h)/\∀y,p.aJ y<=st.aJ y) (ol Q).length ?step ?start ?rest
 case step =>
  rintro m st ⟨k,es,D,u,M,hF,hN,hk,hm⟩
  by_cases A:(k:Int)<(ol Q).length
  ·have q0:(0:Int)<=k:=WF
   have hw:=wk (k:=k) WF
   obtain⟨x,N⟩:∃x,gx (0:Int) (ol Q) (k:Int)=x:=⟨_,rfl⟩
   obtain⟨J,h2⟩:=M.set x
   apply Ka ((ol Q).length-(k+1))
   ·simp only[ZG,seval,sm,D,u,A,q0,N,Nc,aBB,Ht,aKD,J,hw];rfl
   ·exact⟨k+1,_,qd,Wl,h2,fun y h Y=>by have:¬(y=6/\h=p.aJ 6):=qr;simp only[E8,seval,this,if_false];exact hF y h Y,fun y=>by simpa only[E8,seval] using hN y,WF,rfl⟩
  ·apply BW (.exit 0)
   ·simp only[ZG,seval,sm,D,A];rfl
   ·exact⟨rfl,es,XC,Qbk,M,by simpa only[E8,seval] using hF,zh⟩
 case start =>
  refine⟨0,[],by simp only[E8,seval,bV,aN,aV]<;>and_intros<;>rfl,by simp only[E8,seval,bV,aN,aV]<;>rfl,nofun,fun y h Y=>?_,fun y=>?_,WF,WF⟩
  ·have G:¬(y=6/\h=p.aJ 6):=qr
   have n2:¬(y=1/\h=p.aJ 1):=qr
   simp only[E8,seval,aN,aV,G,n2,if_false]
  ·simp only[E8,seval,aV];split<;>(try split)<;>(try subst_vars)<;>omega
 case rest =>
  rintro e st ⟨rfl,es,S,u,M,hF,hN⟩
  simp only[ZG,seval,sm,S];exact⟨_,FV (.inl rfl) rfl (x:=.mp 6 (p.aJ 6)) (by rw[pF];simp only[bC,E8,seval,S,aV]),es,rfl,Qbk,M,by simpa only[E8,seval] using hF,zh⟩
end Go.Ab.Tryz
end
namespace Go.Ab.Tryz
open Classical Go.Proofs Go.Ab
variable {call:Nat->List AV->Option AV} {inl:Nat->List AV->St->Option (AV × St)} {ops:Array Oper} {st:St} {T g k:Nat} {pos:String} {aft:Array Edge} {s:aF} {v:SV} {q n i:Int} {m:List Bool} {t:State} {Q R:Option (List Request)}
def Ix:aP 0 3 3/\aP 1 2 17/\aP 2 4 18/\aP 3 1 22/\aP 4 6 23/\aP 5 3 26/\aP 6 6 29/\aP 7 2 34/\aP 8 3 35/\aP 9 5 37/\aP 10 3 41/\aP 11 1 44/\aP 12 5 45/\aP 13 7 48/\aP 14 8 53/\aP 15 9 62/\aP 16 1 68/\aP 17 8 69/\aP 18 2 76/\aP 19 2 77:=⟨rfl,rfl,rfl,rfl,rfl,rfl,rfl,rfl,rfl,rfl,rfl,rfl,rfl,rfl,rfl,rfl,rfl,rfl,rfl,rfl⟩
def p9:aP 0 2 2/\aP 1 3 9/\aP 2 1 6/\aP 3 3 11/\aP 4 1 14/\aP 5 5 15/\aP 6 4 18/\aP 7 4 22/\aP 8 2 25/\aP 9 2 26:=⟨rfl,rfl,rfl,rfl,rfl,rfl,rfl,rfl,rfl,rfl⟩
def aNF (d:Option Nat) (x:Array Operand) (y:Array Nat) :
 fZ prog true call inl ops ⟨d,.call ⟨.value (.func 298),x,y⟩,T,pos,aft,none⟩ st=cT (inl 298 (x.toList.map st.ev) st) fun r=>some ((st.back r.2).put d r.1):=Kl 298 x y (Bs (by simp[o8]))
def a4p (o:Option (List Int)) (ho:bg (ol o).length):∃r,aA prog 239 [az wC,ov bD o]=some r/\∃a:Int,r=ac a/\Rg a:=by
 rw[Af prog func239 rfl WP WP _ (cF _ _) wa]
 simp only[ZG,seval,p9,aNF];refine tW (fun st X st'=>∃es,X=.mp 6 (st.aJ 6)/\st'.heap 6 (st.aJ 6)=some (.map es)/\MI es/\(∀y h,h<st.aJ y->st'.heap y h=st.heap y h)/\∀y,st.aJ y<=st'.aJ y) (aGD wC (.v _) none rfl zc _) ?rest
 rintro X XI ⟨es,rfl,C,M,_,_⟩
 simp only[ZG,seval,p9,bV,aN,aV];refine jV (fun m st=>∃(k:Nat) (a:Int),(st.env 5=.mp 6 0/\st.heap 6 0=some (.map es)/\st.env 11=ov bD o/\st.env 12=aa ((ol o).length)/\st.env 13=aa k/\st.env 6=ac a)/\Rg a/\k<=(ol o).length/\m=(ol o).length-k)
  (fun e st=>e=.exit 0/\∃a:Int,st.env 6=ac a/\Rg a) (ol o).length ?step ?start ?Bq
 case step =>
  rintro m st ⟨k,a,D,Y,hk,hm⟩
  by_cases A:(k:Int)<(ol o).length
  ·obtain ⟨q0,hw⟩ := yY k
   obtain⟨b,hb⟩:=M.look (k:Int)
   cases b
   all_goals
    apply Ka ((ol o).length-(k+1))
    ·simp only[ZG,seval,p9,D,A,q0,Nc,Bd,Tp,hb,hw];rfl
    ·exact⟨k+1,_,qd,by simp only[Y,jF],WF,rfl⟩
  ·apply BW (.exit 0)
   ·simp only[ZG,seval,p9,D,A];rfl
   ·exact⟨rfl,a,XC,Y⟩
 case start=>exact⟨0,0,by simp only[E8,seval,bV,aN,aV]<;>and_intros<;>first|rfl|exact C,S4,WF,WF⟩
 case Bq =>
  rintro e st ⟨rfl,a,h,Y⟩
  simp only[ZG,seval,p9,h];exact⟨_,bE rfl qm XG,_,rfl,Y⟩
def mkU (n:Nat):((List.range n).flatMap fun _=>[AV.v (.int .u64 0)])=bD (List.replicate n 0):=by
 induction n with
 | zero=>rfl
 | succ n S=>rw[range_succ,flatMap_append,S,replicate_succ',bD,bD,flatMap_append];simp[qY]
def a4q (ns:List Node) (hn:bg ns.length) (h0:0<ns.length) (t:uV) (L:List lO) (Q:Option (List Int)) (hL:t.cJ=ov dF (some L)) (hQ:t.dM=ov aH Q) (nL:bg L.length) (nQ:bg (ol Q).length)
 (B:Option (List Int)) (nB:(ol B).length<=L.length) :
 ∃x,aA prog 237 [ak ⟨ns⟩,az t,ov bD B]=some x/\∃m:List Int,x=.uniq 23 1 m.length (bD m)/\m.length=ns.length:=by
 rw[Af prog func237 rfl WP WP _ (cF _ _) (by cases B<;>rfl)]
 simp only[ZG,seval,Ix,aGC,GF];refine jV (fun m st=>∃(k:Nat) (es:List (AV × AV)),(st.env 3=.ptr 3 0 0/\st.heap 3 0=some (.cells (bN ⟨ns⟩))/\st.env 4=.ptr 4 0 0/\st.heap 4 0=some (.cells (dQ t))/\st.env 2=ov bD B/\st.env 7=.mp 17 0/\st.heap 17 0=some (.map es)/\st.env 19=.sl ns.length (bS ns)/\st.env 20=aa ns.length/\st.env 21=aa k)/\MR ns.length es/\(1<=st.aJ 3/\1<=st.aJ 4/\1<=st.aJ 17/\st.aJ 40=0)/\k<=ns.length/\m=ns.length-k)
  (fun e st=>e=.exit 0/\∃es:List (AV × AV),(st.env 3=.ptr 3 0 0/\st.heap 3 0=some (.cells (bN ⟨ns⟩))/\st.env 4=.ptr 4 0 0/\st.heap 4 0=some (.cells (dQ t))/\st.env 2=ov bD B/\st.env 7=.mp 17 0/\st.heap 17 0=some (.map es))/\MR ns.length es/\1<=st.aJ 3/\1<=st.aJ 4/\1<=st.aJ 17/\st.aJ 40=0) ns.length ?step ?start ?rest
 case step =>
  rintro m st ⟨k,es,D,M,hN,R,hm⟩
  by_cases A:(k:Int)<ns.length
  ·have q0:(0:Int)<=k:=WF
   have hw:=wk (k:=k) WF
   by_cases g1:(nd ns k).status=2
   ·apply Ka (ns.length-(k+1))
    ·simp only[ZG,seval,Ix,D,A,q0,bt g1,hw];rfl
    ·exact⟨k+1,es,qd,M,zh,WF,rfl⟩
   ·obtain⟨J,h2⟩:=M.set (nd ns k).block.root k ⟨q0,A⟩
    apply Ka (ns.length-(k+1))
    ·simp only[ZG,seval,Ix,D,A,q0,bf g1,aBB,Ht,aKE,J,hw];rfl
    ·exact⟨k+1,_,qd,h2,zh,WF,rfl⟩
  ·apply BW (.exit 0)
   ·simp only[ZG,seval,Ix,D,A];rfl
   ·exact⟨rfl,es,qd,M,zh⟩
 case start=>exact⟨0,[],wx,nofun,by simp only[E8,seval]<;>and_intros<;>first|rfl|omega,WF,WF⟩
 case rest =>
  rintro e st ⟨rfl,es,D,M,hN⟩
  simp only[ZG,seval,Ix,D,aNF,Int.natCast_nonneg,and_self,if_true];refine tW (fun st X st'=>∃es,X=.mp 6 (st.aJ 6)/\st'.heap 6 (st.aJ 6)=some (.map es)/\MI es/\(∀y h,h<st.aJ y->st'.heap y h=st.heap y h)/\∀y,st.aJ y<=st'.aJ y) (aGD t (by rw[hL];exact uW _) Q hQ nQ _) ?Bq
  rintro X r ⟨es2,rfl,hh1,hE2,u,hN2⟩
  have e3:r.heap 3 0=some (.cells (bN ⟨ns⟩)):=(u 3 0 QbP).trans XC
  have G:r.heap 4 0=some (.cells (dQ t)):=(u 4 0 QbP).trans XC
  have e17:r.heap 17 0=some (.map es):=(u 17 0 QbP).trans XC
  simp only[E8,seval] at hh1;obtain⟨g6,hg6⟩:∃g6,st.aJ 6=g6:=⟨_,rfl⟩
  obtain⟨g40,hg40⟩:∃g40,r.aJ 40=g40:=⟨_,rfl⟩
  rw[hg6] at hh1;have f1:((ns.length:Nat):Int) * 8<=140737488355328/\((ns.length:Nat):Int)<=(maxLen:Nat):=xm
  simp only[ZG,seval,Ix,D,e3,bV,aN,aV,Int.natCast_nonneg,f1,hg6,hg40,Int.toNat_natCast,map_cons,map_nil,mkU];refine jV (fun m st=>∃(k:Nat) (l:List Int),(st.env 4=.ptr 4 0 0/\st.heap 4 0=some (.cells (dQ t))/\st.env 7=.mp 17 0/\st.heap 17 0=some (.map es)/\st.env 10=.mp 6 g6/\st.heap 6 g6=some (.map es2)/\st.env 11=.own 40 g40/\st.heap 40 g40=some (.row 23 1 l.length (bD l))/\st.env 41=ov bD B/\st.env 42=aa ((ol B).length)/\st.env 43=aa k)/\l.length=ns.length/\k<=(ol B).length/\m=(ol B).length-k)
   (fun e st=>e=.exit 2/\∃l:List Int,st.env 11=.own 40 g40/\st.heap 40 g40=some (.row 23 1 l.length (bD l))/\l.length=ns.length) (ol B).length ?aGE ?V0 ?aGF
  case aGE =>
   rintro m st ⟨k,l,p,W,R,hm⟩
   by_cases A:(k:Int)<(ol B).length
   ·have q0:(0:Int)<=k:=WF
    have q1:(k:Int)<L.length:=WF
    have hw:=wk (k:=k) WF
    have hL':t.cJ=.sl L.length (dF L):=hL
    obtain⟨x,N⟩:∃x,gx nP L (k:Int)=x:=⟨_,rfl⟩
    obtain⟨b2,h2⟩:=hE2.look (k:Int)
    obtain⟨i,b3,S,hi⟩:=M.look x.root
    cases g1:x.has
    ·apply Ka ((ol B).length-(k+1))
     ·simp only[ZG,seval,Ix,p,A,q0,q1,hL',N,g1,Nc,Bd,Tp,CJ,h2,S,hw];rfl
     ·exact⟨k+1,l,uw,W,WF,rfl⟩
    cases b2
    case true =>
     apply Ka ((ol B).length-(k+1))
     ·simp only[ZG,seval,Ix,p,A,q0,q1,hL',N,g1,Nc,Bd,Tp,CJ,h2,S,hw];rfl
     ·exact⟨k+1,l,uw,W,WF,rfl⟩
    cases b3
    case false =>
     apply Ka ((ol B).length-(k+1))
     ·simp only[ZG,seval,Ix,p,A,q0,q1,hL',N,g1,Nc,Bd,Tp,CJ,h2,S,bW,hw];rfl
     ·exact⟨k+1,l,uw,W,WF,rfl⟩
    obtain⟨i0,i1⟩:=hi rfl
    have i2:i<(l.length:Int):=WF
    have Co:=fun x=>U9 l i x WF
    have hle:i.toNat+1<=l.length:=WF
    have Y:=Fq i0 i2
    have ld:=Wi (T:=23) (n:=l.length) (k:=1) i0 i2 AG ZB ZB
    rw[Nat.mul_one] at ld;apply Ka ((ol B).length-(k+1))
    ·simp only[ZG,seval,Ix,p,A,q0,q1,hL',N,g1,Nc,Bd,Tp,CJ,h2,S,bW,hw,i0,i2,Co,hle,Y,ld,Nat.mul_one];rfl
    ·exact⟨k+1,l.set i.toNat (u64.wrap (gx (0:Int) l i+gx (0:Int) (ol B) (k:Int))),by simp only[E8,seval,p,length_set]<;>and_intros<;>rfl,by rw[length_set];exact W,WF,rfl⟩
   ·apply BW (.exit 2)
    ·simp only[ZG,seval,Ix,p,A];rfl
    ·exact⟨rfl,l,xy,xy,W⟩
  case V0=>exact⟨0,List.replicate ns.length 0,by simp only[E8,seval,D,bV,aN,aV,G,e17,hh1,hg40,length_replicate]<;>and_intros<;>rfl,length_replicate,WF,WF⟩
  case aGF =>
   rintro e st ⟨rfl,l,C,Ea,W⟩
   simp only[ZG,seval,Ix,C];exact⟨_,oH rfl wh Qbo (fB _),l,rfl,W⟩
def a4r (st:St) (d:Option Nat):aO (aA prog) 340 [ac 100] st d=some { dst:=d,val:=aa 57}:=kx (Fz prog rfl) (bZ (.v _)) (.v _) st d
def Wu {O:Int} (h:Rg O):0<=u64.wrap (O-u64.wrap (u64.wrap (O.tdiv 3355443200) * 3355443200))/\u64.wrap (O-u64.wrap (u64.wrap (O.tdiv 3355443200) * 3355443200))<4294967296:=by
 obtain⟨h0,h1⟩:=h
 rw[Int.tdiv_eq_ediv_of_nonneg h0];have l:=Int.ediv_nonneg h0 (show (0:Int)<=3355443200 from WF)
 have a2:=Int.emod_nonneg O (show (3355443200:Int)≠0 from WF)
 have a3:=Int.emod_lt_of_pos O (show (0:Int)<3355443200 from WF)
 have a4:=Int.mul_ediv_add_emod O 3355443200
 rw[zC _ l WF,zC (O / 3355443200 * 3355443200) WF WF,zC _ WF WF]
 omega
def so (st:St):Prop:=∃Y Z A B C:Int,st.env 2=ac Y/\st.env 8=ac 57/\st.env 9=ac 3355443200/\st.env 10=ac Z/\st.env 11=ac A/\st.env 13=ac B/\st.env 14=ac C
def a4s (hi lo:Int) (h:0<=hi/\hi<100):∃r,aA prog 300 [ac hi,ac lo,ac 100]=some r/\∃a b:Int,r=.cY [ac a,ac b]:=by
 rw[dJ prog func300 rfl WP _ (cF _ _) rfl]
 have g1:¬(100:Int)<=hi:=WF
 by_cases g2:hi=0
 ·subst g2;simp only[Z8,seval];exact⟨_,bT rfl rfl rfl Wl Wl,_,_,rfl⟩
 have w57:u64.wrap 57=57:=ZB
 have l:u64.wrap 7=7:=ZB
 have X:(u64.wrap (100 * 2 ^ min 57 u64.bits)).fdiv (2 ^ min 32 u64.bits)=3355443200:=ZB
 obtain⟨O,hO,rO⟩:∃O:Int->Int->Int,(∀a b,jS prog .or 23 (ac a) (ac b)=some (ac (O a b)))/\∀a b,Rg (O a b):=⟨fun a b=>u64.wrap (BitVec.ofInt u64.bits a ||| BitVec.ofInt u64.bits b).toNat,fun _ _=>rfl,fun _ _=>(jF _)⟩
 have S:∀a:Int,jS prog .quo 23 (ac a) (ac 3355443200)=some (ac (u64.wrap (a.tdiv 3355443200))):=fun a=>by
  show (if u64=u64/\(3355443200:Int)≠0 then some (AV.v (.int .u64 (u64.wrap (a.tdiv 3355443200)))) else none)=_
  exact if_pos ⟨rfl,WF⟩
 simp only[Z8,seval,g1,bf g2,a4r,w57,l,Int.reduceSub,X,hO,S];refine bP (fun m st=>∃q r:Int,so st/\st.env 15=ac q/\st.env 16=ac r/\0<=r/\r<4294967296/\(4294967296-r).toNat<=m)
  (fun e st=>e=.exit 0/\∃q:Int,so st/\st.env 15=ac q) 4294967296 ?step ?start ?rest
 case step =>
  rintro m st ⟨q,r,⟨Y,Z,A,B,C,D⟩,M,W,r0,G,hm⟩
  have u:u64.wrap (r+3355443200)=r+3355443200:=zC _ WF WF
  by_cases c1:4294967296<=q
  ·by_cases c3:4294967296<=r+3355443200
   ·apply oT (.exit 0)
    ·simp only[Z8,seval,D,M,W,u,c1,c3];rfl
    ·exact⟨rfl,_,⟨Y,Z,A,B,C,qd⟩,Wl⟩
   ·apply oN ((4294967296-(r+3355443200)).toNat)
    ·simp only[Z8,seval,D,M,W,u,c1,c3];rfl
    ·exact⟨_,r+3355443200,⟨Y,Z,A,B,C,qd⟩,Wl,xr,WF,WF,Nat.le_refl _⟩
  by_cases c2:u64.wrap (u64.wrap (4294967296 * r)+B)<u64.wrap (q * Z)
  ·by_cases c3:4294967296<=r+3355443200
   ·apply oT (.exit 0)
    ·simp only[Z8,seval,D,M,W,u,c1,c2,c3];rfl
    ·exact⟨rfl,_,⟨Y,Z,A,B,C,qd⟩,Wl⟩
   ·apply oN ((4294967296-(r+3355443200)).toNat)
    ·simp only[Z8,seval,D,M,W,u,c1,c2,c3];rfl
    ·exact⟨_,r+3355443200,⟨Y,Z,A,B,C,qd⟩,Wl,xr,WF,WF,Nat.le_refl _⟩
  ·apply oT (.exit 0)
   ·simp only[Z8,seval,D,M,W,c1,c2];rfl
   ·exact⟨rfl,_,⟨Y,Z,A,B,C,qd⟩,by simp only[E8,seval,M]<;>rfl⟩
 case start=>exact⟨_,_,⟨_,_,_,_,_,wx⟩,Wl,Wl,(Wu (rO _ _)).1,(Wu (rO _ _)).2,by have:=(Wu (rO (u64.wrap (hi * 2 ^ min 57 u64.bits)) (lo.fdiv (2 ^ min 7 u64.bits)))).1;omega⟩
 case rest =>
  rintro e st ⟨rfl,q,⟨Y,Z,A,B,C,D⟩,M⟩
  simp only[Z8,seval,D,M,S];obtain⟨U,hU,rU⟩:∃U,u64.wrap (u64.wrap (u64.wrap (A * 4294967296)+B)-u64.wrap (q * Y))=U/\Rg U:=⟨_,rfl,jF _⟩
  simp only[hU];refine bP (fun m st=>∃N r:Int,so st/\st.env 15=ac q/\st.env 17=ac U/\st.env 18=ac N/\st.env 16=ac r/\0<=r/\r<4294967296/\(4294967296-r).toNat<=m)
   (fun e st=>e=.exit 2/\∃N:Int,so st/\st.env 15=ac q/\st.env 17=ac U/\st.env 18=ac N) 4294967296 ?Su ?Hg ?Bq
  case Su =>
   rintro m st ⟨N,r,⟨Y,Z,A,B,C,D⟩,M,J,R,W,r0,G,hm⟩
   have u:u64.wrap (r+3355443200)=r+3355443200:=zC _ WF WF
   by_cases c1:4294967296<=N
   ·by_cases c3:4294967296<=r+3355443200
    ·apply oT (.exit 2)
     ·simp only[Z8,seval,D,M,W,J,R,u,c1,c3];rfl
     ·exact⟨rfl,_,⟨Y,Z,A,B,C,qd⟩,yt,v6,Wl⟩
    ·apply oN ((4294967296-(r+3355443200)).toNat)
     ·simp only[Z8,seval,D,M,W,J,R,u,c1,c3];rfl
     ·exact⟨_,r+3355443200,⟨Y,Z,A,B,C,qd⟩,yt,v6,Wl,xr,WF,WF,Nat.le_refl _⟩
   by_cases c2:u64.wrap (u64.wrap (4294967296 * r)+C)<u64.wrap (N * Z)
   ·by_cases c3:4294967296<=r+3355443200
    ·apply oT (.exit 2)
     ·simp only[Z8,seval,D,M,W,J,R,u,c1,c2,c3];rfl
     ·exact⟨rfl,_,⟨Y,Z,A,B,C,qd⟩,yt,v6,Wl⟩
    ·apply oN ((4294967296-(r+3355443200)).toNat)
     ·simp only[Z8,seval,D,M,W,J,R,u,c1,c2,c3];rfl
     ·exact⟨_,r+3355443200,⟨Y,Z,A,B,C,qd⟩,yt,v6,Wl,xr,WF,WF,Nat.le_refl _⟩
   ·apply oT (.exit 2)
    ·simp only[Z8,seval,D,M,W,J,R,c1,c2];rfl
    ·exact⟨rfl,_,⟨Y,Z,A,B,C,qd⟩,yt,v6,xz⟩
  case Hg=>exact⟨_,_,⟨Y,Z,A,B,C,qd⟩,yt,Wl,Wl,Wl,(Wu rU).1,(Wu rU).2,by have:=(Wu rU).1;omega⟩
  case Bq =>
   rintro e st ⟨rfl,N,⟨Y,Z,A,B,C,p⟩,M,J,R⟩
   have n57:¬(57:Int)<0:=WF
   simp only[Z8,seval,p,M,J,R];exact⟨_,bT rfl rfl rfl mi mi,_,_,rfl⟩
def a4t (c:Config) (hc:Flat c.fL) (hp:1<=c.iH/\c.iH<=64) (x:Int) (N:Rg x) (hb:0<=c.pO):∃r,aA prog 238 [aq c,ac x]=some r/\∃a e:Int,r=.cY [ac a,aa e]:=by
 have g1:¬c.iH<1:=WF
 have g2:¬64<c.iH:=WF
 have g3:¬c.iH=0:=WF
 rw[dJ prog func238 rfl WP _ (cF _ _) rfl]
 by_cases g4:100<c.pO
 ·simp only[Z8,seval,g1,g2,g4];exact⟨_,bT rfl rfl rfl Wl Wl,_,_,rfl⟩
 by_cases g5:4611686018427387904<x
 ·simp only[Z8,seval,g1,g2,g4,g5];exact⟨_,bT rfl rfl rfl Wl Wl,_,_,rfl⟩
 have G:0<=x / c.iH:=Int.ediv_nonneg N.1 WF
 have y1:=Int.ediv_le_self c.iH N.1
 obtain⟨y,Y⟩:∃y,x / c.iH=y:=⟨_,rfl⟩
 have e:u64.wrap (x.tdiv c.iH)=y:=by rw[Int.tdiv_eq_ediv_of_nonneg N.1,Y,zC _ WF WF]
 rw[Y] at G y1;have M:=kx (aTR G WF hb WF) (aU (.v _) (.v _)) (.cY _ (aU (.v _) (.v _)))
 have h0:0<=y * c.pO / 18446744073709551616:=Int.ediv_nonneg (Int.mul_nonneg G hb) WF
 have J:y * c.pO / 18446744073709551616<100:=by
  have:y * c.pO<=4611686018427387904 * 100:=Int.mul_le_mul WF WF hb WF
  omega
 obtain⟨r,X,a,b,rfl⟩:=a4s _ (u64.wrap (y * c.pO)) ⟨h0,J⟩
 have A:=kx X (jC (.v _) (.v _) (.v _)) (.cY _ (aU (.v _) (.v _)))
 have S:jS prog .quo 23 (ac x) (ac c.iH)=some (ac y):=by
  show (if u64=u64/\c.iH≠0 then some (AV.v (.int .u64 (u64.wrap (x.tdiv c.iH)))) else none)=_
  rw[if_pos ⟨rfl,g3⟩,e]
 simp only[Z8,seval,g1,g2,g4,g5,S,M,bW,A];exact⟨_,bT rfl rfl rfl Wl Wl,_,_,rfl⟩
def a4u (t:Table) (ht:Flat t.fL) (s:aF):aA prog 236 [ax t,.ip (aB s) 0]=some (ae (decide (t.ck=s.aL.dX))):=by
 rw[dJ prog func236 rfl WP _ (cF _ _) rfl]
 refine eM ?_
 by_cases g:t.ck=s.aL.dX
 ·simp only[Z8,seval,g,decide_true];exact⟨_,bE rfl,rfl⟩
 ·simp only[Z8,seval,g,decide_false];exact⟨_,bE rfl,rfl⟩
def a4v (k:KI s v q) (hb:0<=s.cFg.pO):∃x,aA prog 166 [bc s]=some x/\∃m:List Int,x=.uniq 23 1 m.length (bD m)/\m.length=v.ns.length:=by
 have hs:=k.gi.sd
 have W:=hs.flat
 have p:=hs.fl
 have M:=hs.nn
 have h0:=k.gi.pos
 obtain⟨L,C,_⟩:=k.L
 have hLat:=k.gi.Wg
 have hlat:s.dI.cJ=ov dF (some L):=hs.cJ.trans wm
 have nL:bg L.length:=by have:=hs.nL;rw[C] at this;exact this
 have fv:Flat (az s.dI):=(Ez _).2 ⟨p.2.1,p.2.2.1⟩
 have fip:Flat (.ip (aB s) 0):=.ip _ _ (by cases W;assumption)
 have A:=aGg v.T hs.nT 236 [.ip (aB s) 0] (fun t=>decide (t.ck=s.aL.dX)) fun t D=>fun st d=>aX (aU (.agg _ (rT t ((hs.tB t D).elim fun B h=>by rw[h.1];exact cP B))) fip) (a4u t ((hs.tB t D).elim fun B h=>by rw[h.1];exact cP B) s) (.v _)
 obtain⟨F,hF⟩:∃F,qP (fun k=>(decide ((gx fW (ol v.T) k).ck=s.aL.dX))=true) (ol v.T).length=F:=⟨_,rfl⟩
 have rF:-1<=F/\F<(ol v.T).length:=hF ▸ DS _ _
 rw[hF] at A;have R:∀c∈aB s,Flat c:=by cases W;assumption
 have l:∀(st:St) (d:Option Nat),st.heap 1 0=some (.cells (aB s))->aO (aA prog) 235 [ov bG v.T,.rL 236 [.ptr 1 0 0]] st d=some { dst:=d,val:=aa F}:=fun st d h=>by
  rw[dZ,map_cons,map_cons,map_nil,cV (hs.tables ▸ p.2.2.2.2.2.2),kM,h,By st R,Option.map_some,aM,aM,dB];exact zP A
 have rest:∀B:Option (List Int),(ol B).length<=L.length->∃(m1:List Int) (a a2 e:Int) (m2:List Int),aA prog 237 [ak ⟨v.ns⟩,az s.dI,ov bD B]=some (.uniq 23 1 m1.length (bD m1))/\aA prog 239 [az wC,ov bD B]=some (ac a)/\aA prog 238 [aq s.cFg,ac a]=some (.cY [ac a2,aa e])/\aA prog 240 [ak ⟨v.ns⟩,.sl m1.length (bD m1),.agg (aW s.dY),ac a2]=some (.uniq 23 1 m2.length (bD m2))/\m2.length=v.ns.length:=fun B hB=>by
  obtain⟨_,J,m1,rfl,G⟩:=a4q v.ns M h0 s.dI L v.Q hlat hs.dM nL hs.nQ B hB
  obtain⟨_,h2,a,rfl,Y⟩:=a4p B WF
  obtain⟨_,S,a2,e,rfl⟩:=a4t s.cFg p.1 k.gi.iH a Y hb
  obtain⟨_,X,m2,rfl,N⟩:=a4m v.ns M h0 m1 G s.dY a2
  exact⟨m1,a,a2,e,m2,J,h2,S,X,N⟩
 have fz:Flat (az wC):=(Ez _).2 ⟨.v _,.v _⟩
 rw[dJ prog func166 rfl WP _ (cF _ _) rfl]
 by_cases g1:0<=F
 case neg =>
  obtain⟨m1,a,a2,e,m2,J,h2,S,X,N⟩:=rest none (Nat.zero_le _)
  have r:∀st:St,aO (aA prog) 237 [ak ⟨v.ns⟩,az s.dI,af] st (some 25)=_:=fun st=>gA (st:=st) (d:=25) (jC (gZ _) fv (.v _)) J
  have aPs:∀(st:St) (d:Option Nat),aO (aA prog) 239 [az wC,af] st d=_:=kx h2 (aU fz (.v _)) (.v _)
  have aPt:=kx S (aU ((mT _).2 p.1) (.v _)) (.cY _ (aU (.v _) (.v _)))
  have aPu:∀(st:St) (g:Nat),st.heap 25 g=some (.row 23 1 m1.length (bD m1))->aO (aA prog) 240 [ak ⟨v.ns⟩,.own 25 g,.agg (aW s.dY),ac a2] st (some 41)=some { dst:=some 41,val:=.own 41 (st.aJ 41),new:=some (41,[.row 23 1 m2.length (bD m2)])}:=fun st g u=>by
   rw[dZ,map_cons,map_cons,map_cons,map_cons,map_nil,vB,oB,u,zA,Az,xA,aM,aM,aM,aM,dB];exact Wj X (Fs m2)
  simp only[Z8,seval,hs.tables,l,g1,hs.tree,r,aPs,aPt,aPu,bW];exact⟨_,oH rfl Wl Wl (fB _),m2,rfl,N⟩
 obtain⟨B,hB,nB⟩:=k.es.2 _ (lB (z:=fW) g1 rF.2)
 obtain⟨m1,a,a2,e,m2,J,h2,S,X,N⟩:=rest B (by rw[nB,<- hLat,C];exact Nat.le_refl _)
 have r:∀st:St,aO (aA prog) 237 [ak ⟨v.ns⟩,az s.dI,ov bD B] st (some 25)=_:=fun st=>gA (st:=st) (d:=25) (jC (gZ _) fv (cP B)) J
 have aPs:=kx h2 (aU fz (cP B)) (.v _)
 have aPt:=kx S (aU ((mT _).2 p.1) (.v _)) (.cY _ (aU (.v _) (.v _)))
 have aPu:∀(st:St) (g:Nat),st.heap 25 g=some (.row 23 1 m1.length (bD m1))->aO (aA prog) 240 [ak ⟨v.ns⟩,.own 25 g,.agg (aW s.dY),ac a2] st (some 41)=some { dst:=some 41,val:=.own 41 (st.aJ 41),new:=some (41,[.row 23 1 m2.length (bD m2)])}:=fun st g u=>by
  rw[dZ,map_cons,map_cons,map_cons,map_cons,map_nil,vB,oB,u,zA,Az,xA,aM,aM,aM,aM,dB];exact Wj X (Fs m2)
 simp only[Z8,seval,hs.tables,l,g1,rF,hB,hs.tree,r,aPs,aPt,aPu,bW];exact⟨_,oH rfl Wl Wl (fB _),m2,rfl,N⟩
def a4w (k:KI s v q) (hb:0<=s.cFg.pO):∃x,aA prog 103 [bc s]=some x/\∃m:List Int,x=.uniq 23 1 m.length (bD m)/\m.length=v.ns.length:=by
 have hs:=k.gi.sd
 have W:=hs.flat
 obtain⟨_,J,m1,rfl,G⟩:=a4v k hb
 obtain⟨_,h2,m2,rfl,N⟩:=a4l v.ns k.gi.up hs.nn k.gi.pos m1 G
 have A:∀st:St,aO (aA prog) 166 [bc s] st (some 6)=_:=fun st=>gA (st:=st) (d:=6) (bZ W) J
 have C:∀(st:St) (g:Nat),st.heap 6 g=some (.row 23 1 m1.length (bD m1))->aO (aA prog) 165 [ak ⟨v.ns⟩,.own 6 g] st (some 7)=some { dst:=some 7,val:=.own 7 (st.aJ 7),new:=some (7,[.row 23 1 m2.length (bD m2)])}:=fun st g u=>by
  rw[dZ,map_cons,map_cons,map_nil,vB,oB,u,zA,aM,aM,dB];exact Wj h2 (Fs m2)
 rw[dJ prog func103 rfl WP _ (cF _ _) rfl]
 simp only[Z8,seval,hs.tree,A,C];exact⟨_,oH rfl Wl Wl (fB _),m2,rfl,N⟩
def a4x {S:aF} (hs:SD s v) {a d:Nat} {O:Option (List qX)} {xs:List AV} {l l' m:List Nat} (M:Flat (bc ({ S with bH:={ S.bH with early:=ov cN O }}))) (N:∀x∈xs,Flat x)
 (h:aA prog g (bc ({ S with bH:={ S.bH with early:=ov cN O }}) :: xs)=some (bc (zS s v l))) (hO:∀L,O=some L->st.heap a k=some (.row 68 67 L.length (cN L))) (e:l.filter l'.contains=m:=by rfl) :
 eH (Oo l' (aA prog)) g (bc ({ S with bH:={ S.bH with early:=rv a k O }}) :: xs) st (some d)=some { dst:=some d,val:=bc (zV s v m d (st.aJ d)),dE:=gw O a k,new:=Sl d (zR v m)}:=by
 subst e;have W:∀x∈(bc ({ S with bH:={ S.bH with early:=ov cN O }}) :: xs),Flat x:=fun x m=>(mem_cons.1 m).elim (fun e=>e ▸ M) (N x)
 cases O with
 | none=>exact (Sv W).trans (kz hs W h st d)
 | some L =>
   have fl:=(yE _).1 M
   have R:jB (bc ({ S with bH:={ S.bH with early:=rv a k (some L)} }))=[(a,k)]:=by
    show (aB (Rn S S.cFg.fL S.dI.cJ S.dI.dM (.own a k) S.bH.bL S.tree.nodes S.tables)).flatMap gP=_
    rw[qU,dP fl.1,dP fl.2.1,dP fl.2.2.1,dP fl.2.2.2.2.1,dP fl.2.2.2.2.2.1,dP fl.2.2.2.2.2.2];rfl
   have he:eE st (bc ({ S with bH:={ S.bH with early:=rv a k (some L)} }))=some (bc ({ S with bH:={ S.bH with early:=ov cN (some L)} })):=by
    rw[dC,fV];simp only[bY fl.1,bY fl.2.1,bY fl.2.2.1,bY fl.2.2.2.2.1,bY fl.2.2.2.2.2.1,bY fl.2.2.2.2.2.2,cC,jU hO fun l e=>(by cases e;have X:Flat (ov cN (some L)):=fl.2.2.2.1;cases X;assumption)]
   rw[Hi (by rw[flatMap_cons,R,Pz N];rfl) fun x m=>(mem_cons.1 m).elim (fun e=>?_) fun m=>.inl (N x m),map_cons,he,show bM (some _ :: xs.map (eE st))=some (_ :: xs) from QbV]
   ·unfold Hh;rw[cC,aGd hs l' W h,cC];unfold Dv;rw[T9 (SQ hs _ d _),CI hs];rfl
   ·subst e;exact .inr (.inr ⟨_,rfl,Kq (P:=fun c=>Flat c\/∃s k,c=.own s k) (fun _ h=>.inl (SP h)) S (.inl fl.1) (.inl fl.2.1) (.inl fl.2.2.1) (.inr ⟨a,k,rfl⟩) (.inl fl.2.2.2.2.1) (.inl fl.2.2.2.2.2.1) (.inl fl.2.2.2.2.2.2)⟩)
def a4y (n k:Int) (J:1<=k/\k<=64):aA prog 130 [ac n,ac k]=some (ae (n.tmod k == 0)):=by
 have R:¬k=0:=WF
 rw[cL func130 rfl aWS rfl];simp only[Z8,seval,pe,J,R];exact bE rfl Wl (.v _)
def a4z (n k:Int) (J:1<=k/\k<=64):KC 130 [ac n,ac k] (ae (n.tmod k == 0)):=fun _ _=>aX (aU (.v _) (.v _)) (a4y n k J) (.v _)
def aBF (hs:SD s v) {X Y:AV} (h:cO st X=some Y):Rp st (aB (nI s X))=some (aB (nI s Y)):=by
 have fl:=hs.fl
 simp_all [fV,nI,cC,bY]
def Ga (s:aF):aF:={ s with now:=s.now+1,dY:=bQ }
def KI.late (k:KI s v q) (h:s.now<1099511627776):KI (Ga s) v q :=
 have r:=k.rg
 have g:=k.gi
 have m:pY s s.now<=pY s (s.now+1):=ZJ g.iH.1 r.now.1 WF WF
 ⟨⟨⟨g.sd.fL,g.sd.cJ,g.sd.dM,g.sd.early,g.sd.bL,g.sd.tree,g.sd.tables,g.sd.eV,g.sd.tB,g.sd.nB,g.sd.nL,g.sd.nQ,g.sd.nE,g.sd.nO,g.sd.nT,g.sd.nn⟩,g.up,g.Nv,g.pos,g.nl,g.RE,g.iH,g.Wg,g.nB,g.nO,g.AH,g.nE,g.KU,g.nT,g.KV,g.nQ,g.N8,g.dX⟩,
  ⟨⟨by show 0<=s.now+1;have:=r.now.1;omega,by show s.now+1<=_;omega⟩,r.j,r.f,fun n M=>⟨(r.nd n M).1,QbQ⟩,r.or,r.rt,⟨r.fe.1,Int.le_trans r.fe.2 m⟩,r.ds,r.tb,r.ne,(r.vs.YO (n:=s.now+1) WF).dY bQ (.inl rfl)⟩,k.fL,k.es⟩
theorem KI.early {s:aF} {v:SV} {q:Int} (k:KI s v q) (E:Option (List qX)) (J:∀a∈ol E,Dh a) (h2:((ol E).length:Int)<=s.cFg.lim.mK) (S:E≠some []) (X:∀a∈ol E,∃V,a.dL=ov aH (some V)/\V≠[]) (C:∀a∈ol E,∃V,a.dL=ov aH (some V)/\vM V (ol v.B).length=0) (h6:∀a∈ol E,Rg a.slot):KI (nI s (ov cN E)) { v with E:=E } q :=
 have r:=k.rg
 ⟨k.gi.early E J h2,⟨r.now,r.j,r.f,r.nd,r.or,r.rt,r.fe,r.ds,r.tb,⟨r.ne.q,S,r.ne.t,X,r.ne.tb⟩,r.vs.early E _ C⟩,k.fL,h6,k.es.2⟩
def aWT (a b:Claim) (ha:Flat a.dL) (hb:Flat b.dL):∃x,aA prog 284 [av a,av b]=some x/\∃c:Bool,x=ae c:=by
 rw[cL func284 rfl aWU rfl];by_cases g1:a.source<b.source
 ·by_cases g2:b.target<a.target
  all_goals
   simp only[Z8,seval,g1,g2];exact⟨_,bE rfl,_,rfl⟩
 ·simp only[Z8,seval,g1];exact⟨_,bE rfl,_,rfl⟩
def a4A (a b:Claim) (Y:Flat a.dL) (hb:Flat b.dL):∃x,aA prog 211 [av a,av b]=some x/\∃c:Bool,x=ae c:=by
 obtain⟨r1,J,c1,rfl⟩:=aWT a b Y hb
 obtain⟨r2,h2,c2,rfl⟩:=aWT b a hb Y
 have k1:=kx J (aU ((pL _).2 Y) ((pL _).2 hb)) (.v _)
 have l:=kx h2 (aU ((pL _).2 hb) ((pL _).2 Y)) (.v _)
 rw[cL func211 rfl aWV rfl];by_cases g1:a.target=b.target
 ·by_cases g2:a.source=b.source
  ·by_cases g3:a.root=b.root
   all_goals
    cases c1
    all_goals
     cases c2
     all_goals
      simp only[Z8,seval,bt g1,bt g2,g3,k1,l];exact⟨_,bE rfl,_,rfl⟩
  ·cases c1
   all_goals
    cases c2
    all_goals
     simp only[Z8,seval,bt g1,bf g2,k1,l];exact⟨_,bE rfl,_,rfl⟩
 ·cases c1
  all_goals
   cases c2
   all_goals
    simp only[Z8,seval,bf g1,k1,l];exact⟨_,bE rfl,_,rfl⟩
def ko (V W:List Int):List Int:=V.filter fun x=>W.contains x
def r7 (V W:List Int):Option (List Int):=if ko V W=[] then none else some (ko V W)
def aBG (V W:List Int):ol (r7 V W)=ko V W:=by
 unfold r7;split
 ·rename_i h;rw[h];rfl
 ·rfl
def aBH (V:List Int):r9 (.sl V.length (aH V))=some V:=by
 have h:∀V:List Int,bM ((aH V).map V4)=some V:=fun V=>by
  induction V with
  | nil=>rfl
  | cons x l S =>
    show bM (some x :: (aH l).map V4)=_
    simp only[bM,S,cR]
 show (if (aH V).length=V.length then bM ((aH V).map V4) else none)=_
 rw[if_pos (by rw[Bb,Nat.mul_one]),h]
def Wv (V:List Int):aH V=V.map fun z=>aa z:=by
 induction V with
 | nil=>rfl
 | cons x l S=>show [aa x]++aH l=_;rw[S];rfl
def aWW (x:eZ) (V W:List Int) (n:Int) (hV:x.first.dL=ov aH (some V)) (hW:x.second.dL=ov aH (some W)) (nV:(V.length:Int)<99999) (nW:(W.length:Int)<99999) (J:vM V n=0) (h2:vM W n=0) (hn:n<=99999):aA prog 146 [aw x]=some (uo 3 1 aH (r7 V W)):=by
 refine Fz prog ?_
 show o0 146 _=_
 have X:=Wa J
 have p2:=Wa h2
 have G:V≠[]:=fun e=>by rw[e] at J;simp[vM] at J
 have N:W≠[]:=fun e=>by rw[e] at h2;simp[vM] at h2
 have A:(bO x)[34]?.bind r9=some V:=by rw[pM,hV];exact aBH V
 have M:(bO x)[69]?.bind r9=some W:=by rw[oQ,hW];exact aBH W
 show gh [aw x]=_
 unfold gh;simp only[A,M];rw[if_pos ⟨Ei x,G,N,X.1,fun y Y=>(mem_append.1 Y).elim (fun h=>by have:=X.2 y h;omega) fun h=>by have:=p2.2 y h;omega,WF,WF⟩]
 unfold aPv r7 ko;split
 ·rfl
 ·simp only[uo];rw[Wv]
def aGH (x:eZ) (d:Nat) (a b:Operand) (J:st.ev a=av x.first) (h2:st.ev b=av x.second) :
 cU prog call ops ⟨some d,.buildSlice 254 2 #[(0,a),(1,b)],T,pos,aft,none⟩ st=some ((st.new d (.row 70 35 2 (bO x))).put (some d) (.own d (st.aJ d))):=by
 rw[gF 254 _ _ _ KH,aGI];have R:((List.range 2).flatMap fun _=>Qg.map AV.v)=bO ⟨Ej,Ej⟩:=by
  rw[Tr];rfl
 have m:=Dp ⟨Ej,Ej⟩ x.first
 have W:=Ca { (⟨Ej,Ej⟩:eZ) with first:=x.first } x.second
 simp only[cC,aWX,toList_toArray,map_cons,map_nil,all_cons,all_nil,J,h2,AV.lL,Bool.and_self,uY,yH,AV.cells,GG,Ei,R,Nat.reduceMul,Nat.reduceAdd,Nat.reducePow,Nat.reduceLeDiff,Nat.reduceLT,true_or,true_and,and_true,and_self,if_true,↓reduceIte,m,W,Nat.zero_le,Nat.le_refl]
def a4B (x:eZ) (V W:Option (List Int)) (hV:x.first.dL=ov aH V) (hW:x.second.dL=ov aH W) (S:((ol V).length:Int)<99999) (G:((ol W).length:Int)<99999) (n:Int) (M:n<=99999) :
 ∃r,aA prog 145 [aw x,aa n]=some r/\∃e:Int,r=aa e/\e≠21/\(e=0->∃A B,V=some A/\W=some B/\vM A n=0/\vM B n=0):=by
 have f1:Flat x.first.dL:=zr
 have f2:Flat x.second.dL:=iy
 have fx:Flat (aw x):=(jT x).2 ⟨f1,f2⟩
 have p:=kx (gd V WF n) (aU (bR V) (.v _)) (.v _)
 have N:=kx (gd W WF n) (aU (bR W) (.v _)) (.v _)
 obtain⟨ev,Iu⟩:∃e,vM (ol V) n=e:=⟨_,rfl⟩
 obtain⟨ew,Y⟩:∃e,vM (ol W) n=e:=⟨_,rfl⟩
 have hev2:ev≠21:=by rw[<- Iu];exact DV _ _
 have hew2:ew≠21:=by rw[<- Y];exact DV _ _
 rw[Iu] at p;rw[Y] at N;obtain⟨r1,O2,c,rfl⟩:=a4A x.first x.second f1 f2
 have aKF:=kx O2 (aU ((pL _).2 f1) ((pL _).2 f2)) (.v _)
 rw[cL func145 rfl aWY rfl];have u:i64.wrap 1=1:=ZB
 have w2:i64.wrap 2=2:=ZB
 simp only[Z8,seval,aGH x];refine bP (fun m st=>∃k:Nat,(st.env 1=aa n/\st.env 2=.ptr 2 0 0/\st.heap 2 0=some (.cells (bO x))/\st.env 12=.own 12 0/\st.heap 12 0=some (.row 70 35 2 (bO x))/\st.env 13=aa 2/\st.env 14=aa k)/\(k=0\/k=1/\ev=0\/k=2/\ev=0/\ew=0)/\m=2-k)
  (fun e st=>(e=.ret/\∃e:Int,st.env 4=aa e/\e≠21/\e≠0)\/(e=.exit 0/\(st.env 2=.ptr 2 0 0/\st.heap 2 0=some (.cells (bO x)))/\ev=0/\ew=0)) 2 ?step ?start ?rest
 case step =>
  rintro m st ⟨k,D,R,hm⟩
  rcases R with rfl|⟨rfl,J⟩|⟨rfl,J,h2⟩
  ·by_cases g1:ev=0
   ·apply oN (1)
    ·simp only[Z8,seval,D,hV,p,bt g1,u];rfl
    ·exact⟨1,XC,.inr (.inl ⟨rfl,g1⟩),rfl⟩
   ·apply oT (.ret)
    ·simp only[Z8,seval,D,hV,p,bf g1];rfl
    ·exact .inl ⟨rfl,ev,qb,hev2,g1⟩
  ·by_cases g1:ew=0
   ·apply oN (0)
    ·simp only[Z8,seval,D,hW,N,bt g1,w2];rfl
    ·exact⟨2,XC,.inr (.inr ⟨rfl,J,g1⟩),rfl⟩
   ·apply oT (.ret)
    ·simp only[Z8,seval,D,hW,N,bf g1];rfl
    ·exact .inl ⟨rfl,ew,qb,hew2,g1⟩
  ·apply oT (.exit 0)
   ·simp only[Z8,seval,D];rfl
   ·exact .inr ⟨rfl,XC,J,h2⟩
 case start=>exact⟨0,Wl,.inl rfl,rfl⟩
 case rest =>
  rintro e st (⟨rfl,e,X,S7,h0⟩|⟨rfl,D,J,h2⟩)
  ·simp only[Z8,seval];exact⟨_,bE rfl (by simp only[E8,seval,X]<;>rfl) (by first|exact .v _|simp only[sB,X]),_,rfl,S7,fun h=>absurd h h0⟩
  by_cases g3:x.first.target<x.first.source
  ·simp only[Z8,seval,D,g3];exact⟨_,bE rfl,_,rfl,ZB,fun h=>wu⟩
  by_cases g4:x.second.target<x.second.source
  ·simp only[Z8,seval,D,g3,g4];exact⟨_,bE rfl,_,rfl,ZB,fun h=>wu⟩
  obtain⟨A,rfl⟩:∃A,V=some A:=by
   cases V with
   | none=>rw[J] at Iu;simp[vM,ol] at Iu
   | some A=>exact⟨A,rfl⟩
  obtain⟨B,rfl⟩:∃B,W=some B:=by
   cases W with
   | none=>rw[h2] at Y;simp[vM,ol] at Y
   | some B=>exact⟨B,rfl⟩
  rw[dK] at S G Iu Y;have V5:∀(st:St) (d:Nat),aO (aA prog) 146 [aw x] st (some d)=_:=fun st d=>tZ (st:=st) (d:=d) (bZ fx) (aWW x A B n hV hW S G (Iu.trans J) (Y.trans h2) M)
  cases c
  ·simp only[Z8,seval,D,g3,g4,aKF];exact⟨_,bE rfl,_,rfl,ZB,fun h=>wu⟩
  obtain⟨C,hC⟩:∃C,r7 A B=C:=⟨_,rfl⟩
  rw[hC] at V5;have rn:∀(a k:Nat),rv a k (none:Option (List Int))=af:=fun _ _=>rfl
  have rs:∀(a k:Nat) (l:List Int),rv a k (some l)=.own a k:=fun _ _ _=>rfl
  cases C with
  | none =>
    simp only[Z8,seval,D,g3,g4,aKF,V5,NW,rn];exact⟨_,bE rfl,_,rfl,ZB,fun h=>wu⟩
  | some c =>
    by_cases g5:(c.length:Int)=0
    ·simp only[Z8,seval,D,g3,g4,aKF,V5,NW,rs,iC,Nat.sub_self,length_singleton,Nat.zero_lt_one,getElem?_cons_zero,bt g5];exact⟨_,bE rfl,_,rfl,ZB,fun h=>wu⟩
    ·simp only[Z8,seval,D,g3,g4,aKF,V5,NW,rs,iC,Nat.sub_self,length_singleton,Nat.zero_lt_one,getElem?_cons_zero,bf g5];exact⟨_,bE rfl,_,rfl,ZB,fun _=>⟨A,B,rfl,rfl,Iu.trans J,Y.trans h2⟩⟩
def a4C (a:Int):aA prog 287 [aa a]=some (ae false):=by
 rw[cL func287 rfl aWZ rfl];refine eM ?_
 simp only[Z8,seval,bne_self_eq_false];exact⟨_,bE rfl,rfl⟩
def a4D (a:Int):aA prog 214 [aa a]=some (ae false):=by
 rw[cL func214 rfl aW0 rfl];refine eM ?_
 simp only[Z8,seval,bne_self_eq_false];exact⟨_,bE rfl,rfl⟩
def a4E (a b:Int):aA prog 213 [aa a,aa b]=some (ae (decide (a<b))):=by
 have A:=kx (a4C a) (bZ (.v _)) (.v _)
 rw[cL func213 rfl aW1 rfl];refine eM ?_
 simp only[Z8,seval,A];exact⟨_,bE rfl,rfl⟩
def a4F (o:Option (List Int)) (hn:bg (ol o).length) (hs:(ol o).Pairwise (· < ·)) (x:Int):∃(k:Nat) (b:Bool),aA prog 147 [ov aH o,aa x]=some (.cY [aa k,ae b])/\k<=(ol o).length/\(b=false->Q8 (ol o) x ((ol o).take k++[x]++(ol o).drop k)):=by
 have vo:∀st:St,bA st (ov aH o)=some ((ol o).length,aH (ol o)):=fun st=>by cases o<;>rfl
 have mono:∀i j:Nat,i<j->j<(ol o).length->gx (0:Int) (ol o) (i:Int)<gx (0:Int) (ol o) (j:Int):=fun i j R Y=>by
  have:=pairwise_iff_getElem.1 hs i j WF Y R
  simpa [gx,Y,show i<(ol o).length from WF] using this
 have kl:∀(a:Int) (st:St) (d:Option Nat),aO (aA prog) 213 [aa a,aa x] st d=some { dst:=d,val:=ae (decide (a<x))}:=fun a=>kx (a4E a x) (aU (.v _) (.v _)) (.v _)
 have kn:=fun a=>kx (a4D a) (bZ (.v _)) (.v _)
 suffices key:∃r,aA prog 147 [ov aH o,aa x]=some r/\∃(k:Nat) (b:Bool),r=.cY [aa k,ae b]/\k<=(ol o).length/\(b=false->Q8 (ol o) x ((ol o).take k++[x]++(ol o).drop k)) by
  obtain⟨_,J,k,b,rfl,h2⟩:=key
  exact⟨k,b,J,h2⟩
 rw[cL func147 rfl aW2 wa]
 simp only[Z8,seval,vo];refine bP (fun m st=>∃i j:Nat,(st.env 0=ov aH o/\st.env 1=aa x/\st.env 6=aa ((ol o).length)/\st.env 7=aa i/\st.env 8=aa j)/\i<=j/\j<=(ol o).length/\(∀a:Nat,a<i->gx (0:Int) (ol o) (a:Int)<x)/\(∀a:Nat,j<=a->a<(ol o).length->x<=gx (0:Int) (ol o) (a:Int))/\m=j-i)
  (fun e st=>e=.exit 0/\∃i:Nat,(st.env 0=ov aH o/\st.env 1=aa x/\st.env 6=aa ((ol o).length)/\st.env 7=aa i)/\i<=(ol o).length/\(∀a:Nat,a<i->gx (0:Int) (ol o) (a:Int)<x)/\(∀a:Nat,i<=a->a<(ol o).length->x<=gx (0:Int) (ol o) (a:Int))) (ol o).length ?step ?start ?rest
 case step =>
  rintro m st ⟨i,j,D,R,hjn,l,p,hm⟩
  by_cases A:(i:Int)<j
  case neg =>
   have e:i=j:=WF
   subst e;apply oT (.exit 0)
   ·simp only[Z8,seval,D,A];rfl
   ·exact⟨rfl,i,XC,hjn,l,p⟩
  obtain⟨h,u⟩:∃h:Nat,h=(i+j) / 2:=⟨_,rfl⟩
  have w1:i64.wrap ((i:Int)+j)=((i+j:Nat):Int):=uz
  have X:u64.wrap ((i+j:Nat):Int)=((i+j:Nat):Int):=Qa9
  have w3:((i+j:Nat):Int).fdiv (2 ^ min 1 u64.bits)=(h:Int):=by
   have M:min 1 u64.bits=1:=rfl
   rw[M,show (2:Int) ^ 1=2 from rfl,Int.fdiv_eq_ediv_of_nonneg _ WF,u]
   omega
  have w4:i64.wrap ((h:Nat):Int)=(h:Int):=yq
  have w5:=wk (k:=h) WF
  have q0:(0:Int)<=h:=WF
  have S:(h:Int)<(ol o).length:=WF
  by_cases G:gx (0:Int) (ol o) (h:Int)<x
  ·apply oN (j-(h+1))
   ·simp only[Z8,seval,D,A,w1,X,w3,w4,w5,q0,S,kl,G];rfl
   ·exact⟨h+1,j,XC,WF,hjn,fun a ha=>(Nat.lt_or_ge a h).elim (fun e=>by have:=mono a h e WF;omega) fun e=>by obtain rfl:a=h:=WF;exact G,p,rfl⟩
  ·apply oN (h-i)
   ·simp only[Z8,seval,D,A,w1,X,w3,w4,w5,q0,S,kl,G];rfl
   ·exact⟨i,h,XC,WF,WF,l,fun a ha W=>(Nat.lt_or_ge h a).elim (fun e=>by have:=mono h a e W;omega) fun e=>by obtain rfl:a=h:=WF;omega,rfl⟩
 case start=>exact⟨0,(ol o).length,Wl,WF,WF,fun a ha=>WF,fun a J h2=>WF,WF⟩
 case rest =>
  rintro e st ⟨rfl,i,D,C,l,p⟩
  have q0:(0:Int)<=i:=WF
  by_cases A:(i:Int)<(ol o).length
  ·by_cases N:gx (0:Int) (ol o) (i:Int)=x
   ·simp only[Z8,seval,D,A,q0,bt N];exact⟨_,bT rfl rfl rfl qc qc,i,_,rfl,C,fun h=>wu⟩
   ·simp only[Z8,seval,D,A,q0,bf N,kn];exact⟨_,bT rfl rfl rfl qc qc,i,_,rfl,C,fun _=>BY l fun h=>by have:=p i (Nat.le_refl _) h;omega⟩
  ·simp only[Z8,seval,D,A];exact⟨_,bT rfl rfl rfl qc qc,i,_,rfl,C,fun _=>BY l fun h=>absurd WF A⟩
def V6 {m:Nat} (h:m<=63):(0:Int)<2 ^ m/\(2:Int) ^ m<=9223372036854775808:=by
 constructor
 ·exact Int.pow_pos ZB
 ·have h1:(2:Nat) ^ m<=2 ^ 63:=Nat.pow_le_pow_right ZB h
  grind
def u7 (b:Int) (hb:b<18446744073709551616):∀(k j:Nat),k+j<=63->(2:Int) ^ j<=b->EU b k (2 ^ j)=if b<2 ^ (j+k) then b else 2 ^ (j+k)
 | 0,j,h,Y=>by
   rw[EU,Nat.add_zero,if_neg WF]
 | k+1,j,h,Y=>by
   obtain⟨X,J⟩:=V6 (m:=j) WF
   obtain⟨_,N⟩:=V6 (m:=j+1) WF
   have A:(2:Int) ^ (j+1)=2 * 2 ^ j:=WF
   obtain⟨p,hp⟩:∃p:Int,2 ^ j=p:=⟨_,rfl⟩
   have S:=u7 b hb k (j+1) WF
   rw[A,hp] at S;rw[hp] at X J Y;rw[A,hp] at N;have w1:u64.wrap (b-p)=b-p:=Qa9
   have w2:u64.wrap (2 * p)=2 * p:=by grind [zC]
   have C:j+(k+1)=j+1+k:=WF
   have mono:(2:Int) * p<=2 ^ (j+(k+1)):=by
    rw[C,Int.pow_add,A,hp];have:(1:Int)<=2 ^ k:=Int.pow_pos ZB
    have h2:2 * p * 1<=2 * p * 2 ^ k:=Int.mul_le_mul_of_nonneg_left this WF
    omega
   grind [EU.eq_2]
def aGJ (n b:Int) (hn:1<=n/\n<=64) (hb:0<=b/\b<18446744073709551616):AL n b=if b<2 ^ (n-1).toNat then b else 2 ^ (n-1).toNat:=by
 unfold AL;by_cases h:b=0
 ·grind
 ·have e:=u7 b hb.2 (n-1).toNat 0 WF WF
  grind
def a4G (n b:Int) (M:1<=n/\n<=64) (hb:0<=b/\b<18446744073709551616):aA prog 222 [aa n,ac b]=some (ac (AL n b)):=by
 obtain⟨h2,h3⟩:=V6 (m:=(n-1).toNat) WF
 have g1:¬(64:Int)<n:=WF
 have u:i64.wrap (n-1)=n-1:=yq
 have n0:¬n-1<0:=WF
 have e2:jS prog .shl 23 (ac 1) (aa (n-1))=some (ac (2 ^ (n-1).toNat)):=by
  grind [aBI,IntKind.bits,zC]
 have A:ib (aa n) (aa 1)=some (aa n):=by
  grind [u9]
 have C:=aGJ n b M hb
 obtain⟨p,hp⟩:∃p:Int,2 ^ (n-1).toNat=p:=⟨_,rfl⟩
 rw[hp] at e2 C;have e3:ic (ac p) (ac b)=some (ac (AL n b)):=by
  rw[v7,C]
 rw[cL func222 rfl aW3 rfl];refine eM ?_
 simp only[Z8,seval,g1,A,u,e2,e3];exact⟨_,bE rfl Wl XG,rfl⟩
def a4H (n:Int):aA prog 336 [ac n]=some (ae false):=by
 rw[cL func336 rfl aW4 rfl];refine eM ?_
 simp only[Z8,seval];exact⟨_,bE rfl Wl XG,qe⟩
def v8 (a b:Int):Int:=if a<b then -1 else if b<a then 1 else 0
def aW5 (a b:Int):aA prog 290 [ac a,ac b]=some (aa (v8 a b)):=by
 have A:=fun n=>kx (a4H n) (bZ (.v _)) (.v _)
 rw[cL func290 rfl aW6 rfl];refine eM ?_
 unfold v8;by_cases J:a<b
 ·simp only[Z8,seval,A,J];exact⟨_,bE rfl Wl XG,rfl⟩
 by_cases h2:b<a
 ·simp only[Z8,seval,A,J,h2];exact⟨_,bE rfl Wl XG,rfl⟩
 ·simp only[Z8,seval,A,J,h2];exact⟨_,bE rfl Wl XG,rfl⟩
theorem aW7 (a b:Int):aA prog 289 [.sl 2 (aH [a,b])]=some (aa (if a=0 then b else a)):=by
 obtain⟨l,W⟩:∃l,l=[a,b]:=⟨_,rfl⟩
 have h2:l.length=2:=by rw[W];rfl
 have i0:it l ((0:Nat):Int)=a:=by rw[W];rfl
 have i1:it l ((1:Nat):Int)=b:=by rw[W];rfl
 rw[<- W,<- h2];rw[cL func289 rfl aW8 rfl];refine eM ?_
 simp only[Z8,seval];refine bP (fun m st=>∃k:Nat,(st.env 6=.sl l.length (aH l)/\st.env 7=aa l.length/\st.env 3=aa 0/\st.env 8=aa k)/\(∀j:Nat,j<k->¬((it l (j:Int) != 0)=true))/\k<=l.length/\m=l.length-k)
  (fun e st=>(e=.ret/\∃k:Nat,k<l.length/\((it l (k:Int) != 0)=true)/\(∀j:Nat,j<k->¬((it l (j:Int) != 0)=true))/\st.env 2=aa (it l (k:Int)))\/(e=.exit 0/\(∀j:Nat,j<l.length->¬((it l (j:Int) != 0)=true))/\st.env 6=.sl l.length (aH l)/\st.env 7=aa l.length/\st.env 3=aa 0)) (l.length) ?step ?start ?rest
 case step =>
  rintro m st ⟨k,D,Y,R,hm⟩
  by_cases A:(k:Int)<l.length
  ·obtain ⟨q0,hw⟩ := yY k
   have gi:=qH q0 A
   by_cases u:(it l (k:Int) != 0)=true
   ·apply oT (.ret)
    ·simp only[Z8,seval,D,A,q0,u,gi];rfl
    ·exact .inl ⟨rfl,k,WF,u,Y,qb⟩
   ·have M:(it l (k:Int) != 0)=false:=dq
    apply oN (l.length-(k+1))
    ·simp only[Z8,seval,D,A,q0,M,gi,hw];rfl
    ·exact⟨k+1,XC,fun j h=>(Nat.lt_succ_iff_lt_or_eq.1 h).elim (Y j) fun e=>vg,WF,rfl⟩
  ·apply oT (.exit 0)
   ·simp only[Z8,seval,D,A,A];rfl
   ·exact .inr ⟨rfl,fun j h=>Y j WF,XC⟩
 case start=>exact⟨0,Wl,fun j h=>WF,WF,WF⟩
 case rest =>
  rintro e st (⟨rfl,k,R,u,Y,h⟩|⟨rfl,Y,D⟩)
  ·have e:(if a=0 then b else a)=it l (k:Int):=by
    grind
   simp only[Z8,seval];exact⟨_,bE rfl qm XG,by rw[e]⟩
  ·have e:(if a=0 then b else a)=0:=by
    grind
   simp only[Z8,seval,D];exact⟨_,bE rfl qc XG,by rw[e]⟩
def aPx (x y:Request):Int:=if v8 x.due y.due=0 then v8 x.tagged.tag y.tagged.tag else v8 x.due y.due
def a4I (x y:Request):aA prog 224 [ay x,ay y]=some (aa (aPx x y)):=by
 have C:=fun a b=>kx (aW5 a b) (aU (.v _) (.v _)) (.v _)
 have D:∀(a b:Int) (S:St) (s g:Nat) (d:Option Nat),S.heap s g=some (.row 3 1 2 (aH [a,b]))->aO (aA prog) 289 [.own s g] S d=some { dst:=d,val:=aa (if a=0 then b else a)}:=fun a b S s g d hh=>by
  grind [dZ,Bz,eP,aM,dB,zP,aW7]
 obtain⟨A,hA⟩:∃A,v8 x.due y.due=A:=⟨_,rfl⟩
 obtain⟨B,hB⟩:∃B,v8 x.tagged.tag y.tagged.tag=B:=⟨_,rfl⟩
 have m:∀(ops:Array Oper) (S:St) (T:Nat) (pos:String) (aft:Array Edge),S.env 9=aa A->S.env 16=aa B->cU prog (aA prog) ops ⟨some 17,.buildSlice 22 2 #[(0,.tmp 9),(1,.tmp 16)],T,pos,aft,none⟩ S=some ((S.new 17 (.row 3 1 2 (aH [A,B]))).put (some 17) (.own 17 (S.aJ 17))):=fun ops S T pos aft J h2=>by
  have J:S.ev (.tmp 9)=_:=J
  have h2:S.ev (.tmp 16)=_:=h2
  rw[gF 22 _ _ _ KH,Ny];simp[cT,cd,mP,J,h2,AV.lL,AV.cells,Value.oneCell']
  rfl
 rw[cL func224 rfl aW9 rfl];refine eM ?_
 have G:=D A B
 simp only[Z8,seval,C,G,hA,hB,m];exact⟨_,bE rfl Wl XG,by unfold aPx;rw[hA,hB]⟩
def bsB (T E U:Nat):Code:=Wh (fun n=>if n=53 then T else if n=102 then E else if n=277 then U else n) id (Tryz.f223.body.getD .skip)
def bsF {α:Type} {c:α->List AV} {E Z b:Nat} {v:List Value} (e:AJ c T E Z b v) {U:Nat} {fn:Func} (W:prog.funcs[g]? = some fn) (hb:fn.body=some (bsB T E U)) (X:fn.results.toList=[.tmp 6,.tmp 7]) (nU:aZ fn=true) (N:Q7 g=false) (R:Sr g=false)
 (z:α) (o:Option (List α)) (hn:bg (ol o).length) (x:α) (f:Nat) (ord:α->Int) (kf:∀y∈ol o,∀(st:St) (d:Option Nat),aO (aA prog) f [.agg (c y),.agg (c x)] st d=some { dst:=d,val:=aa (ord y)}) :
 ∃k:Nat,aA prog g [ov (List.flatMap c) o,.agg (c x),.v (.func (.func f) #[] #[])]=some (.cY [aa k,ae (decide (k<(ol o).length/\ord (gx z (ol o) k)=0))])/\k<=(ol o).length/\(∀j:Nat,k=j+1->ord (gx z (ol o) j)<0)/\(k<(ol o).length->¬ord (gx z (ol o) k)<0):=by
 have vo:∀st:St,bA st (ov (List.flatMap c) o)=some ((ol o).length,(ol o).flatMap c):=fun st=>by cases o<;>rfl
 have kf':∀h:Nat,(h:Int)<(ol o).length->∀(st:St) (d:Option Nat),aO (aA prog) f [.agg (c (gx z (ol o) (h:Int))),.agg (c x)] st d=some { dst:=d,val:=aa (ord (gx z (ol o) (h:Int)))}:=fun h u=>kf _ (lB (z:=z) WF u)
 suffices key:∃r,aA prog g [ov (List.flatMap c) o,.agg (c x),.v (.func (.func f) #[] #[])]=some r/\∃k:Nat,r=.cY [aa k,ae (decide (k<(ol o).length/\ord (gx z (ol o) k)=0))]/\k<=(ol o).length/\(∀j:Nat,k=j+1->ord (gx z (ol o) j)<0)/\(k<(ol o).length->¬ord (gx z (ol o) k)<0) by
  obtain⟨_,J,k,rfl,h2⟩:=key
  exact⟨k,J,h2⟩
 rw[dJ prog W hb nU _ (cF _ _ N) wa]
 simp only[bsB,Tryz.f223,Option.getD_some,Wh,O0,N9,List.map_toArray,id,E8,seval,vo,e.sl];refine bP (fun m st=>∃i j:Nat,(st.env 0=ov (List.flatMap c) o/\st.env 2=.v (.func (.func f) #[] #[])/\st.env 4=.ptr 4 0 0/\st.heap 4 0=some (.cells (c x))/\st.env 6=aa 0/\st.env 7=ae false/\st.env 8=aa ((ol o).length)/\st.env 9=aa i/\st.env 10=aa j)/\i<=j/\j<=(ol o).length/\(∀a:Nat,i=a+1->ord (gx z (ol o) a)<0)/\(j<(ol o).length->¬ord (gx z (ol o) j)<0)/\m=j-i)
  (fun e st=>e=.exit 0/\∃i:Nat,(st.env 0=ov (List.flatMap c) o/\st.env 2=.v (.func (.func f) #[] #[])/\st.env 4=.ptr 4 0 0/\st.heap 4 0=some (.cells (c x))/\st.env 6=aa 0/\st.env 7=ae false/\st.env 8=aa ((ol o).length)/\st.env 9=aa i)/\i<=(ol o).length/\(∀a:Nat,i=a+1->ord (gx z (ol o) a)<0)/\(i<(ol o).length->¬ord (gx z (ol o) i)<0)) (ol o).length ?step ?start ?rest
 case step =>
  rintro m st ⟨i,j,D,hij,hjn,N5,p,hm⟩
  by_cases A:(i:Int)<j
  case neg =>
   have e:i=j:=WF
   subst e;apply oT (.exit 0)
   ·simp only[Z8,seval,D,A];rfl
   ·exact⟨rfl,i,XC,hjn,N5,p⟩
  obtain⟨h,u⟩:∃h:Nat,h=(i+j) / 2:=⟨_,rfl⟩
  have w1:i64.wrap ((i:Int)+j)=((i+j:Nat):Int):=uz
  have w2:u64.wrap ((i+j:Nat):Int)=((i+j:Nat):Int):=Qa9
  have w3:((i+j:Nat):Int).fdiv (2 ^ min 1 u64.bits)=(h:Int):=by
   have M:min 1 u64.bits=1:=rfl
   rw[M,show (2:Int) ^ 1=2 from rfl,Int.fdiv_eq_ediv_of_nonneg _ WF,u]
   omega
  have w4:i64.wrap ((h:Nat):Int)=(h:Int):=yq
  have w5:=wk (k:=h) WF
  have q0:(0:Int)<=h:=WF
  have S:(h:Int)<(ol o).length:=WF
  have kh:=kf' h S
  by_cases G:ord (gx z (ol o) (h:Int))<0
  ·apply oN (j-(h+1))
   ·simp only[Z8,seval,D,A,w1,w2,w3,w4,w5,q0,S,kh,Bv 24 _ _ f,G,e.jm z,e.jn,e.lc];rfl
   ·exact⟨h+1,j,XC,WF,hjn,fun a Y=>by obtain rfl:h=a:=WF;exact G,p,rfl⟩
  ·apply oN (h-i)
   ·simp only[Z8,seval,D,A,w1,w2,w3,w4,w5,q0,S,kh,Bv 24 _ _ f,G,e.jm z,e.jn,e.lc];rfl
   ·exact⟨i,h,XC,WF,WF,N5,fun _=>G,rfl⟩
 case start=>exact⟨0,(ol o).length,Wl,WF,WF,fun a Y=>WF,fun h=>WF,WF⟩
 case rest =>
  rintro e st ⟨rfl,i,D,C,N5,p⟩
  have q0:(0:Int)<=i:=WF
  by_cases A:(i:Int)<(ol o).length
  ·have l:decide (i<(ol o).length/\ord (gx z (ol o) i)=0)=(ord (gx z (ol o) i) == 0):=by have:i<(ol o).length:=WF;simp[this];rfl
   simp only[Z8,seval,D,A,q0,kf' i A,Bv 40 _ _ f,e.jm z,e.jn,e.lc];exact⟨_,Ts (aI R) (.inl rfl) X rfl rfl qc qc,i,by rw[l],C,N5,p⟩
  ·have l:decide (i<(ol o).length/\ord (gx z (ol o) i)=0)=false:=by have:¬i<(ol o).length:=WF;simp[this]
   simp only[Z8,seval,D,A];exact⟨_,Ts (aI R) (.inl rfl) X rfl rfl qc qc,i,by rw[l],C,N5,p⟩
def a4J (o:Option (List Request)) (M:bg (ol o).length) (x:Request):∃(k:Nat) (b:Bool),aA prog 223 [ov aC o,ay x,.v (.func (.func 224) #[] #[])]=some (.cY [aa k,ae b])/\k<=(ol o).length:=by
 obtain⟨k,J,h2,_⟩:=bsF (U:=277) xI func223 WP rfl aXa rfl rfl cS o M x 224 (fun y=>aPx y x) fun y _=>kx (a4I y x) (aU (.agg _ (eD y)) (.agg _ (eD x))) (.v _)
 exact⟨k,_,J,h2⟩
def w8:aP 0 3 2/\aP 1 4 8/\aP 2 5 10/\aP 3 2 15/\aP 4 9 16/\aP 5 2 25/\aP 6 2 26/\aP 7 5 27/\aP 8 14 31/\aP 9 9 45/\aP 10 8 51/\aP 11 2 58:=⟨rfl,rfl,rfl,rfl,rfl,rfl,rfl,rfl,rfl,rfl,rfl,rfl⟩
def sq (Q R:Option (List Request)) (st:St):Prop:=(∀l,Q=some l->st.heap 9 0=some (.row 102 35 l.length (aC l)))/\∀l,R=some l->st.heap 9 (nK Q)=some (.row 102 35 l.length (aC l))
def V7 (h:TD t v Q R) (G:CP t.store v) (C:sq Q R st) (o:Bool):eE st (bd ({ pD t (rv 9 0 Q) (rv 9 (nK Q) R) t.cI with overflow:=o }))=some (bd ({ t with overflow:=o })):=by
 have e:=Kt (t:={ t with overflow:=o }) G (n:=t.cI) (jU C.1 fun l _=>dG l) (jU C.2 fun l _=>dG l)
 rw[<- h.Nx,<- h.ret] at e;exact e
def aXb (x:Array Operand) (y:Array Nat) :
 fZ prog true call inl ops ⟨some 56,.call ⟨.value (.func 225),x,y⟩,T,pos,aft,none⟩ st=cT (inl 225 (x.toList.map st.ev) st) fun r=>some ((st.back r.2).put (some 56) r.1):=Kl 225 x y (Bs rfl)
def a4K (h:TD t v Q R) (G:CP t.store v) (r:Request) (hr:0<=r.tries/\r.tries<=60) (hb:0<=t.store.cFg.lim.qI/\t.store.cFg.lim.qI<18446744073709551616) :
 ∃(A:Option (List Request)) (o:Bool),aA prog 154 [bd t,ay r]=some (bd ({ t with iB:=ov aC A,overflow:=o }))/\(A=R\/((ol A).length:Int)<=t.store.cFg.lim.oV/\∀y∈ol A,y∈ol R\/y.tries=r.tries+1):=by
 have hn:=h.nR
 have SX:=fun st=>si h G st 9 rfl
 obtain⟨Z,hZ⟩:∃Z,pD t (rv 9 0 Q) (rv 9 (nK Q) R) t.cI=Z:=⟨_,rfl⟩
 have N:Z.iB=rv 9 (nK Q) R:=by rw[<- hZ];rfl
 have z2:Z.store.cFg.lim=t.store.cFg.lim:=by rw[<- hZ];rfl
 have z3:Z.store.now=t.store.now:=by rw[<- hZ];rfl
 obtain⟨K,C⟩:∃K:St->Prop,K=sq Q R:=⟨_,rfl⟩
 have Kp:∀S d y,K (St.put S d y)=K S:=fun S d y=>by rw[C];cases d<;>rfl
 have n9:∀s,s≠9->((9:Nat)=s)=False:=fun s hs=>eq_false (fun e=>hs e.symm)
 have Kn:∀S e s,s≠9->K (St.new S s e)=K S:=fun S e s hs=>by rw[C];simp only[sq,Fy,n9 s hs,false_and,if_false]
 have Ks:∀S s c e,s≠9->K (St.gV S s c e)=K S:=fun S s c e hs=>by rw[C];simp only[sq,qV,n9 s hs,false_and,if_false]
 have Kw:∀S:St,S.aJ 9=0->K (St.news S 9 (qR Q R)):=fun S G=>by
  rw[C];exact⟨fun l e=>by simp only[uZ,G,true_and,Nat.zero_le,Nat.sub_zero,(Tl (R:=R) l e).1,if_true,(Tl (R:=R) l e).2.1],fun l e=>by simp only[uZ,G,true_and,Nat.zero_le,Nat.sub_zero,(AM (Q:=Q) l e).1,if_true,(AM (Q:=Q) l e).2]⟩
 have aGK:∀(S:St) (d:Option Nat),K S->aO (aA prog) 135 [bd Z,.agg (aW r.block)] S d=some { dst:=d,val:=ae (decide (wG v.ns r.block))}:=fun S d hk=>by
  rw[C] at hk;have he:eE S (bd Z)=some (bd t):=by rw[<- hZ];exact V7 h G hk t.overflow
  rw[dZ,map_cons,map_cons,map_nil,he,cV (.agg _ (dR r.block)),aM,aM,dB];exact Ee (aWP h r.block)
 have hlen:∀S,K S->bA S (rv 9 (nK Q) R)=some ((ol R).length,aC (ol R)):=fun S hk=>by
  rw[C] at hk;cases R with
  | none=>rfl
  | some l=>show bA S (.own 9 (nK Q))=_;simp only[bA,hk.2 l rfl];rfl
 rw[cG func154 rfl aXc WP rfl]
 have et:∀o,({ t with iB:=ov aC R,overflow:=o }:State)={ t with overflow:=o }:=fun o=>by rw[<- h.ret]
 by_cases g1:wG v.ns r.block
 case neg =>
  refine⟨R,t.overflow,eM ?_,.inl rfl⟩
  rw[et];simp only[ZG,seval,w8,SX,NW,Nat.zero_add,hZ,N,z2,z3,Kp,Kn,Ks,Kw,aGK,g1,decide_false];refine⟨bd t,jE rfl Wl (cs:=aE Z) Qbl ?ex,rfl⟩
  rw[<- hZ];refine V7 h G (C ▸ (?_:K _)) t.overflow
  simp only[Kp,Kn _ _ 5 ZB,Ks _ 5 _ _ ZB,Ks _ 4 _ _ ZB]
  exact Kw _ Wl
 by_cases g2:t.store.cFg.lim.oV<=((ol R).length:Int)
 ·refine⟨R,true,eM ?_,.inl rfl⟩
  rw[et];simp only[ZG,seval,w8,SX,NW,Nat.zero_add,hZ,N,z2,z3,Kp,Kn,Ks,Kw,aGK,g1,decide_true,hlen,g2];refine⟨bd ({ t with overflow:=true }),jE rfl Wl (cs:=aE { Z with overflow:=true }) (by simp only[Z8,seval,NW,N]<;>rfl) ?ex2,rfl⟩
  rw[<- hZ];refine V7 h G (C ▸ (?_:K _)) true
  simp only[Kp,Kn _ _ 5 ZB,Ks _ 5 _ _ ZB,Ks _ 4 _ _ ZB]
  exact Kw _ Wl
 have hw0:i64.wrap (r.tries+1)=r.tries+1:=yq
 have k222':=kx (a4G (i64.wrap (r.tries+1)) t.store.cFg.lim.qI WF hb) (aU (.v _) (.v _)) (.v _)
 obtain⟨x,Kh⟩:∃x,({ tagged:=r.tagged,block:=r.block,tries:=i64.wrap (r.tries+1),due:=u64.wrap (t.store.now+AL (i64.wrap (r.tries+1)) t.store.cFg.lim.qI)}:Request)=x:=⟨_,rfl⟩
 obtain⟨k,b,V8,hk⟩:=a4J R WF x
 refine⟨some ((ol R).take k++[x]++(ol R).drop k),t.overflow,eM ?_,.inr ⟨Qaq,fun y Y=>?_⟩⟩
 case refine_2 =>
  rcases mem_append.1 Y with Y|Y
  ·rcases mem_append.1 Y with Y|Y
   ·exact .inl (mem_of_mem_take Y)
   ·rw[mem_singleton.1 Y,<- Kh];exact .inr hw0
  ·exact .inl (mem_of_mem_drop Y)
 have k223':∀(S:St) (d:Option Nat),K S->aO (aA prog) 223 [rv 9 (nK Q) R,ay x,.v (.func (.func 224) #[] #[])] S d=some { dst:=d,val:=.cY [aa k,ae b]}:=fun S d hk=>by
  rw[C] at hk;have he:eE S (rv 9 (nK Q) R)=some (ov aC R):=by
   cases R with
   | none=>exact xA _ _
   | some l=>exact Bz (hk.2 l rfl) (dG l)
  rw[dZ,map_cons,map_cons,map_cons,map_nil,he,cV (.agg _ (eD x)),xA,aM,aM,aM,dB];exact RA V8 (fun y Y=>by rcases mem_cons.1 Y with rfl|Y;exact cZ.v _;rcases mem_cons.1 Y with rfl|Y;exact cZ.v _;cases Y) (.cY _ (aU (.v _) (.v _)))
 simp only[ZG,seval,w8,SX,NW,Nat.zero_add,hZ,N,z2,z3,Kp,Kn,Ks,Kw,aGK,g1,decide_true,hlen];refine Sk (fun a=>a.1=.normal/\(a.2.env 3=.ptr 3 0 0/\a.2.heap 3 0=some (.cells (cE r))/\a.2.env 4=.ptr 4 0 0/\a.2.heap 4 0=some (.cells (aE iS))/\a.2.env 5=.ptr 5 0 0/\a.2.heap 5 0=some (.cells (aE Z))/\a.2.aJ 4=1/\a.2.aJ 5=1/\a.2.aJ 9=(qR Q R).length/\a.2.aJ 25=0/\a.2.aJ 55=0)/\K a.2) ?m1 ?r1
 case m1 =>
  rw[if_neg (by simpa using g2)]
  refine⟨_,rfl,rfl,by and_intros<;>(simp only[E8,seval,NW]<;>rfl), ?_⟩
  simp only[Kp,Kn _ _ 5 ZB,Ks _ 5 _ _ ZB,Ks _ 4 _ _ ZB]
  exact Kw _ Wl
 case r1 =>
  rintro⟨_,st⟩ ⟨rfl,D,M⟩
  dsimp only at D M
  simp only[ZG,seval,w8,D,N,z2,z3,NW,k222',Kh,M,Kp,Kn,Ks,k223',bW,Wp,aXb];refine tW (fun st X st'=>∃a g',X=.own a g'/\(a=9/\g'=st.aJ 9\/a=25/\g'=st.aJ 25)/\yQ 9 (nK Q) st st'/\g'<st'.aJ a/\st'.heap a g'=some (.row 102 35 ((ol R).take k++[x]++(ol R).drop k).length (aC ((ol R).take k++[x]++(ol R).drop k)))) (aPq (U:=292) (V:=293) xI.sl xI.len ZB func225 WP rfl WP (fun _ _=>rfl) R WF x k hk (s:=9) (g:=nK Q) (d2:=55) (g2:=0) ZB (fun h=>WF) _ (fun h=>wu) ?p1 ?p2) ?rest
  case p1=>rw[C] at M;exact fun l W=>by simp only[E8,seval,NW,D];exact M.2 l W
  case p2=>simp only[E8,seval,NW,D]<;>rfl
  case rest =>
   rintro X st' ⟨J,m,rfl,xw,u,_,hX⟩
   have x4:J≠4:=WF
   have p:J≠5:=WF
   rw[C] at M
   have e4:st'.heap 4 0=some (.cells (aE iS)):=(u.1 4 0 (by simp only[E8,seval,NW,D]<;>omega) WF).trans (by simp only[E8,seval,NW,D]<;>rfl)
   have e5:st'.heap 5 0=some (.cells (aE Z)):=(u.1 5 0 (by simp only[E8,seval,NW,D]<;>omega) WF).trans (by simp only[E8,seval,NW,D]<;>rfl)
   have eq:∀l,Q=some l->st'.heap 9 0=some (.row 102 35 l.length (aC l)):=fun l W=>(u.1 9 0 (by simp only[E8,seval,NW,D];exact (Tl (R:=R) l W).1) (by rintro⟨_,h⟩;rw[(Tl (R:=R) l W).2.2] at h;cases h)).trans (by simp only[E8,seval,NW,D];exact M.1 l W)
   simp only[ZG,seval,w8,D,NW,bV,aN,aV,e4,e5];refine⟨_,jE rfl (by simp only[E8,seval,D,bV]<;>rfl) (cs:=aE { Z with iB:=.own J m }) (by simp only[Z8,seval,D,bV,aN,aV,e4]<;>rfl) ?ex3,rfl⟩
   rw[<- hZ];refine Eq.trans (Kt G (q':=ov aC Q) (r':=ov aC (some ((ol R).take k++[x]++(ol R).drop k))) ?ya ?yb) ?yc
   case ya=>exact jU (fun l W=>by simp only[E8,seval,aN,aV];exact eq l W) fun l _=>dG l
   case yb =>
    refine lR ?_
    simp only[E8,seval,aN,aV];rw[if_neg (fun h=>x4 h.1),if_neg (fun h=>p h.1)]
    exact hX
   case yc=>rw[<- h.Nx];rfl
def AN:aP 0 4 2/\aP 1 7 12/\aP 2 2 18/\aP 3 4 20/\aP 4 4 22/\aP 5 4 24/\aP 6 1 28/\aP 7 3 29/\aP 8 10 32/\aP 9 2 39/\aP 10 10 41/\aP 11 2 50/\aP 12 9 51/\aP 13 3 60/\aP 14 3 61:=⟨rfl,rfl,rfl,rfl,rfl,rfl,rfl,rfl,rfl,rfl,rfl,rfl,rfl,rfl,rfl⟩
def lD (s:aF) (x:AV):aF:={ s with dI:={ s.dI with dM:=x }}
def aKG (hs:SD s v) {X Y:AV} (h:cO st X=some Y):Rp st (aB (lD s X))=some (aB (lD s Y)):=by
 have fl:=hs.fl
 rw[fV];simp only[lD,bY fl.1,bY fl.2.1,bY fl.2.2.2.1,bY fl.2.2.2.2.1,bY fl.2.2.2.2.2.1,bY fl.2.2.2.2.2.2,cC,h]
def aGL {x:Option (Ex × St)} {n:Nat} {Inv:Nat->St->Prop} {Q:Ex->St->Prop} (h:∃r:Ex × St,cT x some=some r/\((r.1=.normal/\∃m,m<n/\Inv m r.2)\/(r.1≠.normal/\Q r.1 r.2))):∃e st',x=some (e,st')/\((e=.normal/\∃m,m<n/\Inv m st')\/(e≠.normal/\Q e st')):=by
 obtain⟨⟨e,st'⟩,J,h2⟩:=h
 cases x with
 | none=>cases J
 | some y=>cases J;exact⟨e,st',rfl,h2⟩
def aNG (x:Array Operand) (y:Array Nat) :
 fZ prog true call inl ops ⟨some 47,.call ⟨.value (.func 148),x,y⟩,T,pos,aft,none⟩ st=cT (inl 148 (x.toList.map st.ev) st) fun r=>some ((st.back r.2).put (some 47) r.1):=Kl 148 x y (Bs rfl)
structure ig (Q L:List Int) (n:Int) (k:Nat):Prop where
 pw:L.Pairwise (· < ·)
 kq:∀x∈L,0<=x/\x<n
 lo:Q.length<=L.length
 hi:L.length<=Q.length+k
def sr (L:Option (List Int)) (X:AV) (st:St):Prop:=(L=none/\X=af)\/∃(l:List Int) (a g:Nat),L=some l/\l≠[]/\X=.own a g/\(a=23\/a=25/\1<=g)/\g<st.aJ a/\st.heap a g=some (.row 3 1 l.length (aH l))
def ig.ins {Q L:List Int} {i:Nat} {x:Int} (h:ig Q L n k) (hi:i<=L.length) (D:Q8 L x (L.take i++[x]++L.drop i)) (N:0<=x/\x<n):ig Q (L.take i++[x]++L.drop i) n (k+1):=by
 have hl:(L.take i++[x]++L.drop i).length=L.length+1:=by rw[length_append,length_append,length_take,length_drop,length_singleton];omega
 exact⟨D.1 h.pw,fun y Y=>(D.2 y Y).elim (fun e=>e ▸ N) (h.kq y),by have:=h.lo;omega,by have:=h.hi;omega⟩
def aGM (L:Option (List Int)) (nL:bg (ol L).length) (x:Int) (i:Nat) (hi:i<=(ol L).length) {s g2:Nat} {C:AV} (G:C=rv s g L) (hs:46≠s) (p:St) (J:s=25->g<p.aJ 25) (A:∀l,L=some l->p.heap s g=some (.row 3 1 l.length (aH l))) (M:p.heap 46 g2=some (.row 3 1 1 (oF x))) :
 ∃X st',oX prog 148 [C,aa i,.own 46 g2] p=some (X,st')/\∃a g',X=.own a g'/\(a=s/\g'=p.aJ s\/a=25/\g'=p.aJ 25)/\yQ s g p st'/\g'<st'.aJ a/\st'.heap a g'=some (.row 3 1 ((ol L).take i++[x]++(ol L).drop i).length (aH ((ol L).take i++[x]++(ol L).drop i))):=by
 subst G;exact aPq (T:=22) (b:=8) (c:=oF) (U:=215) (V:=216) Ny (fun _=>rfl) ZB func148 WP rfl WP (fun _ _=>rfl) L nL x i hi (s:=s) (g:=g) (d2:=46) (g2:=g2) ZB (fun h=>hs h.1) p J A M
def SlI (s:aF) (v:SV) (C:Option (List Int)) (n:Int) (m:Nat) (st:St):Prop:=∃(k:Nat) (L:Option (List Int)) (X:AV),(st.env 2=.ptr 2 0 0/\st.heap 2 0=some (.cells (aB s))/\st.env 4=.ptr 4 0 0/\st.heap 4 0=some (.cells (aB eU))/\st.env 5=aa 0/\st.env 7=.ptr 7 0 0/\st.heap 7 0=some (.cells (aB (lD s X)))/\st.env 25=rv 25 0 C/\st.env 26=aa ((ol C).length)/\st.env 27=aa k) /\
 (1<=st.aJ 2/\1<=st.aJ 4/\1<=st.aJ 7)/\(∀c,C=some c->1<=st.aJ 25/\st.heap 25 0=some (.row 3 1 c.length (aH c)))/\sr L X st/\ig (ol v.Q) (ol L) n k/\k<=(ol C).length/\m=(ol C).length-k
def ss (s:aF) (v:SV) (n:Int) (k:Nat) (e:Ex) (st:St):Prop:=e=.exit 0/\∃(L:Option (List Int)) (X:AV),(st.env 2=.ptr 2 0 0/\st.heap 2 0=some (.cells (aB s))/\st.env 4=.ptr 4 0 0/\st.heap 4 0=some (.cells (aB eU))/\st.env 5=aa 0/\st.env 7=.ptr 7 0 0/\st.heap 7 0=some (.cells (aB (lD s X))))/\sr L X st/\ig (ol v.Q) (ol L) n k
def GH:Code:=iP (Tryz.f74.body.getD .skip)
def aXe (k0:KI s v q) {C:Option (List Int)} (hC:∀c,C=some c->∀x∈c,0<=x/\x<n) (nC:((ol C).length:Int)<90000) (nQ:((ol v.Q).length:Int)<=900000) {m:Nat} (hs:SlI s v C n m st):∃e st',vN prog true GH st=some (e,st')/\ss s v n (ol C).length e st':=by
 have key:∃r,cT (vN prog true GH st) some=some r/\ss s v n (ol C).length r.1 r.2:=by
  unfold GH;simp only[Tryz.f74,Option.getD_some,iP];refine jV (SlI s v C n) (ss s v n (ol C).length) m ?step ?start ?rest
  case start=>exact hs
  case rest=>exact fun e st h=>⟨_,rfl,h⟩
  case step =>
   clear hs
   rintro m st ⟨k,L,X,D,G,p,hX,hL,R,hm⟩
   have eq:(∀x,(lD s x).dI.dM=x)/\∀x y,({ lD s x with dI:={ (lD s x).dI with dM:=y }}:aF)=lD s y:=⟨fun _=>rfl,fun _ _=>rfl⟩
   by_cases A:(k:Int)<(ol C).length
   case neg =>
    have Gt:k=(ol C).length:=WF
    apply BW (.exit 0)
    ·simp only[ZG,seval,AN,D,A];rfl
    ·exact⟨rfl,L,X,qd,by simpa only[sr,E8,seval] using hX,Gt ▸ hL⟩
   obtain⟨c,rfl⟩:∃c,C=some c:=by
    cases C with
    | none=>simp[ol] at A;omega
    | some c=>exact⟨c,rfl⟩
   obtain⟨n25,p⟩:=p c rfl
   rw[dK] at A R hm nC D;rw[iL] at D;have q0:(0:Int)<=k:=WF
   have hw:=wk (k:=k) WF
   have nL:bg (ol L).length:=by have:=hL.hi;omega
   obtain⟨hjt,hje⟩:=zD q0 A
   obtain⟨x,N⟩:∃x,it c (k:Int)=x:=⟨_,rfl⟩
   have hxr:0<=x/\x<n:=by rw[<- N,hje];exact hC c rfl _ (getElem_mem hjt)
   obtain⟨i,b,h147,hi,T5⟩:=a4F L nL hL.pw x
   rcases hX with ⟨rfl,rfl⟩|⟨l,a,g,rfl,hl0,rfl,ha,hg,u⟩
   ·have aGN:∀(st:St) (d:Option Nat),aO (aA prog) 147 [af,aa x] st d=_:=kx h147 (aU (.v _) (.v _)) (.cY _ (aU (.v _) (.v _)))
    cases b
    ·refine aGL ?_
     simp only[ZG,seval,AN,D,A,q0,p,eq,aGN,hw,N,bW,aNG];refine tW (fun st X st'=>∃a g',X=.own a g'/\(a=23/\g'=st.aJ 23\/a=25/\g'=st.aJ 25)/\yQ 23 0 st st'/\g'<st'.aJ a/\st'.heap a g'=some (.row 3 1 ((ol (none:Option (List Int))).take i++[x]++(ol (none:Option (List Int))).drop i).length (aH ((ol (none:Option (List Int))).take i++[x]++(ol (none:Option (List Int))).drop i)))) (aGM none nL x i hi (s:=23) (g:=0) rfl ZB _ ?p0 ?p1 ?p2) ?rest
     case p0=>exact fun h=>by cases h
     case p1=>exact fun l h=>by cases h
     case p2=>simp only[E8,seval]<;>rfl
     case rest =>
      rintro X st' ⟨xa,xg,rfl,xw,hF,hXc,hX⟩
      simp only[E8,seval] at xw;have W:=hL.ins hi (T5 rfl) hxr
      have fr:∀y:Nat,y≠23->y≠46->1<=st.aJ y->st'.heap y 0=st.heap y 0:=fun y J h2 S=>(hF.1 y 0 (by simp only[E8,seval,h2,if_false];omega) WF).trans (by simp only[E8,seval,h2,false_and,if_false])
      have cn:∀y:Nat,1<=st.aJ y->1<=st'.aJ y:=fun y h=>Nat.le_trans (by simp only[E8,seval];split<;>omega) (hF.2 y)
      have M:=(fr 2 WF ZB G.1).trans D.2.1
      have e4:=(fr 4 WF ZB G.2.1).trans D.2.2.2.1
      have e7:=(fr 7 WF ZB G.2.2).trans D.2.2.2.2.2.2.1
      have e25:st'.heap 25 0=some (.row 3 1 c.length (aH c)):=(fr 25 ZB ZB n25).trans p
      simp only[ZG,seval,AN,D,M,e4,e7,eq,hw,bV,aN,aV,NW];have xo:xa=23\/xa=25/\1<=xg:=xw.elim (fun h=>.inl h.1) fun h=>.inr ⟨h.1,WF⟩
      have x7:(xa=7)=False:=eq_false WF
      refine⟨_,rfl,.inl ⟨rfl,c.length-(k+1),WF,k+1,some _,.own xa xg,Qa3, ?cb,fun c' e=>Qbh,.inr ⟨_,xa,xg,rfl,qe,rfl,xo,by simpa only[E8,seval,aV] using hXc,QbM⟩,W,zw,by rw[dK]⟩⟩
      simp only[E8,seval,aV];exact⟨cn 2 G.1,cn 4 G.2.1,cn 7 G.2.2⟩
    ·apply Ka (c.length-(k+1))
     ·simp only[ZG,seval,AN,D,A,q0,p,eq,aGN,hw,N,bW];rfl
     ·exact⟨k+1,none,_,Qb6,by simpa only[E8,seval] using G,fun c' e=>Qb7,.inl ⟨rfl,rfl⟩,⟨hL.pw,hL.kq,hL.lo,by have:=hL.hi;omega⟩,zw,by rw[dK]⟩
   ·have a46:(a=46)=False/\(46=a)=False/\(a=7)=False:=⟨eq_false WF,eq_false WF,eq_false WF⟩
    have aGN:∀(gN:St) (d:Option Nat),gN.heap a g=some (.row 3 1 l.length (aH l))->aO (aA prog) 147 [.own a g,aa x] gN d=some { dst:=d,val:=.cY [aa i,ae b]}:=fun gN d h=>by
     rw[dZ,map_cons,map_cons,map_nil,show eE gN (.own a g)=some (ov aH (some l)) from Bz h (eP l),xA,aM,aM,dB];exact RA h147 (fun y Y=>by rcases mem_cons.1 Y with rfl|Y;exact cZ.v _;rcases mem_cons.1 Y with rfl|Y;exact cZ.v _;cases Y) (.cY _ (aU (.v _) (.v _)))
    cases b
    ·refine aGL ?_
     simp only[ZG,seval,AN,D,A,q0,p,u,a46,eq,aGN,hw,N,bW,aNG];refine tW (fun st X st'=>∃a1 g',X=.own a1 g'/\(a1=a/\g'=st.aJ a\/a1=25/\g'=st.aJ 25)/\yQ a g st st'/\g'<st'.aJ a1/\st'.heap a1 g'=some (.row 3 1 (l.take i++[x]++l.drop i).length (aH (l.take i++[x]++l.drop i)))) (aGM (some l) nL x i hi (s:=a) (g:=g) rfl WF _ ?p0 ?p1 ?p2) ?rest
     case p0=>simp only[E8,seval];rintro rfl;simpa using hg
     case p1=>exact fun l' h=>by cases h;simp only[E8,seval,a46,false_and,if_false];exact u
     case p2=>simp only[E8,seval]<;>rfl
     case rest =>
      rintro X st' ⟨xa,xg,rfl,xw,hF,hXc,hX⟩
      simp only[E8,seval,a46,if_false] at xw;have W:=hL.ins hi (T5 rfl) hxr
      have fr:∀y z:Nat,y≠46->¬(y=a/\z=g)->z<st.aJ y->st'.heap y z=st.heap y z:=fun y z J h2 S=>(hF.1 y z (by simp only[E8,seval,J,if_false];omega) h2).trans (by simp only[E8,seval,J,false_and,if_false])
      have cn:∀y:Nat,1<=st.aJ y->1<=st'.aJ y:=fun y h=>Nat.le_trans (by simp only[E8,seval];split<;>omega) (hF.2 y)
      have M:=(fr 2 0 ZB WF G.1).trans D.2.1
      have e4:=(fr 4 0 ZB WF G.2.1).trans D.2.2.2.1
      have e7:=(fr 7 0 ZB WF G.2.2).trans D.2.2.2.2.2.2.1
      have e25:st'.heap 25 0=some (.row 3 1 c.length (aH c)):=(fr 25 0 ZB WF n25).trans p
      simp only[ZG,seval,AN,D,M,e4,e7,eq,hw,bV,aN,aV,NW];have xo:xa=23\/xa=25/\1<=xg:=WF
      have x7:(xa=7)=False:=eq_false WF
      refine⟨_,rfl,.inl ⟨rfl,c.length-(k+1),WF,k+1,some _,.own xa xg,Qa3, ?ob,fun c' e=>Qbh,.inr ⟨_,xa,xg,rfl,qe,rfl,xo,by simpa only[E8,seval,aV] using hXc,QbM⟩,W,zw,by rw[dK]⟩⟩
      simp only[E8,seval,aV];exact⟨cn 2 G.1,cn 4 G.2.1,cn 7 G.2.2⟩
    ·apply Ka (c.length-(k+1))
     ·simp only[ZG,seval,AN,D,A,q0,p,u,a46,eq,aGN,hw,N,bW];rfl
     ·exact⟨k+1,some l,_,Qb6,by simpa only[E8,seval] using G,fun c' e=>Qb7,.inr ⟨l,a,g,rfl,hl0,rfl,ha,by simpa only[E8,seval] using hg,Qbk⟩,⟨hL.pw,hL.kq,hL.lo,by have:=hL.hi;omega⟩,zw,by rw[dK]⟩
 obtain⟨⟨e,st'⟩,J,h2⟩:=key
 cases N:vN prog true GH st with
 | none=>rw[N] at J;cases J
 | some y=>rw[N] at J;cases J;exact⟨_,_,rfl,h2⟩
def aGO (r:bU):bM ((aW r).map br)=some r.toList:=by
 have h:∀l:List Int,bM ((l.map fun x=>AV.v (.int .u8 x)).map br)=some l:=fun l=>by
  induction l with
  | nil=>rfl
  | cons x l S=>show bM (some x :: _)=_;simp only[bM,S,cR]
 exact h r.toList
def aXf (a b:bU):∃z:Int,aA prog 243 [.agg (aW a),.agg (aW b)]=some (aa z):=by
 refine⟨lexB (a.toList.map fun z=>UInt8.ofNat z.toNat) (b.toList.map fun z=>UInt8.ofNat z.toNat),Fz prog ?_⟩
 show gj [.agg (aW a),.agg (aW b)]=_
 unfold gj;simp only[aGO];rw[if_pos ⟨iN a,iN b⟩]
def a4N (x y:dH):∃z:Int,aA prog 217 [ag x,ag y]=some (aa z):=by
 obtain⟨B,hB⟩:=aXf x.root y.root
 have G:=kx hB (aU (oE _) (oE _)) (.v _)
 have C:=fun a b=>kx (aW5 a b) (aU (.v _) (.v _)) (.v _)
 obtain⟨A,hA⟩:∃A,v8 x.aG y.aG=A:=⟨_,rfl⟩
 have D:∀(S:St) (s g:Nat) (d:Option Nat),S.heap s g=some (.row 3 1 2 (aH [A,B]))->aO (aA prog) 289 [.own s g] S d=some { dst:=d,val:=aa (if A=0 then B else A)}:=fun S s g d u=>by
  rw[dZ,map_cons,map_nil,Bz u (eP _),aM,dB];exact zP (aW7 A B)
 have m:∀(ops:Array Oper) (S:St) (T:Nat) (pos:String) (aft:Array Edge),S.env 9=aa A->S.env 14=aa B->cU prog (aA prog) ops ⟨some 15,.buildSlice 22 2 #[(0,.tmp 9),(1,.tmp 14)],T,pos,aft,none⟩ S=some ((S.new 15 (.row 3 1 2 (aH [A,B]))).put (some 15) (.own 15 (S.aJ 15))):=fun ops S T pos aft J h2=>by
  have J:S.ev (.tmp 9)=_:=J
  have h2:S.ev (.tmp 14)=_:=h2
  rw[gF 22 _ _ _ KH,Ny];simp[cT,cd,mP,J,h2,AV.lL,AV.cells,Value.oneCell']
  rfl
 refine⟨if A=0 then B else A, ?_⟩
 rw[cL func217 rfl aXg rfl];refine eM ?_
 simp only[Z8,seval,C,G,D,hA,m];exact⟨_,bE rfl,rfl⟩
def a4O (x y:Table) (hx:Flat x.fL) (hy:Flat y.fL):∃z:Int,aA prog 150 [ax x,ax y]=some (aa z):=by
 obtain⟨z,R⟩:=a4N x.ck y.ck
 have A:=kx R (aU (.agg _ (cM _)) (.agg _ (cM _))) (.v _)
 refine⟨z, ?_⟩
 rw[cL func150 rfl aXh rfl];refine eM ?_
 simp only[Z8,seval,A];exact⟨_,bE rfl,rfl⟩
def a4P (o:Option (List Table)) (M:bg (ol o).length) (p:∀t∈ol o,Flat t.fL) (x:Table) (N:Flat x.fL):∃(k:Nat) (b:Bool),aA prog 149 [ov bG o,ax x,.v (.func (.func 150) #[] #[])]=some (.cY [aa k,ae b])/\k<=(ol o).length:=by
 have ord:∀y:Table,∃z:Int,Flat y.fL->aA prog 150 [ax y,ax x]=some (aa z):=fun y=>by
  by_cases Y:Flat y.fL
  ·obtain⟨z,R⟩:=a4O y x Y N;exact⟨z,fun _=>R⟩
  ·exact⟨0,fun h=>absurd h Y⟩
 obtain⟨k,J,h2,_⟩:=bsF (U:=225) Ku func149 WP rfl aXi rfl rfl fW o M x 150 (fun y=>Classical.choose (ord y)) fun y Y=>kx (Classical.choose_spec (ord y) (p y Y)) (aU (.agg _ (rT y (p y Y))) (.agg _ (rT x N))) (.v _)
 exact⟨k,_,J,h2⟩
def a4Q (o:Option (List Int)) (hn:bg (ol o).length):∃r,aA prog 184 [ov bD o]=some r/\∃(a:Int) (b:Bool),r=.cY [ac a,ae b]:=by
 rw[cL func184 rfl aNz wa]
 simp only[Z8,seval];refine bP (fun m st=>∃(k:Nat) (a:Int),(st.env 7=ov bD o/\st.env 4=ac a/\st.env 8=aa ((ol o).length)/\st.env 9=aa k)/\k<=(ol o).length/\m=(ol o).length-k)
  (fun e st=>(e=.ret/\st.env 2=ac 0/\st.env 3=ae false)\/(e=.exit 0/\∃a:Int,st.env 4=ac a)) (ol o).length ?step ?start ?rest
 case step =>
  rintro m st ⟨k,a,D,hk,hm⟩
  by_cases A:(k:Int)<(ol o).length
  ·have q0:(0:Int)<=k:=WF
   have hw:=wk (k:=k) WF
   by_cases g:u64.wrap (4611686018427387904-a)<gx (0:Int) (ol o) (k:Int)
   ·apply oT (.ret)
    ·simp only[Z8,seval,D,A,q0,g];rfl
    ·exact .inl ⟨rfl,qb,qb⟩
   ·apply oN ((ol o).length-(k+1))
    ·simp only[Z8,seval,D,A,q0,g,hw];rfl
    ·exact⟨k+1,_,qd,WF,rfl⟩
  ·apply oT (.exit 0)
   ·simp only[Z8,seval,D,A];rfl
   ·exact .inr ⟨rfl,a,XC⟩
 case start=>exact⟨0,0,yj,WF,WF⟩
 case rest =>
  rintro e st (⟨rfl,h⟩|⟨rfl,a,h⟩)
  ·simp only[Z8,seval,h];exact⟨_,bT rfl rfl rfl qm qm,_,_,rfl⟩
  ·simp only[Z8,seval,h];exact⟨_,bT rfl rfl rfl qm qm,_,_,rfl⟩
def a4R (t:Table) (b:Option (List Int)) (D:t.fL=ov bD b) (M:bg (ol b).length) (n:Int):∃r,aA prog 112 [ax t,aa n]=some r/\∃e:Int,r=aa e/\e≠21/\(e=0->((ol b).length:Int)=n):=by
 obtain⟨r,X,a,o,rfl⟩:=a4Q b M
 have A:=kx X (bZ (cP b)) (.cY _ (aU (.v _) (.v _)))
 rw[cL func112 rfl aNA rfl];by_cases g1:((ol b).length:Int)=n
 case neg =>
  simp only[Z8,seval,D,bf g1];exact⟨_,bE rfl,_,rfl,ZB,fun h=>wu⟩
 cases o
 ·simp only[Z8,seval,D,bt g1,A,bW];exact⟨_,bE rfl,_,rfl,ZB,fun h=>wu⟩
 ·simp only[Z8,seval,D,bt g1,A,bW];exact⟨_,bE rfl,_,rfl,ZB,fun _=>g1⟩
def a4S (ns:List Node) (w:List Int) (hw:w.length=ns.length) (i j:Int) (i0:0<=i) (i1:i<ns.length) (W:0<=j) (J:j<ns.length):∃r,aA prog 171 [ak ⟨ns⟩,.sl w.length (bD w),aa i,aa j]=some r/\∃b:Bool,r=ae b:=by
 have i2:i<(w.length:Int):=WF
 have D:j<(w.length:Int):=WF
 obtain⟨z,R⟩:=aXf (nd ns i).block.root (nd ns j).block.root
 have G:=kx R (aU (.agg _ (dR _)) (.agg _ (dR _))) (.v _)
 rw[dJ prog func171 rfl WP _ (cF _ _) rfl]
 by_cases g1:gx (0:Int) w j<gx (0:Int) w i
 ·simp only[Z8,seval,i0,i1,i2,W,J,D,g1];exact⟨_,bE rfl,_,rfl⟩
 by_cases g2:gx (0:Int) w i=gx (0:Int) w j
 ·simp only[Z8,seval,i0,i1,i2,W,J,D,g2,Int.lt_irrefl,bt rfl,G];exact⟨_,bE rfl,_,rfl⟩
 ·simp only[Z8,seval,i0,i1,i2,W,J,D,g1,bf g2];exact⟨_,bE rfl,_,rfl⟩
def a4T (ns:List Node) (hu:eK ns) (X:(nd ns 0).up=-1) (hn:bg ns.length) (i:Int) (i0:0<=i):∃r,aA prog 170 [ak ⟨ns⟩,aa i]=some r/\∃o:Option (List Int),r=uo 3 1 aH o/\o≠some []/\bg (ol o).length/\∀x∈ol o,i<x/\0<=x/\x<ns.length:=by
 have gi:¬i<0:=WF
 rw[dJ prog func170 rfl WP _ (cF _ _) rfl]
 simp only[Z8,seval,gi];refine bP (fun m st=>∃(k:Nat) (o:Option (List Int)) (g:Nat),(st.env 11=.sl ns.length (bS ns)/\st.env 1=aa i/\st.env 12=aa ns.length/\st.env 13=aa k/\st.env 5=rv 25 g o)/\(∀l,o=some l->g<st.aJ 25/\st.heap 25 g=some (.row 3 1 l.length (aH l))/\0<l.length/\l.length<=k/\∀x∈l,i<x/\0<=x/\x<ns.length)/\k<=ns.length/\m=ns.length-k)
  (fun e st=>e=.exit 0/\∃(o:Option (List Int)) (g:Nat),st.env 5=rv 25 g o/\∀l,o=some l->st.heap 25 g=some (.row 3 1 l.length (aH l))/\0<l.length/\bg l.length/\∀x∈l,i<x/\0<=x/\x<ns.length) ns.length ?step ?start ?rest
 case step =>
  rintro m st ⟨k,o,g,D,p,hk,hm⟩
  by_cases A:(k:Int)<ns.length
  case neg =>
   apply oT (.exit 0)
   ·simp only[Z8,seval,D,A];rfl
   ·exact⟨rfl,o,g,XC,fun l e=>by simp only[E8,seval];have:=p l e;exact⟨this.2.1,this.2.2.1,WF,this.2.2.2.2⟩⟩
  have q0:(0:Int)<=k:=WF
  have hw:=wk (k:=k) WF
  by_cases g1:(nd ns (k:Int)).up=i
  case neg =>
   apply oN (ns.length-(k+1))
   ·simp only[Z8,seval,D,A,q0,hw,bf g1];rfl
   ·exact⟨k+1,o,g,qd,fun l e=>by simp only[E8,seval];have:=p l e;exact⟨this.1,this.2.1,this.2.2.1,WF,this.2.2.2.2⟩,WF,rfl⟩
  have kk:i<(k:Int):=by
   by_cases G:k=0
   ·subst G;rw[show ((0:Nat):Int)=0 from rfl,X] at g1;omega
   ·have:=(hu (k:Int) WF A).2;omega
  cases o with
  | none =>
    apply oN (ns.length-(k+1))
    ·simp only[Z8,seval,D,A,q0,hw,bt g1,nJ];rfl
    ·exact⟨k+1,some [(k:Int)],_,Qci,fun l e=>by cases e;exact⟨Yo,Wl,qe,qe,fun x N=>by cases mem_singleton.1 N;exact⟨kk,q0,A⟩⟩,WF,rfl⟩
  | some l =>
    obtain⟨hg,u,l0,l1,W⟩:=p l rfl
    have vO:(g=st.aJ 25)=False:=eq_false WF
    have nl:bg l.length:=WF
    apply oN (ns.length-(k+1))
    ·simp only[Z8,seval,D,u,vO,A,q0,hw,bt g1,iL,Ai _ _ _ _ nl];rfl
    ·exact⟨k+1,some (l++[(k:Int)]),_,Qci,fun l' e=>by cases e;exact⟨Yo,Wl,qe,yy,fun x N=>(mem_append.1 N).elim (W x) fun N=>by cases mem_singleton.1 N;exact⟨kk,q0,A⟩⟩,WF,rfl⟩
 case start=>exact⟨0,none,0,by simp only[E8,seval,nJ]<;>and_intros<;>rfl,(fun l e=>nomatch e),WF,WF⟩
 case rest =>
  rintro e st ⟨rfl,o,g,C,p⟩
  cases o with
  | none =>
    simp only[Z8,seval,C,nJ];exact⟨_,bE rfl wh Qa1,none,rfl,(fun e=>nomatch e),ZB,(fun x N=>nomatch N)⟩
  | some l =>
    obtain⟨u,h0,J,h2⟩:=p l rfl
    simp only[Z8,seval,C,iL];exact⟨_,oH rfl (by simp only[E8,seval,C,iL]<;>rfl) xr (eP _),some l,rfl,(fun e=>by cases e;cases h0),J,h2⟩
def mkB (n:Nat):((List.range n).flatMap fun _=>[AV.v (.bool false)])=iJ (List.replicate n false):=by
 induction n with
 | zero=>rfl
 | succ n S=>rw[range_succ,flatMap_append,S,replicate_succ',iJ,iJ,flatMap_append];simp[rZ]
def V9 (l:List Bool) (i:Int) (x:Bool) (h:i.toNat<l.length):dE (iJ l) i.toNat ([ae x]) (i.toNat+1)=iJ (l.set i.toNat x):=by
 have:=aBK l i x h
 rwa [Nat.mul_one] at this
def dc (ns:List Node) (m:List Bool):Prop:=m.length=ns.length/\∀j:Int,0<=j->j<ns.length->gx false m j=true->(nd ns j).status≠2
def W0 (h:i.toNat<m.length) (z:Bool):gx false (m.set i.toNat z) i=z:=by simp[gx,h]
def dc.set {ns:List Node} {m:List Bool} (p:dc ns m) {i:Int} (i0:0<=i) (z:Bool) (h:z=true->(nd ns i).status≠2):dc ns (m.set i.toNat z):=⟨by rw[length_set];exact p.1,fun j W J Y=>by
 by_cases e:i=j
 ·subst e;rw[W0 (by rw[p.1];omega)] at Y
  exact h Y
 ·refine p.2 j W J ?_
  rw[<- Y];have:i.toNat≠j.toNat:=WF
  simp[gx,this]⟩
def a4U (k:KI s v q) (vs:VS s v):∃x,aA prog 104 [bc s]=some x/\∃m:List Bool,x=.uniq 4 1 m.length (iJ m)/\m.length=v.ns.length/\∀j:Int,0<=j->j<v.ns.length->gx false m j=true->(nd v.ns j).status≠2:=by
 have hs:=k.gi.sd
 have W:=hs.flat
 have hu:=k.gi.up
 have hn:=hs.nn
 have h0:=k.gi.pos
 have hQ:∀i:Int,0<=i->i<v.ns.length->∃b:Bool,(b=true->(nd v.ns i).status≠2)/\∀(st:St) (d:Option Nat),aO (aA prog) 167 [bc s,aa i] st d=some { dst:=d,val:=ae b}:=fun i i0 i1=>by
  obtain⟨_,X,b,rfl,hb⟩:=a4k hs k.gi.iH i i0 i1
  exact⟨b,hb,kx X (aU W (.v _)) (.v _)⟩
 have Y:i64.wrap ((v.ns.length:Int)-1)=v.ns.length-1:=Dz _ WF WF
 rw[dJ prog func104 rfl WP _ (cF _ _) rfl]
 have m1:(v.ns.length:Int) * 1<=140737488355328:=WF
 have m2:(v.ns.length:Int)<=maxLen:=xm
 simp only[Z8,seval,m1,m2,hs.tree,Y,Int.natCast_nonneg,and_self,if_true,Int.toNat_natCast,mkB];refine bP (fun a st=>∃(i:Int) (m:List Bool),(st.env 1=.ptr 1 0 0/\st.heap 1 0=some (.cells (aB s))/\st.env 3=.own 10 0/\st.heap 10 0=some (.row 4 1 m.length (iJ m))/\st.env 4=aa i)/\dc v.ns m/\-1<=i/\i<v.ns.length/\a=(i+1).toNat)
  (fun e st=>e=.exit 0/\∃m:List Bool,st.env 3=.own 10 0/\st.heap 10 0=some (.row 4 1 m.length (iJ m))/\dc v.ns m) v.ns.length ?step ?start ?rest
 case step =>
  rintro a st ⟨i,m,D,hm,i0,i1,ha⟩
  by_cases G:0<=i
  case neg =>
   apply oT (.exit 0)
   ·simp only[Z8,seval,D,G];rfl
   ·exact⟨rfl,m,XC,XC,hm⟩
  have hw:i64.wrap (i-1)=i-1:=Dz _ WF WF
  have S:i<m.length:=by rw[hm.1];exact i1
  have N:i.toNat<m.length:=WF
  have hle:i.toNat+1<=m.length:=WF
  have M:=fun x=>V9 m i x N
  have u:=CK (T:=4) (n:=m.length) (k:=1) G S sw ZB ZB
  have gs:=fun z=>W0 N z
  have ls:∀z,(m.set i.toNat z).length=m.length:=fun z=>length_set
  have A:=fun z=>CK (T:=4) (n:=m.length) (l:=m.set i.toNat z) (k:=1) G (by rw[ls];exact S) sw ZB ZB
  simp only[Nat.mul_one,gs] at u A;obtain⟨b,hb,J⟩:=hQ i G i1
  have fin:∀z,(z=true->(nd v.ns i).status≠2)->dc v.ns (m.set i.toNat z):=fun z R=>hm.set G z R
  obtain⟨z,R⟩:∃z,gx false m i=z:=⟨_,rfl⟩
  by_cases gu:0<=(nd v.ns i).up
  case neg =>
   cases z
   all_goals cases b
   all_goals
    apply oN ((i-1+1).toNat)
    ·simp only[Z8,seval,D,hs.tree,G,i1,hw,S,u,R,J,M,hle,ls,A,gu];rfl
    ·exact⟨i-1,_,Qch,fin _ (by have:=hm.2 i G i1;simp_all),WF,WF,rfl⟩
  have i2:0<i:=by
   by_cases e:i=0
   ·subst e;rw[k.gi.Nv] at gu;omega
   ·omega
  have u1:=(hu i i2 i1).2
  have r:(nd v.ns i).up<m.length:=WF
  have u3:(nd v.ns i).up.toNat<m.length:=WF
  have u4:(nd v.ns i).up.toNat+1<=m.length:=WF
  have up2:=V9 (m.set i.toNat true) (nd v.ns i).up true (by rw[ls];exact u3)
  have fin2:(nd v.ns i).status≠2->dc v.ns ((m.set i.toNat true).set (nd v.ns i).up.toNat true):=fun h=>(fin true fun _=>h).set gu true fun _ h2=>h ((vs.AI i i2 i1).2 h2)
  cases z
  all_goals cases b
  case false.false =>
   apply oN ((i-1+1).toNat)
   ·simp only[Z8,seval,D,hs.tree,G,i1,hw,S,u,R,J,M,hle,ls,A,gu];rfl
   ·exact⟨i-1,_,Qch,fin false (fun e=>nomatch e),WF,WF,rfl⟩
  all_goals
   apply oN ((i-1+1).toNat)
   ·simp only[Z8,seval,D,hs.tree,G,i1,hw,S,u,R,J,M,hle,ls,A,gu,r,up2,u4];rfl
   ·exact⟨i-1,(m.set i.toNat true).set (nd v.ns i).up.toNat true,by simp only[E8,seval,D,length_set]<;>and_intros<;>rfl,fin2 (by have:=hm.2 i G i1;simp_all),WF,WF,rfl⟩
 case start=>exact⟨_,List.replicate v.ns.length false,QbE,⟨qe,fun j j0 j1 h=>by simp[gx,show j.toNat<v.ns.length from WF] at h⟩,WF,WF,WF⟩
 case rest =>
  rintro e st ⟨rfl,m,C,Ea,p⟩
  simp only[Z8,seval,C,Ea];exact⟨_,oH rfl wh Qbo (Ke _),m,rfl,p.1,p.2⟩
end Go.Ab.Tryz
