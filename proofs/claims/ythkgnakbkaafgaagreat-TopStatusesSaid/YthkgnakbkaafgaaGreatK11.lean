/-
  Part 11 of the proof: an evaluator of programs, its soundness, and what functions of this program compute.
-/
import Derived.Test.YthkgnakbkaafgaaGreatK10
import Derived.Test.YthkgnakbkaafgaaGreatK9
set_option linter.all false
set_option maxRecDepth 20000
set_option maxHeartbeats 40000000
open Go.IntKind (i64 u64)
open List Go.Proofs.Tryz
noncomputable section
namespace Go.Ab.Tryz
open Classical Go.Proofs Go.Ab
variable {α:Type} {k:Nat} {s:aF} {v:SV} {ns N:List Node} {r:bU} {j q i st e x p:Int} {b:Block} {L:List Block} {n:Node} {c1 c2:dH}
def wA (s g:Nat) (cs:List α->List AV) (o:Option (List α)):gB (.own s g) (ov cs o)=True:=wa
def wB (s g:Nat) (cs:List α->List AV) (o:Option (List α)):gB (ov cs o) (.own s g)=True:=wa
def yI (s g n:Nat) (cs:List α->List AV) (o:Option (List α)):gB (.ptr s g n) (ov cs o)=True:=wa
def yJ (s g n:Nat) (cs:List α->List AV) (o:Option (List α)):gB (ov cs o) (.ptr s g n)=True:=wa
def c80 (t:Table) (b:Option (List Int)) (hb:t.fL=ov bD b) (W:bg (ol b).length):aA prog 80 [ax t]=some (ax ⟨t.ck,ov bD (some (ol b))⟩):=by
 rw[cL func80 rfl a01 rfl];refine eM ?_
 simp only[Z8,seval,hb,Hb _ W];exact⟨_,by apply jE;rfl;all_goals simp only[aI,Z8,seval,dC,Wd,eG,zA]<;>rfl,rfl⟩
def YH (l:List Table):Prop:=l.Pairwise fun a b=>Gz a.ck b.ck<0
def aOr (t:Table) (n:Int):Prop:=aA prog 37 [ax t,aa n]=some (aa 0)
def a02 (o:Option (List Table)) (D:Table) (L:List Table):Prop:=L.length=(ol o).length+1/\(∀x∈L,x∈ol o\/x=D)/\(∀x∈ol o,x∈L)/\(YH (ol o)->(∀x∈ol o,x.ck≠D.ck)->YH L)
theorem aFh {l:List Table} {t:Table} (hs:YH l) (M:∀x∈l,x.ck≠t.ck) (hk:k<=l.length) (h1:∀j:Nat,j<k->Gz (gx fW l (j:Int)).ck t.ck<0) (h2:k<l.length->¬Gz (gx fW l (k:Int)).ck t.ck<0):YH (l.take k++[t]++l.drop k):=by
 have hg:∀(j:Nat) (h:j<l.length),gx fW l (j:Int)=l[j]:=fun j h=>by simp[gx,h]
 have lo:∀a∈l.take k,Gz a.ck t.ck<0:=fun a Y=>by
  grind [mem_take_iff_getElem]
 have hi:∀b∈l.drop k,Gz t.ck b.ck<0:=fun b hb=>by
  obtain⟨j,hj,rfl⟩:=mem_drop_iff_getElem.1 hb
  have kl:k<l.length:=WF
  have:=h2 kl
  rw[hg k kl] at this;have S:=aFc this (M _ (getElem_mem kl))
  rcases Nat.eq_zero_or_pos j with e|e
  ·subst e;exact S
  ·exact aA9 S (pairwise_iff_getElem.1 hs k (k+j) kl WF WF)
 refine pairwise_append.2 ⟨pairwise_append.2 ⟨hs.sublist (take_sublist ..),pairwise_singleton ..,fun a Y b hb=>?_⟩,hs.sublist (drop_sublist ..),fun a Y b hb=>?_⟩
 all_goals grind [aA9]
def a03 (o:Option (List Table)) (M:((ol o).length:Int)<999999) (hT:∀x∈ol o,Flat x.fL) (t:Table) (b:Option (List Int)) (hb:t.fL=ov bD b) (W:bg (ol b).length) :
 ∃r,aA prog 320 [ov bG o,ax t]=some r/\∃L,a02 o ⟨t.ck,ov bD (some (ol b))⟩ L/\r=.uniq 74 34 L.length (bG L):=by
 have C:Flat (ax t):=(iQ t).2 (by rw[hb];exact cP b)
 have p:Flat (ax ⟨t.ck,ov bD (some (ol b))⟩):=(iQ _).2 (cP (some (ol b)))
 have hto:=mI o hT
 have u:=kx (c80 t b hb W) (bZ C) p
 rw[cG func320 rfl aTF WP wa]
 simp only[ZG,seval,YI];refine jV (fun m st=>∃k:Nat,(st.env 0=ov bG o/\st.env 3=.ptr 3 0 0/\st.heap 3 0=some (.cells (cH t))/\st.env 5=aa k)/\(∀j:Nat,j<k->Gz (gx fW (ol o) (j:Int)).ck t.ck<0)/\k<=(ol o).length/\m=(ol o).length-k)
  (fun e st=>e=.exit 0/\∃k:Nat,(st.env 0=ov bG o/\st.env 3=.ptr 3 0 0/\st.heap 3 0=some (.cells (cH t))/\st.env 5=aa k)/\(∀j:Nat,j<k->Gz (gx fW (ol o) (j:Int)).ck t.ck<0)/\(k<(ol o).length->¬Gz (gx fW (ol o) (k:Int)).ck t.ck<0)/\k<=(ol o).length) (ol o).length ?step ?start ?rest
 case step =>
  rintro m st ⟨k,D,Y,R,hm⟩
  by_cases A:(k:Int)<(ol o).length
  ·obtain ⟨q0,hw⟩ := yY k
   by_cases J:Gz (gx fW (ol o) (k:Int)).ck t.ck<0
   ·apply Ka ((ol o).length-(k+1))
    ·simp only[ZG,seval,YI,D,A,q0,k39,J,hw];rfl
    ·exact⟨k+1,XC,fun j h=>(Nat.lt_succ_iff_lt_or_eq.1 h).elim (Y j) fun e=>by subst e;exact J,WF,rfl⟩
   ·apply BW (.exit 0)
    ·simp only[ZG,seval,YI,D,A,q0,k39,J];rfl
    ·exact⟨rfl,k,XC,Y,fun _=>J,R⟩
  ·apply BW (.exit 0)
   ·simp only[ZG,seval,YI,D,A];rfl
   ·exact⟨rfl,k,XC,Y,fun h=>absurd WF A,R⟩
 case start=>exact⟨0,Wl,fun j h=>WF,WF,WF⟩
 case rest =>
  rintro e st ⟨rfl,k,D,hj1,hj2,R⟩
  have e1:ol (o.map (·.take k))=(ol o).take k:=og
  have e2:ol (o.map (·.drop k))=(ol o).drop k:=og
  have G:bg ((ol (o.map (·.take k))).length:Nat):=qg
  have N:bg ((ol (o.map (·.drop k))).length:Nat):=qg
  have l:bg ((ol (o.map (·.take k))++[(⟨t.ck,ov bD (some (ol b))⟩:Table)]).length:Nat):=qg
  have q0:(0:Int)<=k:=WF
  have S:(k:Int)<=((ol o).length:Int):=WF
  have X:∀x∈bG (ol (o.map (·.take k))++[(⟨t.ck,ov bD (some (ol b))⟩:Table)]++ol (o.map (·.drop k))),Flat x:=by
   grind [jL,cP]
  simp only[ZG,seval,YI,wA,wB,and_self,D,q0,S,Int.toNat_natCast,u,ON _ G,We _ _ _ _ G,OO _ _ _ _ l N];refine⟨_,oH rfl Wl Wl X,_,⟨?_,fun x m=>?_,fun x m=>?_,fun hs M=>?_⟩,rfl⟩
  ·grind
  ·grind
  ·grind [take_append_drop]
  grind [aFh]
def a06 (o:Option (List Table)) (M:((ol o).length:Int)<999999) (hT:∀x∈ol o,vY x) (t:Table) (D:vY t) (n lim:Int) :
 ∃r,aA prog 265 [ov bG o,ax t,aa n,aa lim]=some r/\∃o' e,r=.cY [ov bG o',aa e]/\e≠21/\((ol o').length:Int)<=max ((ol o).length:Int) lim/\(∀x∈ol o',vY x)/\(ol o ⊆ ol o')/\(e=0->(o'≠some []/\(YH (ol o)->YH (ol o')))/\∀x∈ol o',x∈ol o\/(0<n->aOr x n)/\∃B,x.fL=ov bD (some B)/\(B.length:Int)=n):=by
 obtain⟨b,hb,W⟩:=id D
 have C:Flat (ax t):=(iQ t).2 D.fl
 have Y:=mI o fun x m=>(hT x m).fl
 obtain⟨r,X,e,rfl,he,hlen⟩:=aTs t b hb W n
 have A:=kx X (aU C (.v _)) (.v _)
 have G:bg (ol o).length:=WF
 have S:=fO o G Y
 rw[cL func265 rfl aTG wa]
 by_cases g1:e=0
 case neg =>
  simp only[Z8,seval,A,bf g1,oI _ _ fun x m=>(hT x m).fl]
  exact⟨_,bT rfl rfl rfl xf xf,o,e,rfl,he,WF,hT,fun x m=>m,fun h=>absurd h g1⟩
 by_cases g2:0<=QV (ol o) t.ck
 ·simp only[Z8,seval,A,bt g1,S,g2];exact⟨_,bT rfl rfl rfl xf xf,o,9,rfl,ZB,WF,hT,fun x m=>m,fun h=>wu⟩
 by_cases g3:lim<=((ol o).length:Int)
 ·simp only[Z8,seval,A,bt g1,S,g2,g3];exact⟨_,bT rfl rfl rfl xf xf,o,11,rfl,ZB,WF,hT,fun x m=>m,fun h=>wu⟩
 obtain⟨r2,J,L,⟨hL1,p,hL3,hL4⟩,rfl⟩:=a03 o M (fun x m=>(hT x m).fl) t b hb W
 have l:∀x∈L,vY x:=fun x m=>(p x m).elim (hT x) fun e=>by rw[e];exact⟨some (ol b),rfl,W⟩
 have u:∀(st:St),aO (aA prog) 320 [ov bG o,ax t] st (some 31)=_:=fun st=>gA (st:=st) (d:=31) (aU Y C) J
 have hex:=EC L.length L fun x m=>(l x m).fl
 simp only[Z8,seval,A,bt g1,S,g2,g3,u];have qE:∀x∈ol o,x.ck≠t.ck:=fun x N e=>by
  obtain⟨i,hi,rfl⟩:=getElem_of_mem N
  grind [QV,lA,gx]
 have htv:0<n->aOr ⟨t.ck,ov bD (some (ol b))⟩ n:=fun h0=>by
  have W:=hlen g1
  cases b with
  | none=>have:((0:Nat):Int)=n:=W;omega
  | some B =>
    have R:t=⟨t.ck,ov bD (some B)⟩:=by cases t;grind
    show aA prog 37 [ax ⟨t.ck,ov bD (some B)⟩,_]=_
    rw[<- R,X,g1]
 exact⟨_,bT rfl rfl rfl (by simp only[E8,seval,hex]<;>rfl) (by simp only[E8,seval,hex]<;>rfl),some L,0,rfl,ZB,by show ((L.length:Nat):Int)<=_;omega,l,hL3,fun _=>⟨⟨fun e=>qg,fun hs=>hL4 hs qE⟩,fun x m=>(p x m).imp id fun e=>qg⟩⟩
def a07 (hs:SD s v) (M:((ol v.T).length:Int)<999999) (t:Table) (ht:vY t) :
 ∃r,aA prog 182 [bc s,ax t]=some r/\∃D e,r=.cY [bc D,aa e]/\Flat (bc D)/\e≠21/\(e=0->∃o',D={ s with tables:=ov bG o' }/\((ol o').length:Int)<=max ((ol v.T).length:Int) s.cFg.lim.rV/\(∀x∈ol o',vY x)/\(ol v.T ⊆ ol o')/\(o'≠some []/\(YH (ol v.T)->YH (ol o')))/\∀x∈ol o',x∈ol v.T\/(0<((ol v.B).length:Int)->aOr x (ol v.B).length)/\∃B,x.fL=ov bD (some B)/\(B.length:Int)=(ol v.B).length):=by
 have hf:=hs.flat
 have nY:=hs.fl
 have C:Flat (ax t):=(iQ t).2 ht.fl
 have R:Flat (bc eU):=by simp only[sB,eU,sG,wC,Ag,Pw,and_self]
 obtain⟨r,X,e,rfl,he⟩:=x37 t ht (ol v.B).length
 have A:=kx X (aU C (.v _)) (.v _)
 obtain⟨r2,J,o',e2,rfl,u,hl2,S,G,W⟩:=a06 v.T M hs.tB t ht (ol v.B).length s.cFg.lim.rV
 have p:Flat (ov bG o'):=mI o' fun x m=>(S x m).fl
 have N:=kx J (by grind [aOd,SD.fT]) (.cY _ (aU p (.v _)))
 rw[cL func182 rfl aTH rfl];by_cases g1:e=0
 case neg =>
  simp only[Z8,seval,DQ hs,A,bf g1];exact⟨_,qh,eU,e,rfl,R,he,fun h=>absurd h g1⟩
 by_cases g2:t.ck.aG<s.aL.dX.aG
 ·simp only[Z8,seval,DQ hs,A,bt g1,g2];exact⟨_,qh,eU,13,rfl,R,ZB,fun h=>wu⟩
 by_cases g3:e2=0
 case neg =>
  simp only[Z8,seval,DQ hs,A,bt g1,g2,hs.tables,N,bW,bf g3];exact⟨_,qh,eU,e2,rfl,R,u,fun h=>absurd h g3⟩
 ·have Y:Flat (bc ({ s with tables:=ov bG o' })):=jd
  simp only[Z8,seval,DQ hs,A,bt g1,g2,hs.tables,N,bW,bt g3];exact⟨_,by apply bT;rfl;all_goals simp only[aI,bC,Z8,seval,Y]<;>rfl,_,0,rfl,Y,ZB,fun _=>⟨o',rfl,hl2,S,G,W g3⟩⟩
def Fj (v:SV):Int:=qP (fun k=>0<=aD v.ns (gx gQ (ol v.O) k).parent) (ol v.O).length
def aTI (hs:SD s v):aA prog 261 [bc s]=some (aa (Fj v)):=by
 have hn:=hs.nO
 rw[cL func261 rfl aTJ rfl];refine eM ?_
 simp only[Z8,seval,hs.bL];refine bP (fun m st=>∃k:Nat,(st.env 1=.ptr 1 0 0/\st.heap 1 0=some (.cells (aB s))/\st.env 3=aa k)/\(∀j:Nat,j<k->¬(0<=aD v.ns (gx gQ (ol v.O) (j:Int)).parent))/\k<=(ol v.O).length/\m=(ol v.O).length-k)
  (fun e st=>(e=.ret/\∃k:Nat,k<(ol v.O).length/\(0<=aD v.ns (gx gQ (ol v.O) (k:Int)).parent)/\(∀j:Nat,j<k->¬(0<=aD v.ns (gx gQ (ol v.O) (j:Int)).parent))/\st.env 2=aa (k:Nat))\/(e=.exit 0/\(∀j:Nat,j<(ol v.O).length->¬(0<=aD v.ns (gx gQ (ol v.O) (j:Int)).parent))/\st.env 1=.ptr 1 0 0/\st.heap 1 0=some (.cells (aB s)))) ((ol v.O).length) ?step ?start ?rest
 case step =>
  rintro m st ⟨k,D,Y,R,hm⟩
  by_cases A:(k:Int)<(ol v.O).length
  ·obtain ⟨q0,hw⟩ := yY k
   by_cases u:0<=aD v.ns (gx gQ (ol v.O) (k:Int)).parent
   ·apply oT (.ret)
    ·simp only[Z8,seval,D,A,q0,hs.bL,hs.tree,qL _ _ hs.nn,u];rfl
    ·exact .inl ⟨rfl,k,WF,u,Y,by simp only[E8,seval,hs.bL,hs.tree,qL _ _ hs.nn]⟩
   ·apply oN ((ol v.O).length-(k+1))
    ·simp only[Z8,seval,D,A,q0,hs.bL,hs.tree,qL _ _ hs.nn,u,hw];rfl
    ·exact⟨k+1,XC,fun j h=>(Nat.lt_succ_iff_lt_or_eq.1 h).elim (Y j) fun e=>vg,WF,rfl⟩
  ·apply oT (.exit 0)
   ·simp only[Z8,seval,D,A,hs.bL,hs.tree,qL _ _ hs.nn];rfl
   ·exact .inr ⟨rfl,fun j h=>Y j WF,XC⟩
 case start=>exact⟨0,Wl,fun j h=>WF,WF,WF⟩
 case rest =>
  rintro e st (⟨rfl,k,R,u,Y,h⟩|⟨rfl,Y,D⟩)
  ·have C:Fj v=k:=Ad u Y _ R
   simp only[Z8,seval];exact⟨_,bE rfl qm XG,wm⟩
  ·have C:Fj v=-1:=pN _ Y
   simp only[Z8,seval];exact⟨_,bE rfl Wl XG,wm⟩
def P9 (hs:SD s v):KC 261 [bc s] (aa (Fj v)):=fun _ _=>aX (bZ hs.flat) (aTI hs) (.v _)
def Sm (e:Int) (r:bU) (a:List lO × Int) (x:Int):List lO × Int :=
 if (gx nP a.1 x).has=false\/(gx nP a.1 x).aG<e then (a.1.set x.toNat ⟨true,e,r⟩,i64.wrap (a.2+1)) else a
def pZ (L:List lO) (e:Int) (r:bU) (V:List Int):List lO × Int:=V.foldl (Sm e r) (L,0)
theorem aCF (e:Int) (r:bU) (a:List lO × Int) (x:Int):(Sm e r a x).1.length=a.1.length:=by unfold Sm;split<;>simp
theorem Wf (L:List lO) (e:Int) (r:bU) (V:List Int):(pZ L e r V).1.length=L.length:=by
 unfold pZ;suffices h:∀(V:List Int) (a:List lO × Int),(V.foldl (Sm e r) a).1.length=a.1.length from h V _
 intro V;induction V<;>grind [aCF]
def ED (L:List lO) (e:Int) (r:bU) (V:List Int) (k:Nat) (h:k<V.length):pZ L e r (V.take (k+1))=Sm e r (pZ L e r (V.take k)) (gx (0:Int) V k):=by
 grind [pZ,take_succ_eq_append_getElem,gx]
def a08 (o:Option (List lO)) (M:bg (ol o).length) (e:Int) (r:bU) (V:Option (List Int)) (hV:bg (ol V).length) (X:∀x∈ol V,0<=x/\x<(ol o).length) :
 aA prog 312 [ov dF o,ac e,.agg (aW r),ov aH V]=some (.cY [.sl (ol o).length (dF (pZ (ol o) e r (ol V)).1),aa ((pZ (ol o) e r (ol V)).2)]):=by
 rw[cL func312 rfl aTK (by cases o<;>cases V<;>rfl)]
 refine eM ?_
 simp only[Z8,seval,YJ _ M];refine bP (fun m st=>∃(k:Nat) (l:List lO) (c:Int),(st.env 1=ac e/\st.env 6=.ptr 6 0 0/\st.heap 6 0=some (.cells (aW r))/\st.env 3=ov aH V/\st.env 10=.own 15 0/\st.heap 15 0=some (.row 167 34 l.length (dF l))/\st.env 11=aa c/\st.env 12=aa k)/\pZ (ol o) e r ((ol V).take k)=(l,c)/\l.length=(ol o).length/\k<=(ol V).length/\m=(ol V).length-k)
  (fun ex st=>ex=.exit 0/\∃(l:List lO) (c:Int),(st.env 10=.own 15 0/\st.heap 15 0=some (.row 167 34 l.length (dF l))/\st.env 11=aa c)/\pZ (ol o) e r (ol V)=(l,c)/\l.length=(ol o).length) (ol V).length ?step ?start ?rest
 case step =>
  rintro m st ⟨k,l,c,D,G,W,hk,hm⟩
  by_cases A:(k:Int)<(ol V).length
  ·obtain ⟨q0,hw⟩ := yY k
   have p:=ED (ol o) e r (ol V) k WF
   rw[G] at p;unfold Sm at p;have N:=X _ (lB (z:=(0:Int)) q0 A)
   obtain⟨x,ex⟩:∃x,gx (0:Int) (ol V) (k:Int)=x:=⟨_,rfl⟩
   rw[ex] at N p;have x0:0<=x:=N.1
   have x1:x<(l.length:Int):=by rw[W];exact N.2
   have x2:x.toNat<l.length:=WF
   have x3:x.toNat * 34+34<=l.length * 34:=WF
   have ld:=RC (T:=167) (n:=l.length) (k:=34) x0 x1 aFk ZB ZB
   by_cases J:(gx nP l x).has=true
   ·by_cases h2:(gx nP l x).aG<e
    ·rw[if_pos (.inr h2)] at p;apply oN ((ol V).length-(k+1))
     ·simp only[Z8,seval,D,A,q0,ex,x0,x1,x2,x3,ld,J,h2,Sn _ _ _ x2,hw];rfl
     ·exact⟨k+1,_,_,yk,p,oh,WF,rfl⟩
    ·rw[if_neg qg] at p
     apply oN ((ol V).length-(k+1))
     ·simp only[Z8,seval,D,A,q0,ex,x0,x1,x2,x3,ld,J,h2,hw];rfl
     ·exact⟨k+1,l,c,XC,p,W,WF,rfl⟩
   ·have u:(gx nP l x).has=false:=ja
    rw[if_pos (.inl u)] at p;apply oN ((ol V).length-(k+1))
    ·simp only[Z8,seval,D,A,q0,ex,x0,x1,x2,x3,ld,u,Sn _ _ _ x2,hw];rfl
    ·exact⟨k+1,_,_,yk,p,oh,WF,rfl⟩
  ·have Gt:k=(ol V).length:=WF
   rw[Gt,take_length] at G;apply oT (.exit 0)
   ·simp only[Z8,seval,D,A];rfl
   ·exact⟨rfl,l,c,XC,G,W⟩
 case start=>exact⟨0,ol o,0,Wl,rfl,rfl,WF,WF⟩
 case rest =>
  rintro ex st ⟨rfl,l,c,D,G,W⟩
  rw[G];simp only[Z8,seval,D];exact⟨_,bT rfl rfl rfl (by simp only[E8,seval,D,BX]<;>rfl) (by simp only[E8,seval,D,BX]<;>rfl),by rw[W]⟩
def aTL (o:Option (List lO)) (M:bg (ol o).length) (e:Int) (r:bU) (V:Option (List Int)) (hV:bg (ol V).length) (X:∀x∈ol V,0<=x/\x<(ol o).length) (st:St) (d:Option Nat) :
 aO (aA prog) 312 [ov dF o,ac e,.agg (aW r),ov aH V] st d=some { dst:=d,val:=.cY [.sl (ol o).length (dF (pZ (ol o) e r (ol V)).1),aa ((pZ (ol o) e r (ol V)).2)]} :=
 aX jd (a08 o M e r V hV X) (.cY _ (aU (.sl _ _ (mR _)) (.v _)))
def Ec (s:aF) (v:SV) (a:qX) (V:List Int):aF:={ s with dI:={ s.dI with cJ:=ov dF (some (pZ (ol v.L) a.target.aG a.root V).1)} }
def a09 (hs:SD s v) (a:qX) (V:Option (List Int)) (Y:a.dL=ov aH V) (hV:bg (ol V).length) (X:∀x∈ol V,0<=x/\x<(ol v.L).length) :
 aA prog 255 [bc s,au a]=some (bc (Ec s v a (ol V))):=by
 have p:=hs.fl
 rw[cL func255 rfl aTM rfl];refine eM ?_
 simp only[Z8,seval,hs.cJ,Y,aTL v.L hs.nL _ _ V hV X,bW];exact⟨_,iI rfl (by simp only[E8,seval,p,and_self]<;>rfl) (by simp only[Z8,seval,p,and_self]<;>rfl) jd,by unfold Ec;simp only[ov,Wf]⟩
theorem oR (ns:List Node) (r:bU) (h:0<=aD ns r):(nd ns (aD ns r)).block.root=r:=by
 grind [aD,findIdx?_eq_some_iff_getElem,nd]
theorem Kb (h0:0<=j) (J:j<ns.length) (hr:(nd ns j).block.root=r):0<=aD ns r:=by
 unfold aD;cases hf:ns.findIdx? (fun n=>decide (n.block.root=r)) with
 | none =>
   obtain⟨hj,e⟩:=Pv h0 J
   grind
 | some k=>simp only;omega
structure GI (s:aF) (v:SV) (q:Int):Prop where
 sd:SD s v
 up:eK v.ns
 Nv:(nd v.ns 0).up=-1
 pos:0<v.ns.length
 nl:(v.ns.length:Int)<=s.cFg.lim.tO
 RE:s.cFg.lim.tO<=4096
 iH:1<=s.cFg.iH/\s.cFg.iH<=64
 Wg:(ol v.L).length=(ol v.B).length
 nB:((ol v.B).length:Int)<=1024
 nO:((ol v.O).length:Int)<=s.cFg.lim.vA
 AH:s.cFg.lim.vA<=64
 nE:((ol v.E).length:Int)<=s.cFg.lim.mK
 KU:s.cFg.lim.mK<=256
 nT:((ol v.T).length:Int)<=s.cFg.lim.rV
 KV:s.cFg.lim.rV<=64
 nQ:((ol v.Q).length:Int)<=q
 N8:q<=900000
 dX:0<=aD v.ns s.aL.dX.root
def GI.sp (h:GI s v q):s.cFg.iH≠0:=by have:=h.iH.1;omega
def qA (s:aF) (v:SV) (c1 c2:dH):(rH s v c1 c2).cFg=s.cFg:=by grind [rH]
def Fk (s:aF) (v:SV) (c1 c2:dH):(rH s v c1 c2).now=s.now:=by grind [rH]
theorem GI.dE {s:aF} {v:SV} {q:Int} (h:GI s v q) (c1 c2:dH):GI (rH s v c1 c2) (mU s v c1 c2) q:=by
 have A:=h.sd.dE h.up c1 c2
 by_cases b:iR s v (yZ s c1) (sX s c2)
 ·grind [rH,mU]
 have hJ:0<=aD v.ns (yZ s c1).root:=by rcases Int.lt_or_le (aD v.ns (yZ s c1).root) 0 with g|g;exact absurd (.inl g) b;exact g
 have u:0<=aD v.ns (sX s c2).root:=by rcases Int.lt_or_le (aD v.ns (sX s c2).root) 0 with g|g;exact absurd (.inr (.inl g)) b;exact g
 have hA:lN v.ns (aD v.ns (sX s c2).root) (aD v.ns (yZ s c1).root)=true:=by
  cases g:lN v.ns (aD v.ns (sX s c2).root) (aD v.ns (yZ s c1).root)
  ·exact absurd (.inr (.inr (.inr (.inr (.inr (.inr (.inl g))))))) b
  ·rfl
 have hT:((ol (nz (Se (ol v.T) (yZ s c1).aG))).length:Int)<=s.cFg.lim.rV:=by
  rw[mE];have:=length_filter_le (fun t:Table=>decide ((yZ s c1).aG<=t.ck.aG)) (ol v.T);have:=h.nT;unfold Se;omega
 by_cases e:sX s c2=s.aL.fin
 ·grind [rH,mU,mk,up,Nv,pos,nl,RE,iH,Wg,nB,nO,AH,nE,KU,KV,nQ,N8]
 ·have M:rH s v c1 c2=_:=(if_neg b).trans (if_neg e)
  have hW:mU s v c1 c2=_:=(if_neg b).trans (if_neg e)
  rw[M,hW] at A ⊢;have S:=cB v.ns (sX s c2).root
  have rJ:=cB v.ns (yZ s c1).root
  have C:=Fl h.up u S.2
  have h1:=zO h.up C
  have h2:=zO h.up hA
  have hz:=Ml h.up C
  have hlen:=EB (ns:=v.ns) (aD v.ns (sX s c2).root)
  have hnl:=h.nl
  refine⟨A,RF h.up C, ?_, ?_, ?_,h.RE,h.iH,h.Wg,h.nB, ?_,h.AH,h.nE,h.KU,hT,h.KV,h.nQ,h.N8, ?_⟩
  ·grind
  ·grind
  ·grind
  ·show ((ol (nz _)).length:Int)<=s.cFg.lim.vA
   rw[mE];have:=length_filter_le (fun b:Block=>decide ((sF s (sX s c2).aG).1<b.slot)) (ol v.O);have:=h.nO;omega
  grind [Kb,oR]
def Ah (v:SV) (b:Block):List Node:=v.ns++[⟨b,aD v.ns b.parent,wZ b⟩]
def uJ (s:aF) (v:SV) (b:Block):aF:={ s with tree:=⟨.sl (Ah v b).length (bS (Ah v b))⟩}
def tQ (v:SV) (b:Block):SV:={ v with ns:=Ah v b }
def ek (s:aF) (v:SV) (b:Block):aF:=rH (uJ s v b) (tQ v b) b.dX b.fin
def YK (s:aF) (v:SV) (b:Block):SV:=mU (uJ s v b) (tQ v b) b.dX b.fin
def tR (s:aF) (v:SV) (b:Block):aF:=if pY s b.slot<pY s s.now then rH (ek s v b) (YK s v b) b.dA.pj b.dA.pf else ek s v b
def sH (s:aF) (v:SV) (b:Block):SV:=if pY s b.slot<pY s s.now then mU (ek s v b) (YK s v b) b.dA.pj b.dA.pf else YK s v b
def OQ (b:Block):Hc (wZ b)=true:=by unfold wZ;split<;>rfl
def Hd (h:GI s v q) (hb:sW s v b=0):Nw v.ns b (wZ b)=0/\(v.ns.length:Int)<s.cFg.lim.tO/\0<=aD v.ns b.parent:=by
 unfold sW at hb;by_cases g1:b.root=bQ
 ·grind
 rw[if_neg g1] at hb;by_cases g2:P7 v b.root
 ·grind
 rw[if_neg g2] at hb;by_cases g3:s.now<b.slot
 ·omega
 rw[if_neg g3] at hb;by_cases g4:b.slot<=(sF s s.aL.fin.aG).1
 ·omega
 rw[if_neg g4] at hb;by_cases g5:aD v.ns b.parent<0
 ·omega
 rw[if_neg g5] at hb;by_cases g6:b.slot<=(nd v.ns (aD v.ns b.parent)).block.slot
 ·omega
 rw[if_neg g6] at hb;by_cases g7:(nd v.ns (aD v.ns b.parent)).status=2
 ·omega
 rw[if_neg g7] at hb;by_cases g8:¬Jz s v b
 ·grind
 rw[if_neg g8] at hb;by_cases g9:¬DT s.cFg.Ps (nd v.ns (aD v.ns b.parent)).block b
 ·grind
 rw[if_neg g9] at hb;by_cases g10:s.cFg.lim.tO<=(v.ns.length:Int)
 ·omega
 have:=h.RE
 refine⟨?_,WF,WF⟩
 unfold Nw;rw[OQ,if_neg qe,if_neg (fun h=>g2 (.inr h)),if_neg g5,if_neg g6,if_neg WF]
def GI.uJ {s:aF} {v:SV} {q:Int} (h:GI s v q) {b:Block} (hb:(v.ns.length:Int)<s.cFg.lim.tO) (hp:0<=aD v.ns b.parent):GI (uJ s v b) (tQ v b) q:=by
 have hlen:(Ah v b).length=v.ns.length+1:=by unfold Ah;simp
 have hnB:=h.RE
 have A:SD (Tryz.uJ s v b) (tQ v b):=⟨h.sd.fL,h.sd.cJ,h.sd.dM,h.sd.early,h.sd.bL,rfl,h.sd.tables,h.sd.eV,h.sd.tB,h.sd.nB,h.sd.nL,h.sd.nQ,h.sd.nE,h.sd.nO,h.sd.nT,by show ((Ah v b).length:Int)<1000000;omega⟩
 have rp:=cB v.ns b.parent
 refine⟨A,fun i h0 J=>?_, ?_, ?_, ?_,h.RE,h.iH,h.Wg,h.nB,h.nO,h.AH,h.nE,h.KU,h.nT,h.KV,h.nQ,h.N8, ?_⟩
 ·have J:i<((Ah v b).length:Int):=J
  show 0<=(nd (Ah v b) i).up/\(nd (Ah v b) i).up<i
  by_cases hi:i<(v.ns.length:Int)
  ·unfold Ah;rw[oA WF hi];exact h.up i h0 hi
  grind [Ah,Mm]
 ·show (nd (Ah v b) 0).up=-1
  grind [Ah,oA,Nv]
 ·show 0<(Ah v b).length;omega
 ·show ((Ah v b).length:Int)<=s.cFg.lim.tO;omega
 ·show 0<=aD (Ah v b) s.aL.dX.root
  have rj:=cB v.ns s.aL.dX.root
  grind [Kb,dX,Ah,oA,oR]
def GI.ins (h:GI s v q) (hb:sW s v b=0):GI (tR s v b) (sH s v b) q:=by
 obtain⟨_,h2,S⟩:=Hd h hb
 have g1:=h.uJ h2 S
 have g2:=g1.dE b.dX b.fin
 unfold tR sH;split
 ·exact g2.dE _ _
 ·exact g2
def Kc (s:aF) (v:SV) (b:Block):(tR s v b).cFg=s.cFg/\(tR s v b).now=s.now:=by
 unfold tR;split
 ·rw[qA,Fk];unfold ek;rw[qA,Fk];exact⟨rfl,rfl⟩
 ·unfold ek;rw[qA,Fk];exact⟨rfl,rfl⟩
def aTN (h:GI s v q) (hb:sW s v b=0):aA prog 260 [bc s,ah b]=some (bc (tR s v b)):=by
 obtain⟨J,h2,S⟩:=Hd h hb
 have g1:=h.uJ h2 S
 have g2:=g1.dE b.dX b.fin
 have hi:uK v.ns b (wZ b)=.cY [ak ⟨Ah v b⟩,aa 0]:=if_pos J
 have N:=a1a v.ns h.sd.nn b (wZ b)
 rw[hi] at N
 have G:=aOq g1.sd g1.up g1.sp b.dX b.fin
 have R:=aOq g2.sd g2.up g2.sp b.dA.pj b.dA.pf
 have X:(rH (Tryz.uJ s v b) (tQ v b) b.dX b.fin).cFg.iH=s.cFg.iH:=by rw[qA];rfl
 have D:(rH (Tryz.uJ s v b) (tQ v b) b.dX b.fin).now=s.now:=by rw[Fk];rfl
 have Y:∀x,pY (rH (Tryz.uJ s v b) (tQ v b) b.dX b.fin) x=pY s x:=fun x=>by unfold pY;rw[X]
 have M:=Rm (rH (Tryz.uJ s v b) (tQ v b) b.dX b.fin) g2.sp g2.sd.flat
 have A:({ cFg:=s.cFg,dI:=s.dI,aL:=s.aL,bH:=s.bH,tree:=⟨.sl (Ah v b).length (bS (Ah v b))⟩,now:=s.now,dY:=s.dY,tables:=s.tables }:aF)=Tryz.uJ s v b:=rfl
 rw[cL func260 rfl aTO rfl];refine eM ?_
 by_cases c:pY s b.slot<pY s s.now
 ·have C:tR s v b=_:=if_pos c
  have W:=(g2.dE b.dA.pj b.dA.pf).sd.flat
  simp only[Z8,seval,h.sd.tree,aTq,N,bW,A,G,M,Y,D,c,R];exact⟨_,iI rfl mj mh WF,dw⟩
 ·have C:tR s v b=_:=if_neg c
  have W:=g2.sd.flat
  simp only[Z8,seval,h.sd.tree,aTq,N,bW,A,G,M,Y,D,c];exact⟨_,iI rfl mj mh WF,dw⟩
def aOt (hk:k<=L.length) (a g:Nat):∃X,(∀(st:St) (hi:Operand),st.ev hi=aa k->st.heap a g=some (.row 66 238 L.length (aK L))->dW prog st 44 (.own a g) none (some hi)=some X) /\
 (∀st:St,st.heap a g=some (.row 66 238 L.length (aK L))->bA st X=some ((L.take k).length,aK (L.take k))):=by
 have W:(L.take k).length=k:=qs
 by_cases h0:k=0/\L.length=0
 ·obtain⟨rfl,J⟩:=h0
  refine⟨.sl 0 [],fun st hi he u=>?_,fun st u=>by simp[bA,aK]⟩
  simp[dW,Fm,u,he,J]
 ·refine⟨.vw a g 0 k,fun st hi he u=>?_,fun st u=>?_⟩
  ·have:¬((0:Int)=k/\¬((0:Int)=0/\0<L.length)):=WF
   simp_all [dW,Fm]
  ·have hb:k * 238<=(aK L).length:=by grind [yK]
   have:=wD (c:=aY) (sz:=238) jQ L k
   simp only[bA,u,Nat.zero_add,hb,if_true,drop_zero,W];exact congrArg (fun z=>some (k,z)) this
def aFn (hk:k<=L.length) (a g:Nat):∃X,(∀(st:St) (lo:Operand),st.ev lo=aa k->st.heap a g=some (.row 66 238 L.length (aK L))->dW prog st 44 (.own a g) (some lo) none=some X) /\
 (∀st:St,st.heap a g=some (.row 66 238 L.length (aK L))->bA st X=some ((L.drop k).length,aK (L.drop k))):=by
 have hl:(L.drop k).length=L.length-k:=qe
 by_cases h0:k=L.length
 ·by_cases hz:0<k
  ·refine⟨.sl 0 [],fun st lo he u=>?_,fun st u=>by rw[h0];simp[bA,aK]⟩
   have:(k:Int)=L.length/\¬((k:Int)=0/\0<L.length):=WF
   simp_all [dW,Fm]
  ·refine⟨.sl 0 [],fun st lo he u=>?_,fun st u=>by rw[h0];simp[bA,aK]⟩
   simp_all [dW,Fm]
 ·refine⟨.vw a g (k * 238) (L.length-k),fun st lo he u=>?_,fun st u=>?_⟩
  ·have h1:¬((k:Int)=L.length/\¬((k:Int)=0/\0<L.length)):=WF
   have h2:((L.length:Int)-(k:Int)).toNat=L.length-k:=WF
   simp_all [dW,Fm,if_neg]
  ·have hb:k * 238+(L.length-k) * 238<=(aK L).length:=by grind [yK]
   have:=Dk (c:=aY) (sz:=238) jQ L k
   grind [aK,yK,bA]
def GI.dY {s:aF} {v:SV} {q:Int} (h:GI s v q) (r:bU):GI { s with dY:=r } v q :=
 ⟨⟨h.sd.fL,h.sd.cJ,h.sd.dM,h.sd.early,h.sd.bL,h.sd.tree,h.sd.tables,h.sd.eV,h.sd.tB,h.sd.nB,h.sd.nL,h.sd.nQ,h.sd.nE,h.sd.nO,h.sd.nT,h.sd.nn⟩,h.up,h.Nv,h.pos,h.nl,h.RE,h.iH,h.Wg,h.nB,h.nO,h.AH,h.nE,h.KU,h.nT,h.KV,h.nQ,h.N8,h.dX⟩
def lI (s:aF) (x:AV):aF:={ s with bH:={ s.bH with bL:=x }}
def GI.Sp (h:GI s v q) (O:Option (List Block)) (hO:((ol O).length:Int)<=s.cFg.lim.vA):GI (lI s (ov aK O)) { v with O:=O } q :=
 ⟨⟨h.sd.fL,h.sd.cJ,h.sd.dM,h.sd.early,rfl,h.sd.tree,h.sd.tables,h.sd.eV,h.sd.tB,h.sd.nB,h.sd.nL,h.sd.nQ,h.sd.nE,by have:=h.AH;grind,h.sd.nT,h.sd.nn⟩,h.up,h.Nv,h.pos,h.nl,h.RE,h.iH,h.Wg,h.nB,hO,h.AH,h.nE,h.KU,h.nT,h.KV,h.nQ,h.N8,h.dX⟩
def Q3 (s:aF) (v:SV) (c1 c2:dH):(ol (mU s v c1 c2).O).length<=(ol v.O).length:=by
 grind [mU,mE]
def Q4 (s:aF) (v:SV) (b:Block):(ol (sH s v b).O).length<=(ol v.O).length:=by
 unfold sH;split
 ·exact Nat.le_trans (Q3 _ _ _ _) (Q3 _ _ _ _)
 ·exact Q3 _ _ _ _
def yL (h:SD s v) {O:List Block} {a g:Nat} (st:St) (u:st.heap a g=some (.row 66 238 O.length (aK O))):eE st (bc (lI s (.own a g)))=some (bc (lI s (ov aK (some O)))):=by
 have p:=h.fl
 unfold lI;simp only[dC,fV,eG,u,Fi,bY,sB,p,cC];rfl
theorem zB (h0:0<=i) (J:i<ns.length):nd ns i∈ns:=by
 obtain⟨h,e⟩:=Pv h0 J
 grind
theorem YL (h:n∈ns):∃i:Int,(0<=i/\i<ns.length)/\nd ns i=n:=by
 obtain⟨k,R,rfl⟩:=getElem_of_mem h
 exact⟨k,WF,by simp[Go.Ab.nd,R]⟩
def He (ns:List Node) (i:Int):∀k:Nat,k<=ns.length->∀n∈(iY ns i k).1,∃a∈ns,n.block=a.block/\n.status=a.status
 | 0,_,n,M=>by simp[iY] at M
 | k+1,hk,n,M=>by
   unfold iY at M;simp only at M
   split at M
   ·rcases mem_append.1 M with M|M
    ·exact He ns i k WF n M
    grind [zB]
   ·exact He ns i k WF n M
def aBd (ns:List Node) (i:Int):∀k:Nat,k<=ns.length->((iY ns i k).1.map (·.block)).Sublist ((ns.take k).map (·.block))
 | 0,_=>by simp[iY]
 | k+1,hk=>by
   have ih:=aBd ns i k WF
   have e:ns.take (k+1)=ns.take k++[nd ns k]:=by
    rw[take_succ_eq_append_getElem WF]
    have h:k<ns.length:=WF
    simp[Go.Ab.nd,h]
   unfold iY;simp only
   rw[e,map_append];split
   all_goals grind
def aCI (h:(ns.map fun n=>n.block.root).Nodup) (i:Int):((iY ns i ns.length).1.map fun n=>n.block.root).Nodup:=by
 have J:=(aBd ns i ns.length (Nat.le_refl _)).map (·.root)
 rw[take_length] at J;simp only[map_map] at J;exact h.sublist J
theorem Fo (h:aD ns r<0):r ∉ ns.map fun n=>n.block.root:=by
 grind [aD]
def OR (h:∀n∈ns,n.block.root≠r):aD ns r<0:=by
 grind [aD]
theorem Ay.inj (v:Ay ns) (i0:0<=i) (i1:i<ns.length) (j0:0<=j) (j1:j<ns.length) (h:(nd ns i).block.root=(nd ns j).block.root):i=j:=by
 grind [roots]
theorem Ay.find (v:Ay ns) (i0:0<=i) (i1:i<ns.length) (h:(nd ns i).block.root=r):aD ns r=i:=by
 have g:=Kb i0 i1 h
 exact v.inj g (cB ns r).2 i0 i1 ((oR ns r g).trans h.symm)
def Q5 (ns N:List Node):Prop:=∀n∈N,∃a∈ns,n.block=a.block/\n.status=a.status
def Q5.neg (h:Q5 ns N) (g:aD ns r<0):aD N r<0:=OR fun n M e=>by
 obtain⟨a,Y,e1,_⟩:=h n M
 exact Fo g (mem_map.2 ⟨a,Y,qg⟩)
theorem Q5.at_ (h:Q5 ns N) (v:Ay ns) (g:0<=aD N r):(nd N (aD N r)).status=(nd ns (aD ns r)).status:=by
 obtain⟨a,ha,e1,e2⟩:=h _ (zB g (cB N r).2)
 grind [YL,Ay.find,oR]
def aFo (v:Ay ns) (hi:lN ns i i=true):Ay (iY ns i ns.length).1:=by
 have hz:=Ml v.up hi
 have h1:=zO v.up hi
 have hl:=EB (ns:=ns) i
 have hM:=v.pc
 have key:∀m:Int,0<=m->m<(iY ns i ns.length).1.length->∃a:Int,(0<=a/\a<ns.length)/\lN ns i a=true/\it (iY ns i ns.length).2 a=m/\(nd (iY ns i ns.length).1 m).block=(nd ns a).block/\(nd (iY ns i ns.length).1 m).status=(nd ns a).status/\(0<m->a≠i/\0<a/\lN ns i (nd ns a).up=true/\(nd (iY ns i ns.length).1 m).up=it (iY ns i ns.length).2 (nd ns a).up/\(nd (iY ns i ns.length).1 (nd (iY ns i ns.length).1 m).up).block=(nd ns (nd ns a).up).block/\(nd (iY ns i ns.length).1 (nd (iY ns i ns.length).1 m).up).status=(nd ns (nd ns a).up).status):=by
  intro m m0 m1;obtain⟨a,a0,l,Y,rfl⟩:=Bn ns i ns.length m m0 m1
  have p:=(zO v.up Y).2.2
  refine⟨a,⟨a0,l⟩,Y,rfl,by rw[p],by rw[p],fun hm=>?_⟩
  have A:a≠i:=by rintro rfl;omega
  obtain⟨b0,_,M⟩:=pd v.up Y A
  have q:=(zO v.up M).2.2
  grind
 refine⟨WF,WF, ?_,RF v.up hi,fun m m0 m1=>?_,fun m m0 m1=>?_,fun m n m0 hmn n1=>?_,fun m m0 m1=>?_⟩
 ·grind
 ·grind [Ay.par]
 ·obtain⟨a,Y,_,_,e1,_,h⟩:=key m WF m1
  obtain⟨_,b0,_,_,e2,_⟩:=h m0
  simp_all [Ay.slot]
 ·grind [Ay.inj]
 grind [Ay.st]
def aOu (v:Ay ns) (c:XH ns) (hi:lN ns i i=true):XH (iY ns i ns.length).1:=fun m m0 m1=>by
 have hz:=Ml v.up hi
 obtain⟨a,a0,l,Y,rfl⟩:=Bn ns i ns.length m WF m1
 have p:=(zO v.up Y).2.2
 have A:a≠i:=by rintro rfl;omega
 obtain⟨b0,_,M⟩:=pd v.up Y A
 have q:=(zO v.up M).2.2
 rw[show (nd (iY ns i ns.length).1 (it (iY ns i ns.length).2 a)).up=it (iY ns i ns.length).2 (nd ns a).up from qg,p,q]
 exact c a b0 l
theorem Ay.app (v:Ay ns) (hl:ns.length<4096) (hp:0<=aD ns b.parent) (hs:(nd ns (aD ns b.parent)).block.slot<b.slot) (M:aD ns b.root<0) (oP:Hc st=true):Ay (ns++[⟨b,aD ns b.parent,st⟩]):=by
 have r:=cB ns b.parent
 have hlen:(ns++[(⟨b,aD ns b.parent,st⟩:Node)]).length=ns.length+1:=qe
 have e0:∀j:Int,0<=j->j<ns.length->nd (ns++[(⟨b,aD ns b.parent,st⟩:Node)]) j=nd ns j:=fun j h0 J=>oA h0 J
 have A:∀j:Int,j=ns.length->nd (ns++[(⟨b,aD ns b.parent,st⟩:Node)]) j=⟨b,aD ns b.parent,st⟩:=fun j h=>Mm h
 have Bg:=v.Px
 refine⟨WF,WF,by grind [Nv],fun i i0 i1=>?_,fun i i0 i1=>?_,fun i i0 i1=>?_,fun i j i0 hij j1=>?_,fun i i0 i1=>?_⟩
 all_goals rw[hlen] at *
 ·by_cases hi:i<(ns.length:Int)
  ·rw[e0 i WF hi];exact v.up i i0 hi
  grind
 ·by_cases hi:i<(ns.length:Int)
  ·have:=v.up i i0 hi
   grind [par]
  grind [oR]
 ·by_cases hi:i<(ns.length:Int)
  ·have:=v.up i i0 hi
   rw[e0 i WF hi,e0 _ this.1 WF];exact v.slot i i0 hi
  grind
 ·by_cases hj:j<(ns.length:Int)
  ·grind [roots]
  ·rw[A j WF,e0 i i0 WF]
   exact fun h=>Fo M (mem_map.2 ⟨_,zB i0 WF,h⟩)
 grind [st]
theorem XH.app (v:Ay ns) (c:XH ns) (hp:0<=aD ns b.parent) (h1:st=1->(nd ns (aD ns b.parent)).status=1) (h2:(nd ns (aD ns b.parent)).status≠2):XH (ns++[⟨b,aD ns b.parent,st⟩]):=fun i i0 i1=>by
 have r:=cB ns b.parent
 have hlen:(ns++[(⟨b,aD ns b.parent,st⟩:Node)]).length=ns.length+1:=qe
 rw[hlen] at i1;by_cases hi:i<(ns.length:Int)
 ·have:=v.up i i0 hi
  rw[oA WF hi,oA this.1 WF];exact c i i0 hi
 grind [nd]
def OS (n:Node) (h:0<=aD ns r):aD (ns++[n]) r=aD ns r:=by
 grind [aD]
def Q6 (h:aD ns r<0) (hn:n.block.root≠r):aD (ns++[n]) r<0:=OR fun m hm=>by
 rcases mem_append.1 hm with hm|hm
 ·exact fun e=>Fo h (mem_map.2 ⟨m,hm,e⟩)
 grind
structure VS (s:aF) (v:SV):Prop where
 Er:Ay v.ns
 AI:XH v.ns
 Yv:∀n∈v.ns,n.block.eQ=bQ->n.status=1
 js:(nd v.ns (aD v.ns s.aL.dX.root)).status≠2
 r0:(nd v.ns 0).block.root=s.aL.fin.root
 e0:Pq s v.ns 0 s.aL.fin.aG
 vo:∀x∈ol v.L,x.has=false->x=nP
 eq:ol v.Q=[]\/vM (ol v.Q) (ol v.B).length=0
 bo:s.dY=bQ\/0<=aD v.ns s.dY
 od:∀n∈v.ns,KQ s n.block
 ea:∀a∈ol v.E,∃V,a.dL=ov aH (some V)/\vM V (ol v.B).length=0
 oi:∀o∈ol v.O,aD v.ns o.root<0/\o.oU=false/\o.slot<=s.now/\(sF s s.aL.fin.aG).1<o.slot
 on:((ol v.O).map fun o=>o.root).Nodup
def OP (v:SV):Prop:=∀o∈ol v.O,aD v.ns o.parent<0
def OT {J F:dH} (b:¬iR s v J F):0<=aD v.ns J.root/\0<=aD v.ns F.root/\(nd v.ns (aD v.ns J.root)).status≠2/\(nd v.ns (aD v.ns F.root)).status≠2/\Pq s v.ns (aD v.ns J.root) J.aG/\Pq s v.ns (aD v.ns F.root) F.aG/\lN v.ns (aD v.ns F.root) (aD v.ns J.root)=true:=by
 grind [iR]
theorem VS.dE (h:VS s v) (c1 c2:dH):VS (rH s v c1 c2) (mU s v c1 c2):=by
 by_cases b:iR s v (yZ s c1) (sX s c2)
 ·grind [rH,mU]
 obtain⟨b1,b2,u,b4,b5,b6,D⟩:=OT b
 by_cases e:sX s c2=s.aL.fin
 ·rw[show rH s v c1 c2=_ from (if_neg b).trans (if_pos e),show mU s v c1 c2=_ from (if_neg b).trans (if_pos e),e];exact⟨h.Er,h.AI,h.Yv,u,h.r0,h.e0,h.vo,h.eq,h.bo,h.od,h.ea,h.oi,h.on⟩
 ·rw[show rH s v c1 c2=_ from (if_neg b).trans (if_neg e),show mU s v c1 c2=_ from (if_neg b).trans (if_neg e)];have S:=cB v.ns (sX s c2).root
  have hi:=Fl h.Er.up b2 S.2
  have R:=Ml h.Er.up hi
  have J:=zO h.Er.up hi
  have h2:=zO h.Er.up D
  have C:=aFo h.Er hi
  have hs:Q5 v.ns (iY v.ns (aD v.ns (sX s c2).root) v.ns.length).1:=He _ _ _ (Nat.le_refl _)
  rw[R] at J;have hJ:0<=aD (iY v.ns (aD v.ns (sX s c2).root) v.ns.length).1 (yZ s c1).root:=Kb h2.1 h2.2.1 (by grind [oR])
  refine⟨C,aOu h.Er h.AI hi,fun n M hp=>?_, ?_, ?_, ?_,h.vo,h.eq, ?_,fun n M=>?_,h.ea,fun o p=>?_, ?_⟩
  ·obtain⟨a,Y,A,e2⟩:=hs n M
   grind [Yv]
  ·grind [Q5.at_,Er]
  ·grind [oR]
  ·show Pq s (iY v.ns (aD v.ns (sX s c2).root) v.ns.length).1 0 (sX s c2).aG
   grind [Pq]
  ·grind
  ·obtain⟨a,Y,A,_⟩:=hs n M
   rw[A];exact h.od a Y
  ·have p:o∈ol (nz ((ol v.O).filter fun b=>decide ((sF s (sX s c2).aG).1<b.slot))):=p
   rw[mE] at p;obtain⟨p,W⟩:=mem_filter.1 p
   obtain⟨l,a2,a3,_⟩:=h.oi o p
   exact⟨hs.neg l,a2,a3,of_decide_eq_true W⟩
  grind [mE,on]
theorem OP.dE (h:OP v) (c1 c2:dH):OP (mU s v c1 c2):=by
 unfold mU;split
 ·exact h
 split
 ·exact h
 ·intro o p;have p:o∈ol (nz _):=p
  rw[mE] at p;exact Q5.neg (He _ _ _ (Nat.le_refl _)) (h o (mem_filter.1 p).1)
def YM (hb:sW s v b=0\/sW s v b=10):b.slot<=s.now:=by
 grind [sW]
theorem RH (hb:sW s v b=0):aD v.ns b.root<0:=by
 rcases Int.lt_or_le (aD v.ns b.root) 0 with h|h
 ·exact h
 ·unfold sW at hb;by_cases g1:b.root=bQ
  ·grind
  ·rw[if_neg g1,if_pos (.inr h)] at hb;omega
def aFp (hb:sW s v b=0\/sW s v b=10):¬P7 v b.root/\(sF s s.aL.fin.aG).1<b.slot:=by
 grind [sW]
def aBf (hb:sW s v b=0):(nd v.ns (aD v.ns b.parent)).block.slot<b.slot/\(nd v.ns (aD v.ns b.parent)).status≠2/\Jz s v b/\DT s.cFg.Ps (nd v.ns (aD v.ns b.parent)).block b:=by
 unfold sW at hb;by_cases g1:b.root=bQ
 ·grind
 rw[if_neg g1] at hb;by_cases g2:P7 v b.root
 all_goals grind
theorem aM2 (h:¬P7 v r):∀o∈ol v.O,o.root≠r:=fun o p e=>h (.inl (by
 obtain⟨k,R,rfl⟩:=getElem_of_mem p
 exact⟨k,R,by grind [gx]⟩))
def VS.uJ {s:aF} {v:SV} {q:Int} (g:GI s v q) (h:VS s v) {b:Block} (hb:sW s v b=0):VS (Tryz.uJ s v b) (tQ v b):=by
 obtain⟨_,p2,N⟩:=Hd g hb
 obtain⟨f1,f2,f3,f4⟩:=aBf hb
 have hnB:=g.RE
 have M:=RH hb
 have R:=aM2 (aFp (.inl hb)).1
 have Bg:=h.Er.Px
 have S:=cB v.ns b.parent
 have r:wZ b=1->(nd v.ns (aD v.ns b.parent)).status=1:=fun e=>by
  have hz:b.eQ=bQ:=by
   grind [wZ]
  exact h.Yv _ (zB N S.2) (f4.1 hz)
 refine⟨h.Er.app WF N f1 M (OQ b),XH.app h.Er h.AI N r f2,fun n hm hp=>?_, ?_, ?_, ?_,h.vo,h.eq, ?_,fun n hm=>?_,h.ea,fun o p=>?_,h.on⟩
 ·rcases mem_append.1 (show n∈v.ns++[⟨b,aD v.ns b.parent,wZ b⟩] from hm) with hm|hm
  ·exact h.Yv n hm hp
  ·rw[mem_singleton] at hm;subst hm;exact if_pos hp
 ·show (nd (v.ns++[⟨b,aD v.ns b.parent,wZ b⟩]) (aD (v.ns++[⟨b,aD v.ns b.parent,wZ b⟩]) s.aL.dX.root)).status≠2
  rw[OS _ g.dX,oA g.dX (cB _ _).2];exact h.js
 ·show (nd (v.ns++[⟨b,aD v.ns b.parent,wZ b⟩]) 0).block.root=s.aL.fin.root
  grind [oA,r0]
 ·have:=h.e0
  unfold Pq at this ⊢
  show _\/(nd (v.ns++[⟨b,aD v.ns b.parent,wZ b⟩]) 0).block.slot<=_
  rw[oA (Int.le_refl 0) WF];exact this
 ·rcases h.bo with e|e
  ·exact .inl e
  ·refine .inr ?_
   show 0<=aD (v.ns++[⟨b,aD v.ns b.parent,wZ b⟩]) s.dY
   rw[OS _ e];exact e
 ·rcases mem_append.1 (show n∈v.ns++[⟨b,aD v.ns b.parent,wZ b⟩] from hm) with hm|hm
  ·exact h.od n hm
  ·rw[mem_singleton] at hm;subst hm;exact f3.2.1
 ·obtain⟨l,a2,a3,a4⟩:=h.oi o p
  exact⟨Q6 l fun e=>R o p e.symm,a2,a3,a4⟩
def VS.ins (g:GI s v q) (h:VS s v) (hb:sW s v b=0):VS (tR s v b) (sH s v b):=by
 have g2:=(h.uJ g hb).dE b.dX b.fin
 unfold tR sH;split
 ·exact g2.dE _ _
 ·exact g2
def VS.Sp (r:VS s v) (O:Option (List Block)) (x:AV) (h:(ol O).Sublist (ol v.O)):VS (lI s x) { v with O:=O } :=
 ⟨r.Er,r.AI,r.Yv,r.js,r.r0,r.e0,r.vo,r.eq,r.bo,r.od,r.ea,fun o p=>r.oi o (h.subset p),r.on.sublist (h.map _)⟩
def VS.wait (r:VS s v) (hb:sW s v b=10) (O:Option (List Block)) (x:AV) (h:ol O=ol v.O++[{ b with oU:=false }]):VS (lI s x) { v with O:=O }:=by
 obtain⟨J,h2⟩:=aFp (.inr hb)
 have S:=YM (.inr hb)
 refine⟨r.Er,r.AI,r.Yv,r.js,r.r0,r.e0,r.vo,r.eq,r.bo,r.od,r.ea,fun o p=>?_, ?_⟩
 ·have p:o∈ol O:=p
  rw[h] at p;rcases mem_append.1 p with p|p
  ·exact r.oi o p
  ·rw[mem_singleton] at p;subst p;refine⟨?_,rfl,S,h2⟩
   rcases Int.lt_or_le (aD v.ns b.root) 0 with g|g
   ·exact g
   ·exact absurd (.inr g) J
 grind [on,aM2]
def VS.dY {s:aF} {v:SV} (r:VS s v) (x:bU) (h:x=bQ\/0<=aD v.ns x):VS { s with dY:=x } v:=⟨r.Er,r.AI,r.Yv,r.js,r.r0,r.e0,r.vo,r.eq,h,r.od,r.ea,r.oi,r.on⟩
def aFq (hu:eK ns) (A:eK (ns++[n])):∀(k:Nat) (i:Int),i.toNat=k->0<=i->i<ns.length->path (ns++[n]) i=path ns i:=by
 intro k;induction k using Nat.strongRecOn with
 | _ k S =>
   intro i hk i0 i1;have hl:(ns++[n]).length=ns.length+1:=qe
   by_cases hi:i=0
   ·grind [lQ]
   ·obtain⟨m,u1⟩:=hu i WF i1
    rw[iD hu WF i1,iD A WF WF,oA WF i1,S (nd ns i).up.toNat WF _ rfl m WF]
def cz (ns:List Node) (x r:bU):Prop:=0<=aD ns r->lN ns (aD ns r) (aD ns x)=true
def aOw (v:Ay ns) {x:bU} (hx:0<=aD ns x) (hi:lN ns i (aD ns x)=true):0<=aD (iY ns i ns.length).1 x/\∀r,cz ns x r->cz (iY ns i ns.length).1 x r:=by
 obtain⟨⟨i0,i1⟩,_⟩:=Ed v.up hi
 have C:=Fl v.up i0 i1
 have pv:=aFo v C
 have p:=zO v.up hi
 have ex:aD (iY ns i ns.length).1 x=it (iY ns i ns.length).2 (aD ns x):=pv.find p.1 p.2.1 (by grind [oR])
 refine⟨by rw[ex];exact p.1,fun r h g=>?_⟩
 obtain⟨a,a0,l,Y,ea⟩:=Bn ns i ns.length _ g (cB _ _).2
 have q:=(zO v.up Y).2.2
 have A:aD ns r=a:=v.find a0 l (by
  grind [oR])
 rw[ex,<- ea,aOx v.up C _ _ _ rfl Y hi,<- A];exact h WF
def aBg (h:VS s v) (c1 c2:dH) {x:bU} (N:0<=aD v.ns x) (W:s.aL.fin.aG<c2.aG->cz v.ns x c2.root):0<=aD (mU s v c1 c2).ns x/\∀r,cz v.ns x r->cz (mU s v c1 c2).ns x r:=by
 by_cases b:iR s v (yZ s c1) (sX s c2)
 ·grind [mU]
 by_cases e:sX s c2=s.aL.fin
 ·grind [mU]
 rw[show mU s v c1 c2=_ from (if_neg b).trans (if_neg e)];have u:=(OT b).2.1
 have key:s.aL.fin.aG<c2.aG/\sX s c2=c2:=by
  grind [sX]
 rw[key.2] at u ⊢;exact aOw h.Er N (W key.1 u)
def aFr (s:aF) (v:SV) (c1 c2:dH):s.aL.fin.aG<=(rH s v c1 c2).aL.fin.aG:=by
 grind [sX,rH]
def YN (g:GI s v q) (h:VS s v) (hb:sW s v b=0):0<=aD (sH s v b).ns b.root:=by
 obtain⟨_,p2,p3⟩:=Hd g hb
 have J:=h.uJ g hb
 obtain⟨_,_,f3,_⟩:=aBf hb
 have S:=cB v.ns b.parent
 have hl:(tQ v b).ns.length=v.ns.length+1:=by show (v.ns++[_]).length=_;simp
 have C:nd (tQ v b).ns (v.ns.length:Int)=⟨b,aD v.ns b.parent,wZ b⟩:=Mm rfl
 have N:aD (tQ v b).ns b.root=(v.ns.length:Int):=J.Er.find WF WF wm
 have A:0<=aD (tQ v b).ns b.root:=WF
 have M:∀c:dH,AF s v b c->s.aL.fin.aG<c.aG->cz (tQ v b).ns b.root c.root:=by
  intro c G he;have G:=G.resolve_left WF
  rw[cz,N];by_cases hs:(sF s c.aG).1<b.slot
  ·rw[if_pos hs] at G;obtain⟨c1,c2⟩:=G
   obtain⟨k,R⟩:∃k,Gu v.ns (aD v.ns b.parent) (sF s c.aG).1=k:=⟨_,rfl⟩
   have hm:=DX v.ns (sF s c.aG).1 (path v.ns (aD v.ns b.parent))
   rw[show Eb v.ns (sF s c.aG).1 (path v.ns (aD v.ns b.parent))=k from R] at hm;rw[R] at c1 c2;have hm:=hm.resolve_left WF
   have D:=xB h.Er.up hm
   have W:aD (tQ v b).ns c.root=k:=J.Er.find D.1 WF (by show (nd (v.ns++[_]) k).block.root=_;grind [oA])
   rw[W];intro _;have Bg:=h.Er.Px
   unfold lN;rw[iD J.Er.up WF WF,C]
   refine decide_eq_true (mem_append_left _ ?_)
   show k∈path (v.ns++[_]) (aD v.ns b.parent)
   rw[aFq h.Er.up J.Er.up _ _ rfl p3 S.2];exact hm
  grind [Fl,Ay.up,VS.Er]
 have l:=M b.fin (f3.2.2 1 WF)
 have a3:=M b.dA.pf (f3.2.2 3 WF)
 have u:=aBg J b.dX b.fin A l
 have m:0<=aD (YK s v b).ns b.root:=u.1
 unfold sH;split
 ·refine (aBg (J.dE b.dX b.fin) b.dA.pj b.dA.pf m fun he=>u.2 _ (a3 ?_)).1
  have:=aFr (Tryz.uJ s v b) (tQ v b) b.dX b.fin
  exact Int.lt_of_le_of_lt this he
 ·exact m
def VS.YO (r:VS s v) {n:Int} (h:s.now<=n):VS { s with now:=n } v:=⟨r.Er,r.AI,r.Yv,r.js,r.r0,r.e0,r.vo,r.eq,r.bo,r.od,r.ea,fun o p=>by
 obtain⟨l,a2,a3,a4⟩:=r.oi o p
 exact⟨l,a2,Int.le_trans a3 h,a4⟩,r.on⟩
def YP {e:Int} {r:bU}:∀(V:List Int) (a:List lO × Int),(∀x∈a.1,x.has=false->x=nP)->∀x∈(V.foldl (Sm e r) a).1,x.has=false->x=nP
 | [],a,h=>h
 | y :: V,a,h=>by
   rw[foldl_cons];refine YP V _ fun x hx hf=>?_
   grind [Sm]
def VS.cast (r:VS s v) (a:qX) (V:List Int):VS (Ec s v a V) { v with L:=some (pZ (ol v.L) a.target.aG a.root V).1 }:=⟨r.Er,r.AI,r.Yv,r.js,r.r0,r.e0,YP V (ol v.L,0) r.vo,r.eq,r.bo,r.od,r.ea,r.oi,r.on⟩
theorem VS.EE (r:VS s v) (o:Option (List Table)) (x:AV):VS { s with tables:=x } { v with T:=o }:=⟨r.Er,r.AI,r.Yv,r.js,r.r0,r.e0,r.vo,r.eq,r.bo,r.od,r.ea,r.oi,r.on⟩
def VS.aM3 (r:VS s v):(ol v.Q).Pairwise (· < ·):=r.eq.elim (fun e=>by rw[e];exact .nil) fun e=>(Wa e).1
def VS.aFs (r:VS s v):∀x∈ol v.Q,0<=x/\x<(ol v.B).length:=r.eq.elim (fun e x hx=>qg) fun e=>(Wa e).2
theorem VS.dM {s:aF} {v:SV} (r:VS s v) (L:Option (List Int)) (x:AV) (h0:ol L≠[]) (J:(ol L).Pairwise (· < ·)) (h2:∀x∈ol L,0<=x/\x<(ol v.B).length):VS { s with dI:={ s.dI with dM:=x }} { v with Q:=L }:=⟨r.Er,r.AI,r.Yv,r.js,r.r0,r.e0,r.vo,.inr (aOj h0 J h2),r.bo,r.od,r.ea,r.oi,r.on⟩
theorem VS.early {s:aF} {v:SV} (r:VS s v) (E:Option (List qX)) (x:AV) (h:∀a∈ol E,∃V,a.dL=ov aH (some V)/\vM V (ol v.B).length=0):VS { s with bH:={ s.bH with early:=x }} { v with E:=E }:=⟨r.Er,r.AI,r.Yv,r.js,r.r0,r.e0,r.vo,r.eq,r.bo,r.od,h,r.oi,r.on⟩
def Rg (x:Int):Prop:=0<=x/\x<18446744073709551616
structure RB (b:Block):Prop where
 sl:Rg b.slot
 j:Rg b.dX.aG
 f:Rg b.fin.aG
 pj:Rg b.dA.pj.aG
 pf:Rg b.dA.pf.aG
def Pr (r:bU):Prop:=r≠bQ/\r≠mkRoot 99
def aM4 (l:List α):nz l≠some []:=by
 grind [nz]
structure NEv (v:SV):Prop where
 q:v.Q≠some []
 e:v.E≠some []
 t:v.T≠some []
 ea:∀a∈ol v.E,∃V,a.dL=ov aH (some V)/\V≠[]
 tb:∀t∈ol v.T,∃B,t.fL=ov bD (some B)/\B≠[]
structure RG0 (s:aF) (v:SV):Prop where
 now:0<=s.now/\s.now<=1099511627776
 j:Rg s.aL.dX.aG
 f:Rg s.aL.fin.aG
 nd:∀n∈v.ns,RB n.block/\n.block.slot<=s.now
 or:∀b∈ol v.O,RB b/\Pr b.root
 rt:∀n∈v.ns,Pr n.block.root
 fe:s.aL.fin.aG<=s.aL.dX.aG/\s.aL.dX.aG<=pY s s.now
 ds:(v.ns.map fun n=>n.block.root).Nodup
 tb:∃t∈ol v.T,t.ck=s.aL.dX
 ne:NEv v
 vs:VS s v
structure RG (s:aF) (v:SV):Prop extends RG0 s v where
 op:OP v
theorem RG0.dE {s:aF} {v:SV} (r:RG0 s v) {c1 c2:dH} (r1:Rg c1.aG) (r2:Rg c2.aG):RG0 (rH s v c1 c2) (mU s v c1 c2):=by
 have S:=r.vs.dE c1 c2
 have p:Rg (yZ s c1).aG:=by grind [yZ,j]
 have u:Rg (sX s c2).aG:=by grind [sX,f]
 by_cases b:iR s v (yZ s c1) (sX s c2)
 ·grind [rH,mU]
 have fe:(sX s c2).aG<=(yZ s c1).aG/\(yZ s c1).aG<=pY s s.now:=by
  grind [iR]
 have tb:∃t∈ol (nz (Se (ol v.T) (yZ s c1).aG)),t.ck=yZ s c1:=by
  unfold iR at b;simp only[not_or] at b;obtain⟨_,_,_,_,_,_,_,_,_,C⟩:=b
  unfold QV at C;rcases lA (fun k=>(gx fW (ol v.T) k).ck=yZ s c1) (ol v.T).length with ⟨e,_⟩|⟨k,h1,h2,_,h3⟩
  ·omega
  ·refine⟨gx fW (ol v.T) k, ?_,h2⟩
   rw[mE];refine mem_filter.2 ⟨lB WF WF,decide_eq_true ?_⟩
   grind
 by_cases e:sX s c2=s.aL.fin
 ·rw[show rH s v c1 c2=_ from (if_neg b).trans (if_pos e),show mU s v c1 c2=_ from (if_neg b).trans (if_pos e)];rw[show rH s v c1 c2=_ from (if_neg b).trans (if_pos e),show mU s v c1 c2=_ from (if_neg b).trans (if_pos e)] at S;exact⟨r.now,p,u,r.nd,r.or,r.rt,fe,r.ds,tb,⟨r.ne.q,r.ne.e,aM4 _,r.ne.ea,fun t D=>r.ne.tb t (by grind [Se,mE])⟩,S⟩
 ·rw[show rH s v c1 c2=_ from (if_neg b).trans (if_neg e),show mU s v c1 c2=_ from (if_neg b).trans (if_neg e)];rw[show rH s v c1 c2=_ from (if_neg b).trans (if_neg e),show mU s v c1 c2=_ from (if_neg b).trans (if_neg e)] at S;refine⟨r.now,p,u,fun n M=>?_,fun o ho=>?_,fun n M=>?_,fe,aCI r.ds _,tb,⟨r.ne.q,r.ne.e,aM4 _,r.ne.ea,fun t D=>r.ne.tb t (by grind [Se,mE])⟩,S⟩
  ·obtain⟨a,Y,A,_⟩:=He _ _ _ (Nat.le_refl _) n M
   rw[A];exact r.nd a Y
  ·grind [mE,or]
  ·obtain⟨a,Y,A,_⟩:=He _ _ _ (Nat.le_refl _) n M
   rw[A];exact r.rt a Y
theorem RG.dE {s:aF} {v:SV} (r:RG s v) {c1 c2:dH} (G:Rg c1.aG) (C:Rg c2.aG):RG (rH s v c1 c2) (mU s v c1 c2):=⟨r.toRG0.dE G C,r.op.dE c1 c2⟩
def RG0.uJ {s:aF} {v:SV} {q:Int} (r:RG0 s v) (hg:GI s v q) {b:Block} (rb:RB b/\Pr b.root) (G:sW s v b=0):RG0 (Tryz.uJ s v b) (tQ v b) :=
 have hs:=YM (.inl G)
 ⟨r.now,r.j,r.f,fun n M=>by
  rcases mem_append.1 (show n∈v.ns++[⟨b,aD v.ns b.parent,wZ b⟩] from M) with M|M
  ·exact r.nd n M
  ·rw[mem_singleton] at M;subst M;exact⟨rb.1,hs⟩,r.or,fun n M=>by
  rcases mem_append.1 (show n∈v.ns++[⟨b,aD v.ns b.parent,wZ b⟩] from M) with M|M
  all_goals grind [rt],r.fe,by
  show ((v.ns++[(⟨b,aD v.ns b.parent,wZ b⟩:Node)]).map fun n:Node=>n.block.root).Nodup
  grind [ds,Fo,RH],r.tb,⟨r.ne.q,r.ne.e,r.ne.t,r.ne.ea,r.ne.tb⟩,r.vs.uJ hg G⟩
def RG0.ins (r:RG0 s v) (hg:GI s v q) (rb:RB b/\Pr b.root) (G:sW s v b=0):RG0 (tR s v b) (sH s v b):=by
 have g1:=r.uJ hg rb G
 have g2:=g1.dE rb.1.j rb.1.f
 unfold tR sH;split
 ·exact RG0.dE g2 rb.1.pj rb.1.pf
 ·exact g2
def RG0.Sp {s:aF} {v:SV} (r:RG0 s v) (O:Option (List Block)) (x:AV) (h:(ol O).Sublist (ol v.O)):RG0 (lI s x) { v with O:=O }:=⟨r.now,r.j,r.f,r.nd,fun b hb=>r.or b (h.subset hb),r.rt,r.fe,r.ds,r.tb,⟨r.ne.q,r.ne.e,r.ne.t,r.ne.ea,r.ne.tb⟩,r.vs.Sp O x h⟩
def RG0.wait {s:aF} {v:SV} (r:RG0 s v) {b:Block} (rb:RB b/\Pr b.root) (hb:sW s v b=10) (x:AV):RG0 (lI s x) { v with O:=some (ol v.O++[{ b with oU:=false }])} :=
 ⟨r.now,r.j,r.f,r.nd,fun c G=>(mem_append.1 (show c∈ol v.O++[{ b with oU:=false }] from G)).elim (r.or c) fun e=>by grind [RB.mk,RB.sl,RB.j,RB.f,RB.pj,RB.pf],r.rt,r.fe,r.ds,r.tb,⟨r.ne.q,r.ne.e,r.ne.t,r.ne.ea,r.ne.tb⟩,r.vs.wait hb _ x rfl⟩
def RG.wait {s:aF} {v:SV} (r:RG s v) {b:Block} (rb:RB b/\Pr b.root) (hb:sW s v b=10) (hp:aD v.ns b.parent<0) (x:AV):RG (lI s x) { v with O:=some (ol v.O++[{ b with oU:=false }])} :=
 ⟨r.toRG0.wait rb hb x,fun c G=>(mem_append.1 (show c∈ol v.O++[{ b with oU:=false }] from G)).elim (r.op c) fun e=>qg⟩
def RG0.dY {s:aF} {v:SV} (r:RG0 s v) (x:bU) (h:x=bQ\/0<=aD v.ns x):RG0 { s with dY:=x } v:=⟨r.now,r.j,r.f,r.nd,r.or,r.rt,r.fe,r.ds,r.tb,r.ne,r.vs.dY x h⟩
def RG.dY {s:aF} {v:SV} (r:RG s v) (x:bU) (h:x=bQ\/0<=aD v.ns x):RG { s with dY:=x } v:=⟨r.toRG0.dY x h,r.op⟩
theorem GI.mono {q':Int} (h:GI s v q) (h1:q<=q') (h2:q'<=900000):GI s v q' :=
 ⟨h.sd,h.up,h.Nv,h.pos,h.nl,h.RE,h.iH,h.Wg,h.nB,h.nO,h.AH,h.nE,h.KU,h.nT,h.KV,dm,h2,h.dX⟩
def sI:Flat (bc eU):=by simp only[sB,eU,sG,wC,Ag,Pw,and_self]
def StR (s:aF) (q:Int) (r:AV):Prop:=∃(D:aF) (e:Int),r=.cY [bc D,aa e]/\Flat (bc D)/\e≠21/\(e=0->∃S,GI D S q/\RG D S/\D.cFg=s.cFg)
def StN (s:aF) (v:SV) (q:Int) (r:AV):Prop:=∃(D:aF) (e:Int),r=.cY [bc D,aa e]/\Flat (bc D)/\e≠21/\(e=0->∃S,GI D S q/\RG D S/\D.cFg=s.cFg/\S.ns=v.ns)
def aFt (s:aF) (v:SV) (b:Block):sW s v b≠21:=by
 unfold sW;omega
theorem zC (x:Int) (h1:0<=x) (h2:x<18446744073709551616):u64.wrap x=x:=by
 grind [IntKind.wrap,IntKind.signed,IntKind.bits]
def aFu (h0:0<=x) (h1:x<18446744073709551616):u64.wrap ((BitVec.ofInt u64.bits x &&& BitVec.ofInt u64.bits 4294967295).toNat:Int)=x % 4294967296:=by
 obtain⟨n,rfl⟩:=Int.eq_ofNat_of_zero_le h0
 have hn:n<18446744073709551616:=WF
 have e:(BitVec.ofInt u64.bits (n:Int) &&& BitVec.ofInt u64.bits 4294967295).toNat=n % 4294967296:=by
  rw[BitVec.toNat_and];have A:(BitVec.ofInt u64.bits (n:Int)).toNat=n:=by
   rw[BitVec.toNat_ofInt];show ((n:Int) % ((2 ^ 64:Nat):Int)).toNat=n
   omega
  have M:(BitVec.ofInt u64.bits 4294967295).toNat=2 ^ 32-1:=ZB
  rw[A,M,Nat.and_two_pow_sub_one_eq_mod]
 grind [zC]
def YQ (x:Int) (h0:0<=x):x.fdiv (2 ^ min 32 u64.bits)=x / 4294967296:=by
 grind [IntKind.bits]
def aTQ:aZ Tryz.f299=true:=WP
def aTR {y:Int} (x0:0<=x) (x1:x<18446744073709551616) (G:0<=y) (y1:y<=100):aA prog 299 [ac x,ac y]=some (.cY [ac (x * y / 18446744073709551616),ac (u64.wrap (x * y))]):=by
 have l:=aFu x0 x1
 have a2:=aFu G WF
 have s1:=YQ x x0
 have s2:=YQ y G
 have Y:y % 4294967296=y:=WF
 have J:y / 4294967296=0:=WF
 rw[Y] at a2;rw[J] at s2;obtain⟨p,hp⟩:∃p,p=x % 4294967296:=⟨_,rfl⟩
 obtain⟨r,X⟩:∃r,r=x / 4294967296:=⟨_,rfl⟩
 have N:x=r * 4294967296+p:=WF
 have p0:0<=p/\p<4294967296:=WF
 have r0:0<=r/\r<4294967296:=WF
 rw[<- hp] at l;rw[<- X] at s1;have py:0<=p * y/\p * y<=4294967296 * 100:=⟨Int.mul_nonneg p0.1 G,Int.mul_le_mul WF y1 G WF⟩
 have ry:0<=r * y/\r * y<=4294967295 * 100:=⟨Int.mul_nonneg r0.1 G,Int.mul_le_mul WF y1 G WF⟩
 obtain⟨A,hA⟩:∃A,A=p * y:=⟨_,rfl⟩
 obtain⟨B,hB⟩:∃B,B=r * y:=⟨_,rfl⟩
 have D:x * y=B * 4294967296+A:=by rw[N,Int.add_mul,Int.mul_right_comm,<- hA,<- hB]
 rw[<- hA] at py;rw[<- hB] at ry;have u:u64.wrap A=A:=zC _ WF WF
 have w2:u64.wrap B=B:=zC _ WF WF
 have S:=YQ A WF
 obtain⟨C,W⟩:∃C,C=B+A / 4294967296:=⟨_,rfl⟩
 have w3:u64.wrap (B+A / 4294967296)=C:=by rw[zC _ WF WF,W]
 have a3:=aFu (x:=C) WF WF
 have R:=YQ C WF
 have s5:=YQ (C % 4294967296) WF
 have m:u64.wrap (C % 4294967296)=C % 4294967296:=zC _ WF WF
 have M:u64.wrap 0=0:=rfl
 have z5:C % 4294967296 / 4294967296=0:=WF
 have w6:u64.wrap (C / 4294967296)=C / 4294967296:=zC _ WF WF
 have Q0:x * y / 18446744073709551616=C / 4294967296:=by rw[D,W];omega
 rw[Q0];rw[cL func299 rfl aTQ rfl];simp only[Z8,seval,l,a2,s1,s2,<- hA,<- hB,u,w2,S,w3,a3,R,Int.mul_zero,M,Int.add_zero,m,s5,z5,Int.zero_add,w6];exact bT rfl rfl rfl Wl Wl
def a1d (n:Int):aA prog 195 [ac n]=some (ae (decide (1<=n) && decide (n<=64))):=by
 rw[cL func195 rfl aTS rfl];by_cases h:1<=n
 all_goals
  simp only[Z8,seval,h,decide_true,decide_false,Bool.true_and,Bool.false_and];exact bE rfl xl (.v _)
def pe (n:Int):KC 195 [ac n] (ae (decide (1<=n) && decide (n<=64))):=fun _ _=>aX (bZ (.v _)) (a1d n) (.v _)
def a1e (e0:0<=e) (A:e<18446744073709551616):aA prog 200 [ac e,ac p]=some (.cY [ac ((Nt e p).1),aa ((Nt e p).2)]):=by
 unfold Nt;by_cases h:1<=p/\p<=64
 ·have J:(decide (1<=p) && decide (p<=64))=true:=zu
  rw[if_pos h];have M:=kx (aTR e0 A (y:=p) WF WF) (aU (.v _) (.v _)) (.cY _ (aU (.v _) (.v _)))
  have G:aA prog 274 [ac e,ac p]=some (.cY [ac ((EF e p).1),aa ((EF e p).2)]):=by
   rw[cL func274 rfl aTT rfl];have D:Int.tdiv 18446744073709551615 p=18446744073709551615 / p:=Int.tdiv_eq_ediv_of_nonneg WF
   have l:(18446744073709551615 / p<e)↔18446744073709551615<e * p:=Int.ediv_lt_iff_lt_mul WF
   have hm:0<=e * p:=Int.mul_nonneg e0 WF
   have hq:=Int.ediv_le_self p (show (0:Int)<=18446744073709551615 from WF)
   have R:=Int.ediv_nonneg (show (0:Int)<=18446744073709551615 from WF) (show 0<=p from WF)
   have hw:u64.wrap (18446744073709551615 / p)=18446744073709551615 / p:=zC _ R WF
   have C:p≠0:=WF
   unfold EF;rw[D,hw];by_cases g:e * p / 18446744073709551616=0
   ·rw[if_neg (fun k=>WF)]
    simp only[Z8,seval,M,bW,bt g];exact bT rfl rfl rfl Wl Wl
   ·rw[if_pos ⟨C,l.2 WF⟩]
    simp only[Z8,seval,M,bW,bf g];exact bT rfl rfl rfl Wl Wl
  have N:=kx G (aU (.v _) (.v _)) (.cY _ (aU (.v _) (.v _)))
  rw[cL func200 rfl aM5 rfl];simp only[Z8,seval,pe,J,N,bW];exact bT rfl rfl rfl Wl Wl
 ·have J:(decide (1<=p) && decide (p<=64))=false:=by
   grind
  rw[if_neg h];rw[cL func200 rfl aM5 rfl];simp only[Z8,seval,pe,J];exact bT rfl rfl rfl Wl Wl
def eu (h:Rg e):KC 200 [ac e,ac p] (.cY [ac ((Nt e p).1),aa ((Nt e p).2)]):=fun _ _=>aX (aU (.v _) (.v _)) (a1e h.1 h.2) (.cY _ (aU (.v _) (.v _)))
def a1f (h:1<=s.cFg.iH/\s.cFg.iH<=64) (x:Int):aA prog 203 [ac x,ac s.cFg.iH]=some (.cY [ac (pY s x),aa 0]):=by
 have J:(decide (1<=s.cFg.iH) && decide (s.cFg.iH<=64))=true:=zu
 have h0:(s.cFg.iH=0)=False:=eq_false WF
 rw[cL func203 rfl aTU rfl];simp only[Z8,seval,pe,J,h0];exact bT rfl rfl rfl Qbm Qbm
def Sq (h:1<=s.cFg.iH/\s.cFg.iH<=64) (x:Int):KC 203 [ac x,ac s.cFg.iH] (.cY [ac (pY s x),aa 0]):=fun _ _=>aX (aU (.v _) (.v _)) (a1f h x) (.cY _ (aU (.v _) (.v _)))
def KW (a b:oG):Nat->Int
 | 0=>0
 | k+1=>if wb a k<wb b k then -1 else if wb b k<wb a k then 1 else KW a b k
def aCK (a b:oG) (k:Nat):KW a b (k+1)=if wb a k<wb b k then -1 else if wb b k<wb a k then 1 else KW a b k:=rfl
def aTV (a b:oG):aA prog 344 [.agg (fD a),.agg (fD b)]=some (aa (KW a b 4))/\aA prog 281 [.agg (fD a),.agg (fD b)]=some (aa (KW a b 4)):=by
 constructor
 case' left=>rw[cL func344 rfl aM0 rfl]
 case' right=>rw[cL func281 rfl aTW rfl]
 all_goals
  refine eM ?_
  simp only[Z8,seval];refine bP (fun m st=>∃k:Nat,(st.env 2=.ptr 2 0 0/\st.heap 2 0=some (.cells (fD a))/\st.env 3=.ptr 3 0 0/\st.heap 3 0=some (.cells (fD b))/\st.env 5=aa ((k:Int)-1))/\KW a b k=KW a b 4/\k<=4/\m=k)
   (fun e st=>(e=.ret/\st.env 4=aa (KW a b 4))\/(e=.exit 0/\KW a b 4=0)) 4 ?_ ?_ ?_
  ·rintro m st ⟨k,D,G,hk,hm⟩
   cases k with
   | zero =>
     have A:¬(0:Int)<=((0:Nat):Int)-1:=WF
     apply oT (.exit 0)
     ·simp only[Z8,seval,D,A];rfl
     ·exact .inr ⟨rfl,G.symm⟩
   | succ k =>
     have e1:((k+1:Nat):Int)-1=(k:Int):=WF
     rw[e1] at D;have A:(0:Int)<=k:=WF
     have S:(k:Int)<4:=WF
     have hw:i64.wrap ((k:Int)-1)=(k:Int)-1:=Dz _ WF WF
     have ga:=Ax a A S
     have M:=Ax b A S
     rw[aCK] at G;by_cases J:wb a k<wb b k
     ·rw[if_pos J] at G;apply oT (.ret)
      ·simp only[Z8,seval,D,A,S,Gy,ga,M,J];rfl
      ·exact .inl ⟨rfl,by simp only[E8,seval,<- G]⟩
     ·rw[if_neg J] at G;by_cases h2:wb b k<wb a k
      ·rw[if_pos h2] at G;apply oT (.ret)
       ·simp only[Z8,seval,D,A,S,Gy,ga,M,J,h2];rfl
       ·exact .inl ⟨rfl,by simp only[E8,seval,<- G]⟩
      ·rw[if_neg h2] at G;apply oN (k)
       ·simp only[Z8,seval,D,A,S,Gy,ga,M,J,h2,hw];rfl
       ·exact⟨k,XC,G,WF,rfl⟩
  ·exact⟨4,Wl,rfl,WF,WF⟩
  ·rintro e st (⟨rfl,h⟩|⟨rfl,h⟩)
   ·simp only[Z8,seval];exact⟨_,bE rfl qm XG,rfl⟩
   ·simp only[Z8,seval];exact⟨_,bE rfl Wl XG,yi⟩
def aJH (a b:oG):YD a b=KW a b 4:=by
 have h:=(Classical.choose_spec (aOg a b)).symm.trans (aTV a b).1
 injection h with h
 injection h with h
 injection h
def a1g (a b:oG):aA prog 281 [.agg (fD a),.agg (fD b)]=some (aa (YD a b)):=by
 rw[aJH];exact (aTV a b).2
def aTX (a b:oG):KC 281 [.agg (fD a),.agg (fD b)] (aa (YD a b)):=fun _ _=>aX (aU (.agg _ (gM a)) (.agg _ (gM b))) (a1g a b) (.v _)
def a1h (p b:Block):aA prog 280 [ah p,ah b]=some (ae (decide (p.eQ=bQ) && !decide (b.eQ=bQ))):=by
 rw[cL func280 rfl aTY rfl];by_cases h:p.eQ=bQ
 all_goals
  simp only[h,decide_true,decide_false,Bool.not_true,Bool.not_false,Bool.true_and,Bool.false_and];simp only[Z8,seval,vH,h,decide_true,decide_false];exact bE rfl Wl (.v _)
def pg (p b:Block):KC 280 [ah p,ah b] (ae (decide (p.eQ=bQ) && !decide (b.eQ=bQ))):=fun _ _=>aX (aU (lF p) (lF b)) (a1h p b) (.v _)
def a1i (Ps:oG) (p b:Block):aA prog 208 [.agg (fD Ps),ah p,ah b]=some (ae (decide (DT Ps p b))):=by
 rw[cL func208 rfl aTZ rfl];unfold DT;by_cases hp:p.eQ=bQ
 ·by_cases h:b.eQ=bQ
  ·simp only[h,hp,forall_const,ne_eq,not_true_eq_false,false_implies,and_true,decide_true];simp only[Z8,seval,h,hp,pg,vH,decide_true,decide_false,Bool.not_true,Bool.and_false,Bool.true_and];exact bE rfl Wl (.v _)
  ·simp only[h,hp,ne_eq,not_false_eq_true,forall_const,false_implies,true_and];by_cases J:YD b.Yx Ps<0
   ·simp only[J,true_and];simp only[Z8,seval,h,hp,pg,aTX,J,decide_true,decide_false,Bool.not_false,Bool.true_and];exact bE rfl Wl (.v _)
   ·simp only[J,false_and,decide_false];simp only[Z8,seval,h,hp,pg,aTX,J,decide_true,decide_false,Bool.not_false,Bool.true_and];exact bE rfl Wl (.v _)
 ·by_cases h:b.eQ=bQ
  all_goals
   simp only[h,hp,ne_eq,not_true_eq_false,not_false_eq_true,forall_const,false_implies,implies_true,and_self,and_true,decide_true,decide_false];simp only[Z8,seval,h,hp,pg,vH,decide_true,decide_false,Bool.not_true,Bool.not_false,Bool.false_and];exact bE rfl Wl (.v _)
def EG (Ps:oG) (p b:Block):KC 208 [.agg (fD Ps),ah p,ah b] (ae (decide (DT Ps p b))):=fun _ _=>aX (jC (.agg _ (gM Ps)) (lF p) (lF b)) (a1i Ps p b) (.v _)
end Go.Ab.Tryz
section
namespace Go.Ab.Tryz
open Classical Go.Proofs Go.Ab
def N9 (ρ A:Nat->Nat):Op->Op
 | .alloc t=>.alloc (ρ t)
 | .box t x=>.box (ρ t) x
 | .buildSlice t n x=>.buildSlice (ρ t) n x
 | .load t a=>.load (ρ t) a
 | .store t a x=>.store (ρ t) a x
 | .binOp o t x y u=>.binOp o (ρ t) x y (ρ u)
 | .slice t x a b c=>.slice (ρ t) x a b c
 | .indexAddr t x i=>.indexAddr (ρ t) x i
 | .call ⟨.value (.func g),x,l⟩=>.call ⟨.value (.func (A g)),x,l.map ρ⟩
 | .call ⟨c,x,l⟩=>.call ⟨c,x,l.map ρ⟩
 | o=>o
def O0 (ρ A:Nat->Nat) (o:Oper):Oper:={ o with op:=N9 ρ A o.op,type:=ρ o.type }
def Wh (ρ A:Nat->Nat):Code->Code
 | .region i ops d=>.region i (ops.map (O0 ρ A)) d
 | .seq a b=>.seq (Wh ρ A a) (Wh ρ A b)
 | .cond c a b=>.cond c (Wh ρ A a) (Wh ρ A b)
 | .block i b=>.block i (Wh ρ A b)
 | .loop b=>.loop (Wh ρ A b)
 | c=>c
structure AJ {α:Type} (c:α->List AV) (T E Z b:Nat) (v:List Value):Prop where
 sl:dD prog T=some (E,Z,b)
 na:gW prog T=none
 ze:eC prog E=some v
 vl:v.length=Z
 lk:rK prog E=some Z
 ld:∀(cs:List AV) (o:Nat),Z<=cs.length-o->gI prog E cs o=some (.agg (rd cs o Z))
 len:∀x,(c x).length=Z
 pos:0<Z
variable {α:Type} {c:α->List AV} {T E Z b:Nat} {v:List Value}
theorem AJ.rd (h:AJ c T E Z b v) (x:α):rd (c x) 0 Z=c x:=by
 unfold Go.Ab.rd;rw[drop_zero,take_of_length_le (by rw[h.len];exact Nat.le_refl _)]
theorem AJ.cw (h:AJ c T E Z b v) (x:α):gI prog E (c x) 0=some (.agg (c x)):=by rw[h.ld _ _ (by rw[h.len];omega),h.rd]
theorem AJ.ix (h:AJ c T E Z b v) (st:St) (s g:Nat) (k:IntKind) (i:Int):bK prog st T (.own s g) (.v (.int k i))=Vs E Z (st.heap s g) s g i:=by
 simp only[bK,h.na,h.sl,Vs];rfl
theorem AJ.lc (h:AJ c T E Z b v) (x:α):pB prog E (some (.cells (c x))) 0=some (.agg (c x)):=by
 have:=h.len x
 simp[pB,h.lk,this,h.cw]
theorem AJ.zl (h:AJ c T E Z b v):(v.map AV.v).length=Z:=by rw[length_map,h.vl]
theorem AJ.up (h:AJ c T E Z b v) (x:α):dE (v.map AV.v) 0 (c x) Z=c x:=by
 grind [dE,zl]
theorem AJ.jm (h:AJ c T E Z b v) (z:α) (st:St) {o:Option (List α)} {kk:IntKind} {i:Int} (h0:0<=i) (J:i<(ol o).length):bK prog st T (ov (List.flatMap c) o) (.v (.int kk i))=some (.ip (c (gx z (ol o) i)) 0):=by
 cases o with
 | none=>simp[ol] at J;omega
 | some l =>
   obtain⟨W,e⟩:=RJ (z:=z) h0 J
   have h2:i.toNat * Z+Z<=(l.flatMap c).length:=by rw[mL h.len,<- Nat.succ_mul];exact Nat.mul_le_mul_right _ W
   have S:((l.flatMap c).drop (i.toNat * Z)).take Z=c (gx z l i):=ph h.len h0 J
   have J:i<l.length:=J
   simp only[ov,bK,h.na,h.sl,h0,J,h2,S,and_self,if_true];rfl
theorem AJ.jn (h:AJ c T E Z b v) (x:α) (st:St):Fp prog st E (.ip (c x) 0)=some (.agg (c x)):=h.cw x
def ixB (T E U:Nat):Code:=Wh (fun n=>if n=53 then T else if n=102 then E else if n=212 then U else n) id (Tryz.f205.body.getD .skip)
theorem ixF (e:AJ c T E Z b v) {g U:Nat} {fn:Func} (W:prog.funcs[g]? = some fn) (hb:fn.body=some (ixB T E U)) (X:fn.results.toList=[.tmp 4]) (nU:aZ fn=true) (N:Q7 g=false) (R:Sr g=false)
 (z:α) (o:Option (List α)) (hn:bg (ol o).length) (f:Nat) (G:List AV) (p:α->Bool) (kf:∀x∈ol o,∀(st:St) (d:Option Nat),aO (aA prog) f ([.agg (c x)]++G) st d=some { dst:=d,val:=ae (p x)}):aA prog g [ov (List.flatMap c) o,.rL f G]=some (aa (qP (fun k=>p (gx z (ol o) k)=true) (ol o).length)):=by
 have vo:∀st:St,bA st (ov (List.flatMap c) o)=some ((ol o).length,(ol o).flatMap c):=fun st=>by cases o<;>rfl
 rw[dJ prog W hb nU _ (cF _ _ N) wa]
 refine eM ?_
 simp only[ixB,Tryz.f205,Option.getD_some,Wh,O0,N9,List.map_toArray,id,E8,seval,vo,e.sl];refine bP (fun m st=>∃k:Nat,(st.env 0=ov (List.flatMap c) o/\st.env 1=.rL f G/\st.env 7=aa ((ol o).length)/\st.env 8=aa k)/\(∀j:Nat,j<k->¬p (gx z (ol o) j)=true)/\k<=(ol o).length/\m=(ol o).length-k)
  (fun e st=>(e=.ret/\∃k:Nat,k<(ol o).length/\p (gx z (ol o) k)=true/\(∀j:Nat,j<k->¬p (gx z (ol o) j)=true)/\st.env 4=aa k)\/(e=.exit 0/\∀j:Nat,j<(ol o).length->¬p (gx z (ol o) j)=true)) (ol o).length ?step ?start ?rest
 case step =>
  rintro m st ⟨k,D,Y,R,hm⟩
  by_cases A:(k:Int)<(ol o).length
  ·obtain ⟨q0,hw⟩ := yY k
   have J:=kf _ (lB (z:=z) q0 A)
   by_cases X:p (gx z (ol o) k)=true
   ·rw[X] at J
    apply oT (.ret)
    ·simp only[Z8,seval,D,A,q0,J,e.jm z,e.jn];rfl
    ·exact .inl ⟨rfl,k,WF,X,Y,qb⟩
   ·have W:p (gx z (ol o) k)=false:=by simpa using X
    rw[W] at J
    apply oN ((ol o).length-(k+1))
    ·simp only[Z8,seval,D,A,q0,J,hw,e.jm z,e.jn];rfl
    ·exact⟨k+1,XC,fun j h=>(Nat.lt_succ_iff_lt_or_eq.1 h).elim (Y j) fun e=>by subst e;exact X,WF,rfl⟩
  ·apply oT (.exit 0)
   ·simp only[Z8,seval,D,A];rfl
   grind
 case start=>exact⟨0,Wl,fun j h=>WF,WF,WF⟩
 case rest =>
  rintro e st (⟨rfl,k,M,u,Y,h⟩|⟨rfl,Y⟩)
  ·have C:qP (fun k=>p (gx z (ol o) k)=true) (ol o).length=k:=Ad u Y _ M
   simp only[Z8,seval];grind [Bo,aI,Flat.v]
  ·have C:qP (fun k=>p (gx z (ol o) k)=true) (ol o).length=-1:=pN _ Y
   simp only[Z8,seval];exact⟨_,Bo (aI R) (.inl rfl) X Wl (.v _),wm⟩
theorem EH:AJ aY 44 66 238 336 Py:=⟨Fm,po,jo,WP,pq,aT2,jQ,ZB⟩
theorem aFw (o:Option (List Block)) (M:bg (ol o).length) (f:Nat) (G:List AV) (p:Block->Bool) (kf:∀x∈ol o,∀(st:St) (d:Option Nat),aO (aA prog) f ([ah x]++G) st d=some { dst:=d,val:=ae (p x)}):aA prog 141 [ov aK o,.rL f G]=some (aa (qP (fun k=>p (gx gQ (ol o) k)=true) (ol o).length)):=ixF (U:=217) EH func141 WP rfl aT3 rfl rfl gQ o M f G p kf
end Go.Ab.Tryz
end
namespace Go.Ab.Tryz
open Classical Go.Proofs Go.Ab
variable {s:aF} {v:SV}
def pt (o:Option (List bU)) (hn:bg (ol o).length) (r:bU):∃x,aA prog 231 [ov fN o,.agg (aW r)]=some x/\∃b:Bool,x=ae b:=by
 rw[cL func231 rfl aT4 wa]
 simp only[Z8,seval];refine bP (fun m st=>∃k:Nat,(st.env 0=ov fN o/\st.env 3=.ptr 3 0 0/\st.heap 3 0=some (.cells (aW r))/\st.env 5=aa k)/\(∀j:Nat,j<k->¬(gx bQ (ol o) (j:Int)=r))/\k<=(ol o).length/\m=(ol o).length-k)
  (fun e st=>(e=.ret/\∃k:Nat,k<(ol o).length/\(gx bQ (ol o) (k:Int)=r)/\(∀j:Nat,j<k->¬(gx bQ (ol o) (j:Int)=r))/\st.env 4=ae true)\/(e=.exit 0/\(∀j:Nat,j<(ol o).length->¬(gx bQ (ol o) (j:Int)=r))/\st.env 0=ov fN o/\st.env 3=.ptr 3 0 0/\st.heap 3 0=some (.cells (aW r)))) ((ol o).length) ?step ?start ?rest
 case step =>
  rintro m st ⟨k,D,Y,R,hm⟩
  by_cases A:(k:Int)<(ol o).length
  ·obtain ⟨q0,hw⟩ := yY k
   by_cases u:gx bQ (ol o) (k:Int)=r
   ·apply oT (.ret)
    ·simp only[Z8,seval,D,A,q0,u];rfl
    ·exact .inl ⟨rfl,k,WF,u,Y,qb⟩
   ·apply oN ((ol o).length-(k+1))
    ·simp only[Z8,seval,D,A,q0,u,hw];rfl
    ·exact⟨k+1,XC,fun j h=>(Nat.lt_succ_iff_lt_or_eq.1 h).elim (Y j) fun e=>vg,WF,rfl⟩
  ·apply oT (.exit 0)
   ·simp only[Z8,seval,D,A];rfl
   ·exact .inr ⟨rfl,fun j h=>Y j WF,XC⟩
 case start=>exact⟨0,Wl,fun j h=>WF,WF,WF⟩
 case rest =>
  rintro e st (⟨rfl,k,R,u,Y,h⟩|⟨rfl,Y,D⟩)
  ·simp only[Z8,seval];exact⟨_,bE rfl qm XG,_,rfl⟩
  ·simp only[Z8,seval];exact⟨_,bE rfl Wl XG,_,rfl⟩
def aCL (l:List Table) (c:dH):-1<=QV l c/\QV l c<l.length:=DS _ _
def x96 (hs:SD s v):∃x,aA prog 96 [bc s]=some x/\∃o:Option (List Int),x=ov bD o/\bg (ol o).length:=by
 have M:=hs.fT
 rw[cL func96 rfl a1k rfl];have G:=aCL (ol v.T) s.aL.dX
 by_cases g1:QV (ol v.T) s.aL.dX<0
 ·simp only[Z8,seval,hs.tables,fO _ hs.nT M,g1];exact⟨_,bE rfl,none,rfl,zc⟩
 have q0:0<=QV (ol v.T) s.aL.dX:=WF
 obtain⟨b,hb,W⟩:=hs.tB _ (lB (z:=fW) q0 G.2)
 simp only[Z8,seval,hs.tables,fO _ hs.nT M,g1,q0,G,hb];exact⟨_,bE rfl (by simp only[E8,seval,hb]<;>rfl) (cP b),b,rfl,W⟩
def a1l (a b:Claim) (ha:Flat a.dL) (hb:Flat b.dL):∃x,aA prog 318 [av a,av b]=some x/\∃c:Bool,x=ae c:=by
 rw[cL func318 rfl aT5 rfl];by_cases g1:a.target=b.target
 ·by_cases g2:a.source=b.source
  ·by_cases g3:a.root=b.root
   all_goals
    have g4:¬a.source<b.source:=WF
    have g5:¬b.source<a.source:=WF
    simp only[Z8,seval,bt g1,bt g2,g3,g4,g5];exact⟨_,bE rfl Wl XG,_,rfl⟩
  ·by_cases g4:a.source<b.source
   all_goals
    by_cases g5:b.source<a.source
    all_goals
     by_cases g6:b.target<a.target
     all_goals
      by_cases g7:a.target<b.target
      all_goals
       simp only[Z8,seval,bt g1,bf g2,g4,g5,g6,g7];exact⟨_,bE rfl Wl XG,_,rfl⟩
 ·by_cases g4:a.source<b.source
  all_goals
   by_cases g5:b.source<a.source
   all_goals
    by_cases g6:b.target<a.target
    all_goals
     by_cases g7:a.target<b.target
     all_goals
      simp only[Z8,seval,bf g1,g4,g5,g6,g7];exact⟨_,bE rfl Wl XG,_,rfl⟩
def a1m (hs:SD s v):∃x,aA prog 244 [bc s]=some x/\∃r:bU,x=.agg (aW r):=by
 rw[cL func244 rfl aT6 rfl];have G:=cB v.ns s.aL.dX.root
 by_cases g1:0<=aD v.ns s.aL.dX.root
 ·by_cases g2:(nd v.ns (aD v.ns s.aL.dX.root)).status=1
  ·simp only[Z8,seval,hs.tree,qL _ _ hs.nn,g1,G,bt g2];exact⟨_,iI rfl Wl qk wv,_,rfl⟩
  ·simp only[Z8,seval,hs.tree,qL _ _ hs.nn,g1,G,bf g2];exact⟨_,iI rfl Wl qk wv,_,rfl⟩
 ·simp only[Z8,seval,hs.tree,qL _ _ hs.nn,g1];exact⟨_,iI rfl Wl qk wv,_,rfl⟩
def x97 (c:Config) (hc:Flat c.fL) (x:Int):∃r,aA prog 97 [aq c,ac x]=some r/\∃a e:Int,r=.cY [ac a,aa e]:=by
 rw[cL func97 rfl a1n rfl];by_cases g1:c.iH<1
 ·simp only[Z8,seval,g1];exact⟨_,bT rfl rfl rfl Wl Wl,_,_,rfl⟩
 by_cases g2:64<c.iH
 ·simp only[Z8,seval,g1,g2];exact⟨_,bT rfl rfl rfl Wl Wl,_,_,rfl⟩
 by_cases g3:100<c.pO
 ·simp only[Z8,seval,g1,g2,g3];exact⟨_,bT rfl rfl rfl Wl Wl,_,_,rfl⟩
 by_cases g4:4611686018427387904<x
 ·simp only[Z8,seval,g1,g2,g3,g4];exact⟨_,bT rfl rfl rfl Wl Wl,_,_,rfl⟩
 have g5:(c.iH=0)=False:=eq_false WF
 simp only[Z8,seval,g1,g2,g3,g4,g5];exact⟨_,bT rfl rfl rfl Wl Wl,_,_,rfl⟩
def aOz (o:Option (List bU)) (r:bU):Bool:=if h:bg (ol o).length then Classical.choose (Classical.choose_spec (pt o h r)).2 else false
def a1o (o:Option (List bU)) (M:bg (ol o).length) (r:bU) (st:St) (d:Option Nat):aO (aA prog) 231 [ov fN o,.agg (aW r)] st d=some { dst:=d,val:=ae (aOz o r)}:=by
 have h:=(Classical.choose_spec (pt o M r)).1
 rw[Classical.choose_spec (Classical.choose_spec (pt o M r)).2] at h;rw[show aOz o r=Classical.choose (Classical.choose_spec (pt o M r)).2 from dif_pos M];exact aX (aU (yM o) (oE r)) h (.v _)
def Q8 (l:List Int) (x:Int) (L:List Int):Prop:=(l.Pairwise (· < ·)->L.Pairwise (· < ·))/\∀y∈L,y=x\/y∈l
def BY {l:List Int} {x:Int} {k:Nat} (h1:∀j:Nat,j<k->gx (0:Int) l (j:Int)<x) (h2:k<l.length->x<gx (0:Int) l (k:Int)):Q8 l x (l.take k++[x]++l.drop k):=by
 have hg:∀(j:Nat) (h:j<l.length),gx (0:Int) l (j:Int)=l[j]:=fun j h=>by simp[gx,h]
 refine⟨fun hs=>?_,fun y hy=>?_⟩
 ·have lo:∀a∈l.take k,a<x:=fun a ha=>by
   grind [mem_take_iff_getElem]
  have hi:∀b∈l.drop k,x<b:=fun b hb=>by
   grind [mem_drop_iff_getElem,pairwise_iff_getElem]
  grind
 grind
def a1p (o:Option (List Int)) (hn:((ol o).length:Int)<999999) (x:Int):∃r,aA prog 319 [ov aH o,aa x]=some r/\(r=ov aH o\/∃L:List Int,r=.uniq 3 1 L.length (aH L)/\L.length=(ol o).length+1/\Q8 (ol o) x L):=by
 rw[cG func319 rfl aT7 WP wa]
 simp only[ZG,seval,EJ];refine jV (fun m st=>∃k:Nat,(st.env 0=ov aH o/\st.env 1=aa x/\st.env 5=aa k)/\(∀j:Nat,j<k->gx (0:Int) (ol o) (j:Int)<x)/\k<=(ol o).length/\m=(ol o).length-k)
  (fun e st=>e=.exit 0/\∃k:Nat,(st.env 0=ov aH o/\st.env 1=aa x/\st.env 5=aa k)/\(∀j:Nat,j<k->gx (0:Int) (ol o) (j:Int)<x)/\(k<(ol o).length->x<=gx (0:Int) (ol o) (k:Int))/\k<=(ol o).length) (ol o).length ?step ?start ?rest
 case step =>
  rintro m st ⟨k,D,Y,R,hm⟩
  by_cases A:(k:Int)<(ol o).length
  ·obtain ⟨q0,hw⟩ := yY k
   by_cases J:gx (0:Int) (ol o) (k:Int)<x
   ·apply Ka ((ol o).length-(k+1))
    ·simp only[ZG,seval,EJ,D,A,q0,J,hw];rfl
    ·exact⟨k+1,XC,fun j h=>(Nat.lt_succ_iff_lt_or_eq.1 h).elim (Y j) fun e=>by subst e;exact J,WF,rfl⟩
   ·apply BW (.exit 0)
    ·simp only[ZG,seval,EJ,D,A,q0,J];rfl
    ·exact⟨rfl,k,XC,Y,fun _=>WF,R⟩
  ·apply BW (.exit 0)
   ·simp only[ZG,seval,EJ,D,A];rfl
   ·exact⟨rfl,k,XC,Y,fun h=>absurd WF A,R⟩
 case start=>exact⟨0,Wl,fun j h=>WF,WF,WF⟩
 case rest =>
  rintro e st ⟨rfl,k,D,W,hj2,R⟩
  have e1:ol (o.map (·.take k))=(ol o).take k:=og
  have M:ol (o.map (·.drop k))=(ol o).drop k:=og
  have G:bg (((ol o).take k).length:Nat):=qg
  have N:bg (((ol o).drop k).length:Nat):=qg
  have l:bg (((ol o).take k++[x]).length:Nat):=qg
  have q0:(0:Int)<=k:=WF
  have S:(k:Int)<=((ol o).length:Int):=WF
  by_cases A:(k:Int)<(ol o).length
  ·by_cases h2:gx (0:Int) (ol o) (k:Int)=x
   ·simp only[ZG,seval,EJ,D,A,q0,bt h2];exact⟨_,bE rfl qc (bR o),.inl rfl⟩
   ·simp only[ZG,seval,EJ,wA,wB,and_self,D,A,q0,S,bf h2,Int.toNat_natCast,e1,M,Ss _ G,Ai _ _ _ _ G,RK _ _ _ _ l N];refine⟨_,oH rfl Wl Wl (eP _),.inr ⟨_,rfl,qs,BY W (fun h=>WF)⟩⟩
  ·simp only[ZG,seval,EJ,wA,wB,and_self,D,A,q0,S,Int.toNat_natCast,e1,M,Ss _ G,Ai _ _ _ _ G,RK _ _ _ _ l N];refine⟨_,oH rfl Wl Wl (eP _),.inr ⟨_,rfl,qs,BY W (fun h=>absurd WF A)⟩⟩
def aT8 (o:Option (List Int)) (M:bg (ol o).length) (a:Int):aA prog 230 [ov aH o,aa a]=some (ae (decide (a∈ol o))):=by
 cases o with
 | none=>rw[show ol (none:Option (List Int))=[] from rfl];simp only[not_mem_nil,decide_false];exact aM6 a
 | some l=>exact aT9 l a M
def aFx (o:Option (List Int)) (M:bg (ol o).length) (a:Int):KC 230 [ov aH o,aa a] (ae (decide (a∈ol o))):=fun _ _=>aX (aU (bR o) (.v _)) (aT8 o M a) (.v _)
def a1q (t:uV) (L:Option (List lO)) (Q:Option (List Int)) (C:t.cJ=ov dF L) (hQ:t.dM=ov aH Q) (nL:bg (ol L).length) (nQ:bg (ol Q).length)
 (B:Option (List Int)) (nB:bg (ol B).length) (R:Option (List bU)) (nR:bg (ol R).length) :
 ∃r,aA prog 162 [az t,ov bD B,ov fN R]=some r/\∃a:Int,r=ac a:=by
 rw[cL func162 rfl aUa (by cases B<;>cases R<;>rfl)]
 simp only[Z8,seval];refine bP (fun m st=>∃(k:Nat) (a:Int),(st.env 1=ov bD B/\st.env 2=ov fN R/\st.env 3=.ptr 3 0 0/\st.heap 3 0=some (.cells (dQ t))/\st.env 7=ac a/\st.env 8=aa k)/\k<=(ol B).length/\m=(ol B).length-k)
  (fun e st=>e=.exit 0/\∃a:Int,st.env 7=ac a) (ol B).length ?step ?start ?rest
 case step =>
  rintro m st ⟨k,a,D,hk,hm⟩
  by_cases A:(k:Int)<(ol B).length
  ·obtain ⟨q0,hw⟩ := yY k
   by_cases J:(k:Int)<(ol L).length
   ·cases h2:(gx nP (ol L) (k:Int)).has
    ·apply oN ((ol B).length-(k+1))
     ·simp only[Z8,seval,D,A,q0,C,hQ,J,h2,hw];rfl
     ·exact⟨k+1,_,qc,WF,rfl⟩
    ·by_cases S:(k:Int)∈ol Q
     ·apply oN ((ol B).length-(k+1))
      ·simp only[Z8,seval,D,A,q0,C,hQ,J,h2,aFx Q nQ,S,decide_true,hw];rfl
      ·exact⟨k+1,_,qc,WF,rfl⟩
     ·cases X:aOz R (gx nP (ol L) (k:Int)).root
      all_goals
       refine Bp (st':=?_) ?_ ((ol B).length-(k+1)) WF ?_
       rotate_left
       ·simp only[Z8,seval,D,A,q0,C,hQ,J,h2,aFx Q nQ,S,decide_false,a1o R nR,X,hw];rfl
       ·exact⟨k+1,_,qc,WF,rfl⟩
   ·apply oT (.exit 0)
    ·simp only[Z8,seval,D,A,q0,C,J];rfl
    ·exact⟨rfl,a,XC⟩
  ·apply oT (.exit 0)
   ·simp only[Z8,seval,D,A];rfl
   ·exact⟨rfl,a,XC⟩
 case start=>exact⟨0,0,Wl,WF,WF⟩
 case rest =>
  rintro e st ⟨rfl,a,h⟩
  simp only[Z8,seval,h];exact⟨_,bE rfl qm XG,_,rfl⟩
def a1r (ns:List Node) (M:bg ns.length) (l:List Int) (W:l.length=ns.length) (r:bU) (a:Int):∃x,aA prog 100 [ak ⟨ns⟩,.sl l.length (bD l),.agg (aW r),ac a]=some x/\∃m:List Int,x=.uniq 23 1 m.length (bD m)/\m.length=ns.length:=by
 have X:bg l.length:=WF
 have A:=cB ns r
 rw[cL func100 rfl aUb rfl];by_cases g1:0<=aD ns r
 case neg =>
  simp only[Z8,seval,Hb _ X,qL _ _ M,g1];exact⟨_,oH rfl Wl Wl (fB _),l,rfl,W⟩
 by_cases g2:(nd ns (aD ns r)).status=2
 ·simp only[Z8,seval,Hb _ X,qL _ _ M,g1,A,bt g2];exact⟨_,oH rfl Wl Wl (fB _),l,rfl,W⟩
 by_cases g3:r=bQ
 ·subst g3;simp only[Z8,seval,Hb _ X,qL _ _ M,g1,A,bf g2];exact⟨_,oH rfl Wl Wl (fB _),l,rfl,W⟩
 have S:aD ns r<(l.length:Int):=WF
 have N:(aD ns r).toNat<l.length:=WF
 have p:(aD ns r).toNat+1<=l.length:=WF
 have Y:=Fq g1 S
 have Co:∀z:Int,dE (bD l) (aD ns r).toNat [ac z] ((aD ns r).toNat+1)=bD (l.set (aD ns r).toNat z):=fun z=>by
  grind [aFy]
 have ld:=Wi (T:=23) (n:=l.length) (k:=1) g1 S AG ZB ZB
 rw[Nat.mul_one] at ld;simp only[Z8,seval,Hb _ X,qL ns r M,g1,A,bf g2,g3,S,N,p,Y,Co,ld,Nat.mul_one];exact⟨_,oH rfl Wl Wl (fB _),_,by rw[length_set],qg⟩
def aJM (r:bU):fN [r]=aW r:=by simp[fN]
def aFz (r:bU):lG (some (.row 29 32 1 (aW r)))=some (.sl 1 (fN [r])):=by rw[<- aJM];exact xS 1 [r]
def aUc (t:uV) (B:Option (List Int)) (r:bU):Int:=if h:∃a:Int,aA prog 162 [az t,ov bD B,ov fN (some [r])]=some (ac a) then Classical.choose h else 0
def aUd (t:uV) (L:Option (List lO)) (Q:Option (List Int)) (C:t.cJ=ov dF L) (hQ:t.dM=ov aH Q) (nL:bg (ol L).length) (nQ:bg (ol Q).length)
 (B:Option (List Int)) (nB:bg (ol B).length) (r:bU) (s g:Nat) (st:St) (d:Option Nat) (u:st.heap s g=some (.row 29 32 1 (aW r))) :
 aO (aA prog) 162 [az t,ov bD B,.own s g] st d=some { dst:=d,val:=ac (aUc t B r)}:=by
 obtain⟨x,N,a,rfl⟩:=a1q t L Q C hQ nL nQ B nB (some [r]) zc
 have he:∃a:Int,aA prog 162 [az t,ov bD B,ov fN (some [r])]=some (ac a):=⟨a,N⟩
 have W:Flat (az t):=(Ez t).2 ⟨by rw[C];exact uW L,by rw[hQ];exact bR Q⟩
 rw[show aUc t B r=Classical.choose he from dif_pos he];rw[dZ,map_cons,map_cons,map_cons,map_nil,cV W,cV (cP B),oB,u,aFz,aM,aM,aM,dB];exact zP (Classical.choose_spec he)
def x98 (ns:List Node) (hn:bg ns.length) (h0:0<ns.length) (t:uV) (L:Option (List lO)) (Q:Option (List Int)) (C:t.cJ=ov dF L) (hQ:t.dM=ov aH Q) (nL:bg (ol L).length) (nQ:bg (ol Q).length)
 (B:Option (List Int)) (nB:bg (ol B).length) :
 ∃x,aA prog 98 [ak ⟨ns⟩,az t,ov bD B]=some x/\∃m:List Int,x=.uniq 23 1 m.length (bD m)/\m.length=ns.length:=by
 have kw:=fun r g=>aUd t L Q C hQ nL nQ B nB r 33 g
 rw[cL func98 rfl a1s (by cases B<;>rfl)]
 simp only[Z8,seval];refine bP (fun m st=>∃k:Nat,(st.env 3=.ptr 3 0 0/\st.heap 3 0=some (.cells (bN ⟨ns⟩))/\st.env 4=.ptr 4 0 0/\st.heap 4 0=some (.cells (dQ t))/\st.env 2=ov bD B/\st.env 8=aa k)/\((k=0/\st.env 7=af)\/∃(l:List Int) (g:Nat),st.env 7=.own 38 g/\g<st.aJ 38/\st.heap 38 g=some (.row 23 1 l.length (bD l))/\l.length=k)/\k<=ns.length/\m=ns.length-k)
  (fun e st=>e=.exit 0/\∃(l:List Int) (g:Nat),st.env 7=.own 38 g/\st.heap 38 g=some (.row 23 1 l.length (bD l))/\l.length=ns.length) ns.length ?step ?start ?rest
 case step =>
  rintro m st ⟨k,D,u,hk,hm⟩
  by_cases A:(k:Int)<ns.length
  ·obtain ⟨q0,hw⟩ := yY k
   by_cases J:(nd ns k).status=2
   ·rcases u with ⟨S,u⟩|⟨l,g,u,hg,G,W⟩
    ·apply oN (ns.length-(k+1))
     ·simp only[Z8,seval,D,u,A,q0,bt J,hw];rfl
     ·exact⟨k+1,XC,.inr ⟨[0],st.aJ 38,Wl,Yo,Wl,qs⟩,WF,rfl⟩
    ·have nl:bg l.length:=WF
     apply oN (ns.length-(k+1))
     ·simp only[Z8,seval,D,u,G,A,q0,bt J,hw,Hf _ _ _ _ nl];rfl
     ·exact⟨k+1,XC,.inr ⟨_,st.aJ 38,Wl,Yo,Wl,qg⟩,WF,rfl⟩
   ·rcases u with ⟨S,u⟩|⟨l,g,u,hg,G,W⟩
    ·apply oN (ns.length-(k+1))
     ·simp only[Z8,seval,D,u,A,q0,bf J,kw (nd ns k).block.root,hw];rfl
     ·exact⟨k+1,XC,.inr ⟨[_],st.aJ 38,Wl,Yo,Wl,qs⟩,WF,rfl⟩
    ·have nl:bg l.length:=WF
     apply oN (ns.length-(k+1))
     ·simp only[Z8,seval,D,u,G,A,q0,bf J,kw (nd ns k).block.root,hw,Hf _ _ _ _ nl];rfl
     ·exact⟨k+1,XC,.inr ⟨_,st.aJ 38,Wl,Yo,Wl,qg⟩,WF,rfl⟩
  ·have Gt:k=ns.length:=WF
   rcases u with ⟨S,u⟩|⟨l,g,u,hg,G,W⟩
   ·omega
   ·apply oT (.exit 0)
    ·simp only[Z8,seval,D,A];rfl
    ·exact⟨rfl,l,g,np,by simp only[E8,seval,G],WF⟩
 case start=>exact⟨0,Wl,.inl ⟨rfl,qb⟩,WF,WF⟩
 case rest =>
  rintro e st ⟨rfl,l,g,u,G,W⟩
  simp only[Z8,seval,u];exact⟨_,oH rfl xr (by simp only[E8,seval,G]<;>rfl) (fB _),l,rfl,W⟩
def x99 (ns:List Node) (hu:eK ns) (M:bg ns.length) (h0:0<ns.length) (l:List Int) (W:l.length=ns.length) :
 ∃x,aA prog 99 [ak ⟨ns⟩,.sl l.length (bD l)]=some x/\∃m:List Int,x=.uniq 23 1 m.length (bD m)/\m.length=ns.length:=by
 rw[cL func99 rfl a1t rfl];simp only[Z8,seval];refine bP (fun m st=>∃k:Nat,(st.env 2=.ptr 2 0 0/\st.heap 2 0=some (.cells (bN ⟨ns⟩))/\st.env 1=.sl l.length (bD l)/\st.env 6=aa k)/\((k=0/\st.env 5=af)\/∃(l:List Int) (g:Nat),st.env 5=.own 38 g/\g<st.aJ 38/\st.heap 38 g=some (.row 23 1 l.length (bD l))/\l.length=k)/\k<=ns.length/\m=ns.length-k)
  (fun e st=>e=.exit 0/\∃(l:List Int) (g:Nat),st.env 5=.own 38 g/\st.heap 38 g=some (.row 23 1 l.length (bD l))/\l.length=ns.length) ns.length ?step ?start ?rest
 case step =>
  rintro m st ⟨k,hI,C,hk,hm⟩
  by_cases A:(k:Int)<ns.length
  ·obtain ⟨q0,hw⟩ := yY k
   have kd:=aUe ns hu M k (EK hu q0 A ns.length A)
   have G:=BZ ns k
   have r:=Mn ns k ns.length
   obtain⟨D,hD⟩:∃D,sY ns k ns.length=D:=⟨_,rfl⟩
   rw[hD] at kd G r;simp only[Z8,seval,hI,A,q0,kd];refine aCM (fun mm st'=>∃(j:Nat) (a:Int),(st'.env 2=.ptr 2 0 0/\st'.heap 2 0=some (.cells (bN ⟨ns⟩))/\st'.env 1=.sl l.length (bD l)/\st'.env 6=aa k/\st'.env 5=st.env 5/\st'.aJ 38=st.aJ 38/\(∀g,st'.heap 38 g=st.heap 38 g)/\st'.env 7=ac a/\st'.env 8=.own 19 (st.aJ 19)/\st'.heap 19 (st.aJ 19)=some (.row 3 1 D.length (aH D))/\st'.env 9=aa j)/\j<=D.length/\mm=D.length-j)
    (fun e st'=>e=.exit 2/\∃a:Int,(st'.env 2=.ptr 2 0 0/\st'.heap 2 0=some (.cells (bN ⟨ns⟩))/\st'.env 1=.sl l.length (bD l)/\st'.env 6=aa k/\st'.env 5=st.env 5/\st'.aJ 38=st.aJ 38/\(∀g,st'.heap 38 g=st.heap 38 g)/\st'.env 7=ac a)) D.length ?Su ?Hg ?Bq
   case Su =>
    rintro mm st' ⟨j,a,p,hj,hmm⟩
    by_cases X:(j:Int)<D.length
    ·have p0:(0:Int)<=j:=WF
     have Y:i64.wrap ((j:Int)+1)=((j+1:Nat):Int):=cr
     obtain⟨hjt,u⟩:=zD p0 X
     have N:=G _ (getElem_mem hjt)
     rw[<- u] at N;have x0:=N.1
     have x1:it D j<(l.length:Int):=WF
     have gi:=qH p0 X
     apply oN (D.length-(j+1))
     ·simp only[Z8,seval,p,X,p0,x0,x1,gi,Y];rfl
     ·exact⟨j+1,u64.wrap (a+gx (0:Int) l (it D j)),Qcg,WF,rfl⟩
    ·apply oT (.exit 2)
     ·simp only[Z8,seval,p,X];rfl
     ·exact⟨rfl,a,Qcg⟩
   case Hg=>exact⟨0,0,by simp only[E8,seval,hI,implies_true,and_self]<;>rfl,WF,WF⟩
   case Bq =>
    rintro e st' ⟨rfl,a,p⟩
    obtain⟨j2,j2',J,j6,j5,jc,jh,j7⟩:=p
    rcases C with ⟨S,C⟩|⟨l',g,C,hg,R,Mi⟩
    ·rw[C] at j5;refine R3 (st':=?s3) ?h3 (ns.length-(k+1)) WF ?q3
     case h3 =>
      simp only[Z8,seval,j2,j2',J,j6,j5,jc,j7,hw];rfl
     case q3=>exact⟨k+1,by simp only[E8,seval,j2,j2',J],.inr ⟨[a],st.aJ 38,mf,by simp only[E8,seval,jc]<;>omega,mf,qs⟩,WF,rfl⟩
    ·rw[C] at j5;have nl:bg l'.length:=WF
     have jhh:=jh g
     rw[R] at jhh;refine R3 (st':=?s4) ?h4 (ns.length-(k+1)) WF ?q4
     case h4 =>
      simp only[Z8,seval,j2,j2',J,j6,j5,jc,jhh,j7,hw,Hf _ _ _ _ nl];rfl
     case q4=>exact⟨k+1,by simp only[E8,seval,j2,j2',J],.inr ⟨l'++[a],st.aJ 38,mf,by simp only[E8,seval,jc]<;>omega,mf,qg⟩,WF,rfl⟩
  ·have Gt:k=ns.length:=WF
   rcases C with ⟨S,C⟩|⟨l,g,C,hg,R,W⟩
   ·omega
   ·apply oT (.exit 0)
    ·simp only[Z8,seval,hI,A];rfl
    ·exact⟨rfl,l,g,by simp only[E8,seval,C],nw,WF⟩
 case start=>exact⟨0,Wl,.inl ⟨rfl,qb⟩,WF,WF⟩
 case rest =>
  rintro e st ⟨rfl,l,g,C,R,W⟩
  simp only[Z8,seval,C];exact⟨_,oH rfl wh xz (fB _),l,rfl,W⟩
def x54 {q:Int} (h:GI s v q):∃x,aA prog 54 [bc s]=some x/\∃m:List Int,x=.uniq 23 1 m.length (bD m)/\m.length=v.ns.length:=by
 have W:=h.sd.flat
 have M:=h.sd.nn
 obtain⟨r1,A,o,rfl,p⟩:=x96 h.sd
 have r:=kx A (bZ W) (cP o)
 obtain⟨r2,e2,a,c,rfl,_⟩:=x81 o p
 have N:=kx e2 (bZ (cP o)) (.cY _ (aU (.v _) (.v _)))
 have X:Flat s.cFg.fL:=h.sd.fl.1
 obtain⟨r3,C,a3,c3,rfl⟩:=x97 s.cFg X a
 have k97:=kx C (aU ((mT _).2 X) (.v _)) (.cY _ (aU (.v _) (.v _)))
 obtain⟨r4,G,m1,rfl,R⟩:=x98 v.ns M h.pos s.dI v.L v.Q h.sd.cJ h.sd.dM h.sd.nL h.sd.nQ o p
 have hfv:Flat (az s.dI):=(Ez _).2 ⟨h.sd.fl.2.1,h.sd.fl.2.2.1⟩
 have k98:∀(st:St),aO (aA prog) 98 [ak ⟨v.ns⟩,az s.dI,ov bD o] st (some 28)=_:=fun st=>gA (st:=st) (d:=28) (jC (gZ _) hfv (cP o)) G
 obtain⟨r5,D,m2,rfl,J⟩:=a1r v.ns M m1 R s.dY a3
 have Y:∀(st:St) (g:Nat),st.heap 28 g=some (.row 23 1 m1.length (bD m1))->aO (aA prog) 100 [ak ⟨v.ns⟩,.own 28 g,.agg (aW s.dY),ac a3] st (some 37)=some { dst:=some 37,val:=.own 37 (st.aJ 37),new:=some (37,[.row 23 1 m2.length (bD m2)])}:=by
  intro st g u;rw[dZ,map_cons,map_cons,map_cons,map_cons,map_nil,vB,oB,u,zA,Az,xA,aM,aM,aM,aM,dB];exact Wj D (Fs m2)
 obtain⟨r6,l,m3,rfl,S⟩:=x99 v.ns h.up M h.pos m2 J
 have k99:∀(st:St) (g:Nat),st.heap 37 g=some (.row 23 1 m2.length (bD m2))->aO (aA prog) 99 [ak ⟨v.ns⟩,.own 37 g] st (some 38)=some { dst:=some 38,val:=.own 38 (st.aJ 38),new:=some (38,[.row 23 1 m3.length (bD m3)])}:=by
  intro st g u;rw[dZ,map_cons,map_cons,map_nil,vB,oB,u,zA,aM,aM,dB];exact Wj l (Fs m3)
 rw[cL func54 rfl a1x rfl];simp only[Z8,seval,r,N,bW,k97,h.sd.tree,k98,Y,k99];exact⟨_,oH rfl Wl Wl (fB _),m3,rfl,S⟩
def Kd (s:aF) (v:SV) (i:Int):dH:=if 0<=i/\i<v.ns.length then (if pY s (nd v.ns i).block.slot<pY s s.now then (nd v.ns i).block.dA.pj else (nd v.ns i).block.dX) else dO
def a1y (hs:SD s v) (hp:s.cFg.iH≠0) (i:Int):aA prog 234 [bc s,aa i]=some (ag (Kd s v i)):=by
 have W:=hs.flat
 rw[cL func234 rfl aUg rfl];refine eM ?_
 by_cases g1:0<=i
 case neg =>
  have C:Kd s v i=dO:=if_neg (fun h=>g1 h.1)
  simp only[Z8,seval,DR hs,g1,Bool.false_and];exact⟨_,iI rfl Wl qk wv,wm⟩
 by_cases g2:i<(v.ns.length:Int)
 case neg =>
  have C:Kd s v i=dO:=if_neg (fun h=>g2 h.2)
  simp only[Z8,seval,DR hs,g1,g2,Bool.and_false];exact⟨_,iI rfl Wl qk wv,wm⟩
 by_cases g3:pY s (nd v.ns i).block.slot<pY s s.now
 ·have C:Kd s v i=(nd v.ns i).block.dA.pj:=by grind [Kd]
  simp only[Z8,seval,DR hs,g1,g2,hs.tree,Rm s hp W,g3];exact⟨_,iI rfl Wl qk wv,wm⟩
 ·have C:Kd s v i=(nd v.ns i).block.dX:=by grind [Kd]
  simp only[Z8,seval,DR hs,g1,g2,hs.tree,Rm s hp W,g3];exact⟨_,iI rfl Wl qk wv,wm⟩
def px (hs:SD s v) (hp:s.cFg.iH≠0) (i:Int):KC 234 [bc s,aa i] (ag (Kd s v i)):=fun _ _=>aX (aU hs.flat (.v _)) (a1y hs hp i) (.agg _ (cM _))
def aUh (hs:SD s v) (hp:s.cFg.iH≠0) (i:Int):∃r,aA prog 164 [bc s,aa i]=some r/\∃b:Bool,r=ae b:=by
 have W:=hs.flat
 rw[cL func164 rfl aUi rfl];by_cases g1:0<=i
 case neg =>
  simp only[Z8,seval,DR hs,g1,Bool.false_and];exact⟨_,bE rfl Wl XG,_,rfl⟩
 by_cases g2:i<(v.ns.length:Int)
 case neg =>
  simp only[Z8,seval,DR hs,g1,g2,Bool.and_false];exact⟨_,bE rfl Wl XG,_,rfl⟩
 by_cases g3:(nd v.ns i).status=2
 ·simp only[Z8,seval,DR hs,g1,g2,hs.tree,bt g3];exact⟨_,bE rfl Wl XG,_,rfl⟩
 by_cases g4:s.aL.dX.aG=0
 ·simp only[Z8,seval,DR hs,g1,g2,hs.tree,bf g3,px hs hp,bt g4];exact⟨_,bE rfl Wl XG,_,rfl⟩
 by_cases g5:(Kd s v i).aG=s.aL.dX.aG
 ·simp only[Z8,seval,DR hs,g1,g2,hs.tree,bf g3,px hs hp,bf g4,bt g5];exact⟨_,bE rfl Wl XG,_,rfl⟩
 by_cases g6:pY s s.now<=(Kd s v i).aG
 ·simp only[Z8,seval,DR hs,g1,g2,hs.tree,bf g3,px hs hp,bf g4,bf g5,Rm s hp W,g6];exact⟨_,bE rfl Wl XG,_,rfl⟩
 ·simp only[Z8,seval,DR hs,g1,g2,hs.tree,bf g3,px hs hp,bf g4,bf g5,Rm s hp W,g6];exact⟨_,bE rfl Wl XG,_,rfl⟩
end Go.Ab.Tryz
