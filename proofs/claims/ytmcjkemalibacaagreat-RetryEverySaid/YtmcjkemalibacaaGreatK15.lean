/-
  Part 15 of the proof: an evaluator of programs, its soundness, and what functions of this program compute.
-/
import Derived.Test.YtmcjkemalibacaaGreatK14
import Derived.Test.YtmcjkemalibacaaGreatK10
import Derived.Test.YtmcjkemalibacaaGreatK12
import Derived.Test.YtmcjkemalibacaaGreatK13
set_option linter.all false
set_option maxRecDepth 20000
set_option maxHeartbeats 40000000
namespace Go.Ab.Tryz
open Classical Go.Proofs Go.Ab
noncomputable def yD (ns:List Node) (now:Int) (a:(Option (List Request) × Int) × List Request) (r:Request):(Option (List Request) × Int) × List Request :=
 if now<r.due then (a.1,a.2++[r]) else if qI ns r.block then ((some (ol a.1.1++[⟨⟨a.1.2⟩,r.block,r.tries,0⟩]),IntKind.u64.wrap (a.1.2+1)),a.2) else a
noncomputable def pK (ns:List Node) (now:Int) (a:(Option (List Request) × Int) × List Request) (l:List Request):(Option (List Request) × Int) × List Request:=l.foldl (yD ns now) a
theorem E4 (ns:List Node) (now:Int) (a:(Option (List Request) × Int) × List Request) (l:List Request) (k:Nat) (h:k<l.length):pK ns now a (l.take (k+1))=yD ns now (pK ns now a (l.take k)) (gx bK l k):=by
 unfold pK;rw[List.take_succ_eq_append_getElem h,List.foldl_append];simp[gx,h]
theorem U5 (ns:List Node) (now:Int) (a:(Option (List Request) × Int) × List Request) (r:Request):(ol (yD ns now a r).1.1).length≤(ol a.1.1).length+1∧(yD ns now a r).2.length≤a.2.length+1:=by
 unfold yD;split
 ·refine⟨by dsimp only;omega, ?_⟩
  dsimp only;rw[List.length_append,List.length_cons,List.length_nil];omega
 ·split
  ·refine⟨?_,by dsimp only;omega⟩
   show (ol a.1.1++[_]).length≤_;rw[List.length_append,List.length_cons,List.length_nil];omega
  ·omega
theorem Xu (ns:List Node) (now:Int) (l:List Request):∀(a:(Option (List Request) × Int) × List Request),(ol (pK ns now a l).1.1).length≤(ol a.1.1).length+l.length∧(pK ns now a l).2.length≤a.2.length+l.length:=by
 induction l with
 | nil=>intro a;exact⟨Nat.le_refl _,Nat.le_refl _⟩
 | cons r l ih =>
   intro a;have h1:=ih (yD ns now a r)
   have h2:=U5 ns now a r
   rw[List.length_cons];show (ol (pK ns now (yD ns now a r) l).1.1).length≤_∧(pK ns now (yD ns now a r) l).2.length≤_
   omega
theorem pT {st:St} (o:Option (List Request)):cM st (ov aA o)=some (ov aA o):=Xj (dI o)
theorem kE {st:St} {a g:Nat} {L:List Request} (h:st.heap a g=some (.row 63 35 L.length (aA L))):cM st (.own a g)=some (ov aA (some L)):=by
 rw[bG,h];exact pI _ _
theorem ZS {t:State} {v:SV} {Q R:Option (List Request)} (h:TD t v Q R) (st:St) {X Y X' Y':AV} (hx:cM st X=some X') (hy:cM st Y=some Y') (tag:Int):fU st (.agg (aE (Db t X Y tag)))=some (.agg (aE (Db t X' Y' tag))):=by
 have kU:=h.fl
 unfold Db;simp only[bR,vU,gH,hx,hy,cH,dW,kU,cW]
theorem TD.rq {t:State} {v:SV} {Q R:Option (List Request)} (h:TD t v Q R) (q z:Option (List Request)) (tag:Int) (hq:((ol q).length:Int)<900000) (hz:((ol z).length:Int)<900000):TD (Db t (ov aA q) (ov aA z) tag) v q z:=⟨h.sd,rfl,rfl,hq,hz⟩
theorem NO {t:State} {v:SV} {Q R:Option (List Request)} (h:TD t v Q R) (q z:Option (List Request)) (tag:Int) (hq:((ol q).length:Int)<900000) (hz:((ol z).length:Int)<900000) (r:cK) (st:St) (d:Option Nat) {X Y:AV} (hx:cM st X=some (ov aA q)) (hy:cM st Y=some (ov aA z)) :
 aN (aD Tryz.prog) 85 [.agg (aE (Db t X Y tag)),.agg (aX r)] st d=some { dst:=d,val:=.v (.bool (decide (qI v.ns r)))}:=by
 rw[nD,List.map_cons,List.map_cons,List.map_nil,ZS h st hx hy,Qs,bT,bT,iD];exact HE (c85 (h.rq q z tag hq hz) r)
theorem aDe {call:Nat→List AV→Option AV} {inl:Nat→List AV→St→Option (AV × St)} {ops:Array Oper} {st:St} {T:Nat} {pos:String} {eM:Array Edge} (x:Array Operand) (y:Array Nat) :
 gJ Tryz.prog true call inl ops ⟨some 50,.call ⟨.value (.func 86),x,y⟩,T,pos,eM,none⟩ st=cC (inl 86 (x.toList.map st.ev) st) fun r=>some ((st.back r.2).put (some 50) r.1):=UZ 86 x y (Xs rfl)
noncomputable def wZ (t:State) (ns:List Node) (Q R:Option (List Request)):(Option (List Request) × Int) × List Request:=pK ns t.store.now ((Q,t.bC),[]) (ol R)
noncomputable def Ub (t:State) (ns:List Node) (Q R:Option (List Request)):State:=Db t (ov aA (wZ t ns Q R).1.1) (ov aA (nz (wZ t ns Q R).2)) (wZ t ns Q R).1.2
theorem By (t:State) (X Y:AV) (tag:Int):(Db t X Y tag).eK=X:=rfl
theorem Bz (t:State) (X Y:AV) (tag:Int):(Db t X Y tag).jM=Y:=rfl
theorem Ca (t:State) (X Y:AV) (tag:Int):(Db t X Y tag).bC=tag:=rfl
theorem Cb (t:State) (X Y:AV) (tag:Int):(Db t X Y tag).store=t.store:=rfl
theorem c74 {t:State} {v:SV} {Q R:Option (List Request)} (h:TD t v Q R) (hn:((ol Q).length:Int)+(ol R).length<800000):aD Tryz.prog 74 [.agg (aE t)]=some (.agg (aE (Ub t v.ns Q R))):=by
 have kU:=h.fl
 have nR:=h.nR
 have hlen:∀k:Nat,(ol (pK v.ns t.store.now ((Q,t.bC),[]) ((ol R).take k)).1.1).length≤(ol Q).length+(ol R).length∧(pK v.ns t.store.now ((Q,t.bC),[]) ((ol R).take k)).2.length≤(ol R).length:=fun k=>by
  have h1:=Xu v.ns t.store.now ((ol R).take k) ((Q,t.bC),[])
  have h2:=List.length_take_le' k (ol R)
  have e:(ol ((Q,t.bC),([]:List Request)).1.1).length=(ol Q).length:=rfl
  have e2:((Q,t.bC),([]:List Request)).2.length=0:=rfl
  rw[e,e2] at h1;omega
 rw[cG Tryz.func74 rfl aSc (by kernel_rfl) rfl]
 refine kN ?_
 simp only[ZG,seval,Bool.false_and,Prod.mk.injEq,Jn,h.ret];refine mH (fun m st=>∃(k:Nat) (X Y:AV) (p:(Option (List Request) × Int) × List Request),(st.env 1=.ptr 1 0 0∧st.heap 1 0=some (.cells (aE (Db t X Y p.1.2)))∧st.env 2=.ptr 2 0 0∧st.heap 2 0=some (.cells (aE iZ))∧st.env 3=ov aA R∧st.env 4=.v (.int .i64 k)∧0<st.aO 1∧0<st.aO 2)∧(X=ov aA p.1.1∨∃g L,p.1.1=some L∧X=.own 19 g∧g<st.aO 19∧st.heap 19 g=some (.row 63 35 L.length (aA L)))∧((Y=.v (.slice none 0 0)∧p.2=[])∨∃g,p.2≠[]∧Y=.own 30 g∧g<st.aO 30∧st.heap 30 g=some (.row 63 35 p.2.length (aA p.2)))∧p=pK v.ns t.store.now ((Q,t.bC),[]) ((ol R).take k)∧k≤(ol R).length∧m=(ol R).length-k)
  (fun e st=>e=.exit 0∧∃(X Y:AV) (p:(Option (List Request) × Int) × List Request),(st.env 1=.ptr 1 0 0∧st.heap 1 0=some (.cells (aE (Db t X Y p.1.2)))∧st.env 2=.ptr 2 0 0∧st.heap 2 0=some (.cells (aE iZ)))∧(X=ov aA p.1.1∨∃g L,p.1.1=some L∧X=.own 19 g∧st.heap 19 g=some (.row 63 35 L.length (aA L)))∧((Y=.v (.slice none 0 0)∧p.2=[])∨∃g,p.2≠[]∧Y=.own 30 g∧st.heap 30 g=some (.row 63 35 p.2.length (aA p.2)))∧p=wZ t v.ns Q R) (ol R).length ?step ?start ?rest
 case step =>
  rintro m st ⟨k,X,Y,p,hI,hX,hY,hp,hk,hm⟩
  by_cases aZ:(k:Int)<(ol R).length
  case neg =>
   have Dv:k=(ol R).length:=by omega
   rw[Dv,List.take_length] at hp;have hX':(X=ov aA p.1.1∨∃g L,p.1.1=some L∧X=.own 19 g∧st.heap 19 g=some (.row 63 35 L.length (aA L))):=hX.imp id fun ⟨g,L,a,b,_,c⟩=>⟨g,L,a,b,c⟩
   have hY':((Y=.v (.slice none 0 0)∧p.2=[])∨∃g,p.2≠[]∧Y=.own 30 g∧st.heap 30 g=some (.row 63 35 p.2.length (aA p.2))):=hY.imp id fun ⟨g,a,b,_,c⟩=>⟨g,a,b,c⟩
   apply LB (.exit 0)
   ·simp only[ZG,seval,Bool.false_and,Prod.mk.injEq,Jn,hI,aZ];rfl
   ·exact⟨rfl,X,Y,p,by simp only[E8,seval,hI],by simpa only[E8,seval] using hX',by simpa only[E8,seval] using hY',hp⟩
  have q0:(0:Int)≤k:=by omega
  have hw:IntKind.i64.wrap ((k:Int)+1)=((k+1:Nat):Int):=by rw[pM _ (by omega) (by omega)];omega
  have hs:=E4 v.ns t.store.now ((Q,t.bC),[]) (ol R) k (by omega)
  have hl:=hlen k
  have Qd:=hlen (k+1)
  rw[← hp] at hs hl;obtain⟨r,er⟩:∃r,gx bK (ol R) (k:Int)=r:=⟨_,rfl⟩
  rw[er] at hs;unfold yD at hs;have N8:((ol p.1.1).length:Int)<900000:=by omega
  have nZ9:(p.2.length:Int)<900000:=by omega
  have nZ:(p.2.length:Int)<1000000:=by omega
  by_cases g1:t.store.now<r.due
  ·rw[if_pos g1] at hs;rcases hY with ⟨rfl,hz⟩|⟨g,hz,rfl,hg,hh⟩
   ·apply En ((ol R).length-(k+1))
    ·simp only[ZG,seval,Bool.false_and,Prod.mk.injEq,Jn,hI,aZ,q0,er,By,Bz,Ca,Cb,g1,hw];rfl
    ·exact⟨k+1,X,_,(p.1,p.2++[r]),by and_intros<;>(simp only[E8,seval,hI]<;>rfl),by simpa only[E8,seval] using hX,.inr ⟨_,by simp,rfl,by simp only[E8,seval]<;>omega,by rw[hz];simp only[E8,seval]<;>rfl⟩,hs.symm,by omega,rfl⟩
   ·have vA:(g=st.aO 30)=False:=eq_false (by omega)
    apply En ((ol R).length-(k+1))
    ·simp only[ZG,seval,Bool.false_and,Prod.mk.injEq,Jn,hI,aZ,q0,er,By,Bz,Ca,Cb,hh,vA,g1,hw,oW _ _ _ _ nZ];rfl
    ·exact⟨k+1,X,_,(p.1,p.2++[r]),by and_intros<;>(simp only[E8,seval,hI]<;>rfl),by simpa only[E8,seval] using hX,.inr ⟨_,by simp,rfl,by simp only[E8,seval]<;>omega,by simp only[E8,seval]<;>rfl⟩,hs.symm,by omega,rfl⟩
  rw[if_neg g1] at hs;by_cases g2:qI v.ns r.block
  case neg =>
   rw[if_neg g2] at hs;rcases hX with rfl|⟨g,L,hL,rfl,hg,hh⟩
   ·rcases hY with ⟨rfl,hz⟩|⟨g9,hz,rfl,hg9,NP⟩
    ·have Lm:∀(st:St) (d:Option Nat),aN (aD Tryz.prog) 85 [.agg (aE (Db t (ov aA p.1.1) (.v (.slice none 0 0)) p.1.2)),.agg (aX r.block)] st d=some { dst:=d,val:=.v (.bool (decide (qI v.ns r.block)))}:=fun st d=>NO h p.1.1 none p.1.2 N8 (by show ((0:Nat):Int)<_;omega) r.block st d (pT _) (show cM st (.v (.slice none 0 0))=some (ov aA none) from pT none)
     apply En ((ol R).length-(k+1))
     ·simp only[ZG,seval,Bool.false_and,Prod.mk.injEq,Jn,hI,aZ,q0,er,By,Bz,Ca,Cb,g1,Lm,g2,hw];rfl
     ·exact⟨k+1,_,_,p,by and_intros<;>(simp only[E8,seval,hI]<;>rfl),.inl rfl,.inl ⟨rfl,hz⟩,hs.symm,by omega,rfl⟩
    ·have Lm:∀(st:St) (d:Option Nat),st.heap 30 g9=some (.row 63 35 p.2.length (aA p.2))→aN (aD Tryz.prog) 85 [.agg (aE (Db t (ov aA p.1.1) (.own 30 g9) p.1.2)),.agg (aX r.block)] st d=some { dst:=d,val:=.v (.bool (decide (qI v.ns r.block)))}:=fun st d h2=>NO h p.1.1 (some p.2) p.1.2 N8 nZ9 r.block st d (pT _) (show cM st (.own 30 g9)=some (ov aA (some p.2)) from kE h2)
     apply En ((ol R).length-(k+1))
     ·simp only[ZG,seval,Bool.false_and,Prod.mk.injEq,Jn,hI,aZ,q0,er,By,Bz,Ca,Cb,g1,Lm,NP,g2,hw];rfl
     ·exact⟨k+1,_,_,p,by and_intros<;>(simp only[E8,seval,hI]<;>rfl),.inl rfl,.inr ⟨g9,hz,rfl,by simp only[E8,seval]<;>omega,by simp only[E8,seval,NP]⟩,hs.symm,by omega,rfl⟩
   ·rcases hY with ⟨rfl,hz⟩|⟨g9,hz,rfl,hg9,NP⟩
    ·have Lm:∀(st:St) (d:Option Nat),st.heap 19 g=some (.row 63 35 L.length (aA L))→aN (aD Tryz.prog) 85 [.agg (aE (Db t (.own 19 g) (.v (.slice none 0 0)) p.1.2)),.agg (aX r.block)] st d=some { dst:=d,val:=.v (.bool (decide (qI v.ns r.block)))}:=fun st d h1=>NO h p.1.1 none p.1.2 N8 (by show ((0:Nat):Int)<_;omega) r.block st d (by rw[hL];exact kE h1) (show cM st (.v (.slice none 0 0))=some (ov aA none) from pT none)
     apply En ((ol R).length-(k+1))
     ·simp only[ZG,seval,Bool.false_and,Prod.mk.injEq,Jn,hI,aZ,q0,er,By,Bz,Ca,Cb,g1,Lm,hh,g2,hw];rfl
     ·exact⟨k+1,_,_,p,by and_intros<;>(simp only[E8,seval,hI]<;>rfl),.inr ⟨g,L,hL,rfl,by simp only[E8,seval]<;>omega,by simp only[E8,seval,hh]⟩,.inl ⟨rfl,hz⟩,hs.symm,by omega,rfl⟩
    ·have Lm:∀(st:St) (d:Option Nat),st.heap 19 g=some (.row 63 35 L.length (aA L))→st.heap 30 g9=some (.row 63 35 p.2.length (aA p.2))→aN (aD Tryz.prog) 85 [.agg (aE (Db t (.own 19 g) (.own 30 g9) p.1.2)),.agg (aX r.block)] st d=some { dst:=d,val:=.v (.bool (decide (qI v.ns r.block)))}:=fun st d h1 h2=>NO h p.1.1 (some p.2) p.1.2 N8 nZ9 r.block st d (by rw[hL];exact kE h1) (show cM st (.own 30 g9)=some (ov aA (some p.2)) from kE h2)
     apply En ((ol R).length-(k+1))
     ·simp only[ZG,seval,Bool.false_and,Prod.mk.injEq,Jn,hI,aZ,q0,er,By,Bz,Ca,Cb,g1,Lm,hh,NP,g2,hw];rfl
     ·exact⟨k+1,_,_,p,by and_intros<;>(simp only[E8,seval,hI]<;>rfl),.inr ⟨g,L,hL,rfl,by simp only[E8,seval]<;>omega,by simp only[E8,seval,hh]⟩,.inr ⟨g9,hz,rfl,by simp only[E8,seval]<;>omega,by simp only[E8,seval,NP]⟩,hs.symm,by omega,rfl⟩
  rw[if_pos g2] at hs;rcases hX with rfl|⟨g,L,hL,rfl,hg,hh⟩
  ·rcases hY with ⟨rfl,hz⟩|⟨g9,hz,rfl,hg9,NP⟩
   ·have Lm:∀(st:St) (d:Option Nat),aN (aD Tryz.prog) 85 [.agg (aE (Db t (ov aA p.1.1) (.v (.slice none 0 0)) p.1.2)),.agg (aX r.block)] st d=some { dst:=d,val:=.v (.bool (decide (qI v.ns r.block)))}:=fun st d=>NO h p.1.1 none p.1.2 N8 (by show ((0:Nat):Int)<_;omega) r.block st d (pT _) (show cM st (.v (.slice none 0 0))=some (ov aA none) from pT none)
    obtain⟨G,hG⟩:=aF4 t (.v (.slice none 0 0)) p.1.1 p.1.2 (by omega) r.block r.tries
    have kG:=fun st=>(hG st).1
    have f1:∀st:St,0<st.aO 1→(G st).heap 1 0=st.heap 1 0:=fun st h=>(hG st).2.1.1 1 0 h
    have f2:∀st:St,0<st.aO 2→(G st).heap 2 0=st.heap 2 0:=fun st h=>(hG st).2.1.1 2 0 h
    have c1:∀st:St,0<st.aO 1→(0<(G st).aO 1)=True:=fun st h=>eq_true (Nat.lt_of_lt_of_le h ((hG st).2.1.2 1))
    have c2:∀st:St,0<st.aO 2→(0<(G st).aO 2)=True:=fun st h=>eq_true (Nat.lt_of_lt_of_le h ((hG st).2.1.2 2))
    have fn:∀(st:St) (c:Nat),c=st.aO 19→(G st).heap 19 c=_:=fun st c e=>e ▸ (hG st).2.2.1
    have cn:∀(st:St) (c:Nat),c=st.aO 19→(c<(G st).aO 19)=True:=fun st c e=>e ▸ eq_true (hG st).2.2.2
    apply En ((ol R).length-(k+1))
    ·simp only[ZG,seval,Bool.false_and,Prod.mk.injEq,Jn,hI,aZ,q0,er,By,Bz,Ca,Cb,g1,Lm,g2,aDe,kG,f1,fI,dK,cD,hw];rfl
    ·exact⟨k+1,_,_,((some (ol p.1.1++[(⟨⟨p.1.2⟩,r.block,r.tries,0⟩:Request)]),IntKind.u64.wrap (p.1.2+1)),p.2),⟨by simp only[E8,seval,hI,fI],by simp only[E8,seval,hI,dK,cD]<;>rfl,by simp only[E8,seval,hI,fI],by simp only[E8,seval,hI,dK,cD,f2],by simp only[E8,seval,hI,fI],by simp only[E8,seval,hI,fI],by simp only[E8,seval,hI,cD,c1],by simp only[E8,seval,hI,cD,c2]⟩,.inr ⟨_,(ol p.1.1++[(⟨⟨p.1.2⟩,r.block,r.tries,0⟩:Request)]),rfl,rfl,by simp only[E8,seval,cD,cn],by simp only[E8,seval,dK,cD,fn]⟩,.inl ⟨rfl,hz⟩,hs.symm,by omega,rfl⟩
   ·have Lm:∀(st:St) (d:Option Nat),st.heap 30 g9=some (.row 63 35 p.2.length (aA p.2))→aN (aD Tryz.prog) 85 [.agg (aE (Db t (ov aA p.1.1) (.own 30 g9) p.1.2)),.agg (aX r.block)] st d=some { dst:=d,val:=.v (.bool (decide (qI v.ns r.block)))}:=fun st d h2=>NO h p.1.1 (some p.2) p.1.2 N8 nZ9 r.block st d (pT _) (show cM st (.own 30 g9)=some (ov aA (some p.2)) from kE h2)
    obtain⟨G,hG⟩:=aF4 t (.own 30 g9) p.1.1 p.1.2 (by omega) r.block r.tries
    have kG:=fun st=>(hG st).1
    have f1:∀st:St,0<st.aO 1→(G st).heap 1 0=st.heap 1 0:=fun st h=>(hG st).2.1.1 1 0 h
    have f2:∀st:St,0<st.aO 2→(G st).heap 2 0=st.heap 2 0:=fun st h=>(hG st).2.1.1 2 0 h
    have c1:∀st:St,0<st.aO 1→(0<(G st).aO 1)=True:=fun st h=>eq_true (Nat.lt_of_lt_of_le h ((hG st).2.1.2 1))
    have c2:∀st:St,0<st.aO 2→(0<(G st).aO 2)=True:=fun st h=>eq_true (Nat.lt_of_lt_of_le h ((hG st).2.1.2 2))
    have fn:∀(st:St) (c:Nat),c=st.aO 19→(G st).heap 19 c=_:=fun st c e=>e ▸ (hG st).2.2.1
    have cn:∀(st:St) (c:Nat),c=st.aO 19→(c<(G st).aO 19)=True:=fun st c e=>e ▸ eq_true (hG st).2.2.2
    have f3:∀st:St,g9<st.aO 30→(G st).heap 30 g9=st.heap 30 g9:=fun st h=>(hG st).2.1.1 30 g9 h
    have c3:∀st:St,g9<st.aO 30→(g9<(G st).aO 30)=True:=fun st h=>eq_true (Nat.lt_of_lt_of_le h ((hG st).2.1.2 30))
    apply En ((ol R).length-(k+1))
    ·simp only[ZG,seval,Bool.false_and,Prod.mk.injEq,Jn,hI,aZ,q0,er,By,Bz,Ca,Cb,g1,Lm,NP,g2,aDe,kG,f1,fI,dK,cD,hw];rfl
    ·exact⟨k+1,_,_,((some (ol p.1.1++[(⟨⟨p.1.2⟩,r.block,r.tries,0⟩:Request)]),IntKind.u64.wrap (p.1.2+1)),p.2),⟨by simp only[E8,seval,hI,fI],by simp only[E8,seval,hI,dK,cD]<;>rfl,by simp only[E8,seval,hI,fI],by simp only[E8,seval,hI,dK,cD,f2],by simp only[E8,seval,hI,fI],by simp only[E8,seval,hI,fI],by simp only[E8,seval,hI,cD,c1],by simp only[E8,seval,hI,cD,c2]⟩,.inr ⟨_,(ol p.1.1++[(⟨⟨p.1.2⟩,r.block,r.tries,0⟩:Request)]),rfl,rfl,by simp only[E8,seval,cD,cn],by simp only[E8,seval,dK,cD,fn]⟩,.inr ⟨g9,hz,rfl,by simp only[E8,seval,cD,hg9,c3],by simp only[E8,seval,dK,cD,hg9,NP,f3]⟩,hs.symm,by omega,rfl⟩
  ·rcases hY with ⟨rfl,hz⟩|⟨g9,hz,rfl,hg9,NP⟩
   ·have Lm:∀(st:St) (d:Option Nat),st.heap 19 g=some (.row 63 35 L.length (aA L))→aN (aD Tryz.prog) 85 [.agg (aE (Db t (.own 19 g) (.v (.slice none 0 0)) p.1.2)),.agg (aX r.block)] st d=some { dst:=d,val:=.v (.bool (decide (qI v.ns r.block)))}:=fun st d h1=>NO h p.1.1 none p.1.2 N8 (by show ((0:Nat):Int)<_;omega) r.block st d (by rw[hL];exact kE h1) (show cM st (.v (.slice none 0 0))=some (ov aA none) from pT none)
    have nL:(L.length:Int)<1000000:=by rw[hL] at N8;have:(L.length:Int)<900000:=N8;omega
    obtain⟨G,hG⟩:=U4 t (.v (.slice none 0 0)) g L p.1.2 nL r.block r.tries
    have kG:∀st:St,st.heap 19 g=some (.row 63 35 L.length (aA L))→g<st.aO 19→_:=fun st a b=>(hG st ⟨a,b⟩).1
    have f1:∀st:St,st.heap 19 g=some (.row 63 35 L.length (aA L))→g<st.aO 19→0<st.aO 1→(G st).heap 1 0=st.heap 1 0:=fun st a b h=>(hG st ⟨a,b⟩).2.1.1 1 0 h
    have f2:∀st:St,st.heap 19 g=some (.row 63 35 L.length (aA L))→g<st.aO 19→0<st.aO 2→(G st).heap 2 0=st.heap 2 0:=fun st a b h=>(hG st ⟨a,b⟩).2.1.1 2 0 h
    have c1:∀st:St,st.heap 19 g=some (.row 63 35 L.length (aA L))→g<st.aO 19→0<st.aO 1→(0<(G st).aO 1)=True:=fun st a b h=>eq_true (Nat.lt_of_lt_of_le h ((hG st ⟨a,b⟩).2.1.2 1))
    have c2:∀st:St,st.heap 19 g=some (.row 63 35 L.length (aA L))→g<st.aO 19→0<st.aO 2→(0<(G st).aO 2)=True:=fun st a b h=>eq_true (Nat.lt_of_lt_of_le h ((hG st ⟨a,b⟩).2.1.2 2))
    have fn:∀(st:St) (c:Nat),st.heap 19 g=some (.row 63 35 L.length (aA L))→g<st.aO 19→c=st.aO 19→(G st).heap 19 c=_:=fun st c a b e=>e ▸ (hG st ⟨a,b⟩).2.2.1
    have cn:∀(st:St) (c:Nat),st.heap 19 g=some (.row 63 35 L.length (aA L))→g<st.aO 19→c=st.aO 19→(c<(G st).aO 19)=True:=fun st c a b e=>e ▸ eq_true (hG st ⟨a,b⟩).2.2.2
    have eL:ol p.1.1=L:=by rw[hL];rfl
    rw[eL] at hs;apply En ((ol R).length-(k+1))
    ·simp only[ZG,seval,Bool.false_and,Prod.mk.injEq,Jn,hI,aZ,q0,er,By,Bz,Ca,Cb,g1,Lm,hh,hg,g2,aDe,kG,f1,fI,dK,cD,hw];rfl
    ·exact⟨k+1,_,_,((some (L++[(⟨⟨p.1.2⟩,r.block,r.tries,0⟩:Request)]),IntKind.u64.wrap (p.1.2+1)),p.2),⟨by simp only[E8,seval,hI,fI],by simp only[E8,seval,hI,dK,cD]<;>rfl,by simp only[E8,seval,hI,fI],by simp only[E8,seval,hI,hh,hg,dK,cD,f2],by simp only[E8,seval,hI,fI],by simp only[E8,seval,hI,fI],by simp only[E8,seval,hI,hh,hg,cD,c1],by simp only[E8,seval,hI,hh,hg,cD,c2]⟩,.inr ⟨_,(L++[(⟨⟨p.1.2⟩,r.block,r.tries,0⟩:Request)]),rfl,rfl,by simp only[E8,seval,cD,hh,hg,cn],by simp only[E8,seval,dK,cD,hh,hg,fn]⟩,.inl ⟨rfl,hz⟩,hs.symm,by omega,rfl⟩
   ·have Lm:∀(st:St) (d:Option Nat),st.heap 19 g=some (.row 63 35 L.length (aA L))→st.heap 30 g9=some (.row 63 35 p.2.length (aA p.2))→aN (aD Tryz.prog) 85 [.agg (aE (Db t (.own 19 g) (.own 30 g9) p.1.2)),.agg (aX r.block)] st d=some { dst:=d,val:=.v (.bool (decide (qI v.ns r.block)))}:=fun st d h1 h2=>NO h p.1.1 (some p.2) p.1.2 N8 nZ9 r.block st d (by rw[hL];exact kE h1) (show cM st (.own 30 g9)=some (ov aA (some p.2)) from kE h2)
    have nL:(L.length:Int)<1000000:=by rw[hL] at N8;have:(L.length:Int)<900000:=N8;omega
    obtain⟨G,hG⟩:=U4 t (.own 30 g9) g L p.1.2 nL r.block r.tries
    have kG:∀st:St,st.heap 19 g=some (.row 63 35 L.length (aA L))→g<st.aO 19→_:=fun st a b=>(hG st ⟨a,b⟩).1
    have f1:∀st:St,st.heap 19 g=some (.row 63 35 L.length (aA L))→g<st.aO 19→0<st.aO 1→(G st).heap 1 0=st.heap 1 0:=fun st a b h=>(hG st ⟨a,b⟩).2.1.1 1 0 h
    have f2:∀st:St,st.heap 19 g=some (.row 63 35 L.length (aA L))→g<st.aO 19→0<st.aO 2→(G st).heap 2 0=st.heap 2 0:=fun st a b h=>(hG st ⟨a,b⟩).2.1.1 2 0 h
    have c1:∀st:St,st.heap 19 g=some (.row 63 35 L.length (aA L))→g<st.aO 19→0<st.aO 1→(0<(G st).aO 1)=True:=fun st a b h=>eq_true (Nat.lt_of_lt_of_le h ((hG st ⟨a,b⟩).2.1.2 1))
    have c2:∀st:St,st.heap 19 g=some (.row 63 35 L.length (aA L))→g<st.aO 19→0<st.aO 2→(0<(G st).aO 2)=True:=fun st a b h=>eq_true (Nat.lt_of_lt_of_le h ((hG st ⟨a,b⟩).2.1.2 2))
    have fn:∀(st:St) (c:Nat),st.heap 19 g=some (.row 63 35 L.length (aA L))→g<st.aO 19→c=st.aO 19→(G st).heap 19 c=_:=fun st c a b e=>e ▸ (hG st ⟨a,b⟩).2.2.1
    have cn:∀(st:St) (c:Nat),st.heap 19 g=some (.row 63 35 L.length (aA L))→g<st.aO 19→c=st.aO 19→(c<(G st).aO 19)=True:=fun st c a b e=>e ▸ eq_true (hG st ⟨a,b⟩).2.2.2
    have f3:∀st:St,st.heap 19 g=some (.row 63 35 L.length (aA L))→g<st.aO 19→g9<st.aO 30→(G st).heap 30 g9=st.heap 30 g9:=fun st a b h=>(hG st ⟨a,b⟩).2.1.1 30 g9 h
    have c3:∀st:St,st.heap 19 g=some (.row 63 35 L.length (aA L))→g<st.aO 19→g9<st.aO 30→(g9<(G st).aO 30)=True:=fun st a b h=>eq_true (Nat.lt_of_lt_of_le h ((hG st ⟨a,b⟩).2.1.2 30))
    have eL:ol p.1.1=L:=by rw[hL];rfl
    rw[eL] at hs;apply En ((ol R).length-(k+1))
    ·simp only[ZG,seval,Bool.false_and,Prod.mk.injEq,Jn,hI,aZ,q0,er,By,Bz,Ca,Cb,g1,Lm,hh,NP,hg,g2,aDe,kG,f1,fI,dK,cD,hw];rfl
    ·exact⟨k+1,_,_,((some (L++[(⟨⟨p.1.2⟩,r.block,r.tries,0⟩:Request)]),IntKind.u64.wrap (p.1.2+1)),p.2),⟨by simp only[E8,seval,hI,fI],by simp only[E8,seval,hI,dK,cD]<;>rfl,by simp only[E8,seval,hI,fI],by simp only[E8,seval,hI,hh,hg,dK,cD,f2],by simp only[E8,seval,hI,fI],by simp only[E8,seval,hI,fI],by simp only[E8,seval,hI,hh,hg,cD,c1],by simp only[E8,seval,hI,hh,hg,cD,c2]⟩,.inr ⟨_,(L++[(⟨⟨p.1.2⟩,r.block,r.tries,0⟩:Request)]),rfl,rfl,by simp only[E8,seval,cD,hh,hg,cn],by simp only[E8,seval,dK,cD,hh,hg,fn]⟩,.inr ⟨g9,hz,rfl,by simp only[E8,seval,cD,hg9,hh,hg,c3],by simp only[E8,seval,dK,cD,hg9,NP,hh,hg,f3]⟩,hs.symm,by omega,rfl⟩
 case start=>exact⟨0,ov aA Q,.v (.slice none 0 0),((Q,t.bC),[]),⟨by simp only[E8,seval],by simp only[E8,seval,h.Bx]<;>rfl,by simp only[E8,seval],by simp only[E8,seval],by simp only[E8,seval],by simp only[E8,seval]<;>rfl,by simp only[E8,seval]<;>omega,by simp only[E8,seval]<;>omega⟩,.inl rfl,.inl ⟨rfl,rfl⟩,rfl,by omega,by omega⟩
 case rest =>
  rintro e st ⟨rfl,X,Y,p,hI,hX,hY,hp⟩
  have hv:Ub t v.ns Q R=Db t (ov aA p.1.1) (ov aA (nz p.2)) p.1.2:=by unfold Ub;rw[← hp]
  have hex:∀st:St,∀X' Y',cM st X=some X'→cM st Y=some Y'→fU st (.agg (aE (Db t X Y p.1.2)))=some (.agg (aE (Db t X' Y' p.1.2))):=fun st X' Y' hx hy=>ZS h st hx hy p.1.2
  rcases hX with rfl|⟨g,L,hL,rfl,hh⟩
  ·rcases hY with ⟨rfl,hz⟩|⟨g9,hz,rfl,NP⟩
   ·rw[hz,show nz ([]:List Request)=none from if_pos rfl] at hv
    simp only[ZG,seval,Bool.false_and,Prod.mk.injEq,Jn,hI];exact⟨_,eB rfl (by simp only[E8,seval,hI]<;>rfl) (by simp only[ZG,seval,hI]<;>rfl) (hex _ _ _ (pT _) (pT none)),by rw[hv]⟩
   ·rw[show nz p.2=some p.2 from if_neg hz] at hv;simp only[ZG,seval,Bool.false_and,Prod.mk.injEq,Jn,hI,NP];exact⟨_,eB rfl (by simp only[E8,seval,hI]<;>rfl) (by simp only[ZG,seval,hI]<;>rfl) (hex _ _ _ (pT _) (kE (by simp only[E8,seval,NP]<;>rfl))),by rw[hv]⟩
  ·rcases hY with ⟨rfl,hz⟩|⟨g9,hz,rfl,NP⟩
   ·rw[hz,show nz ([]:List Request)=none from if_pos rfl,hL] at hv
    simp only[ZG,seval,Bool.false_and,Prod.mk.injEq,Jn,hI,hh];exact⟨_,eB rfl (by simp only[E8,seval,hI]<;>rfl) (by simp only[ZG,seval,hI]<;>rfl) (hex _ _ _ (kE (by simp only[E8,seval,hh]<;>rfl)) (pT none)),by rw[hv]⟩
   ·rw[show nz p.2=some p.2 from if_neg hz,hL] at hv;simp only[ZG,seval,Bool.false_and,Prod.mk.injEq,Jn,hI,hh,NP];exact⟨_,eB rfl (by simp only[E8,seval,hI]<;>rfl) (by simp only[ZG,seval,hI]<;>rfl) (hex _ _ _ (kE (by simp only[E8,seval,hh]<;>rfl)) (kE (by simp only[E8,seval,NP]<;>rfl))),by rw[hv]⟩
theorem aHr (x:Int):IntKind.i64.wrap x≤9223372036854775807:=by
 rw[IntKind.wrap_i64];omega
def sB (a b:Request):Prop:=a.due<b.due∨(a.due=b.due∧a.tagged.tag<b.tagged.tag)
noncomputable def Cc:Nat→List Request→List Request
 | 0,l=>l
 | k+1,l=>if sB (gx bK l ((k+1:Nat):Int)) (gx bK l (k:Int)) then Cc k ((l.set (k+1) (gx bK l (k:Int))).set k (gx bK l ((k+1:Nat):Int))) else l
theorem NQ:∀(k:Nat) (l:List Request),(Cc k l).length=l.length
 | 0,l=>rfl
 | k+1,l=>by
   unfold Cc;split
   ·rw[NQ k,List.length_set,List.length_set]
   ·rfl
noncomputable def NR (t:State) (r:Request):Request:={ r with tries:=IntKind.i64.wrap (r.tries+1),due:=IntKind.u64.wrap (t.store.now+UX (IntKind.i64.wrap (r.tries+1)) t.store.cFg.mL.rU)}
noncomputable def E5 (t:State) (ns:List Node) (R:List Request) (r:Request):State :=
 if ¬qI ns r.block then t else if t.store.cFg.mL.oI≤(R.length:Int) then { t with overflow:=true } else { t with jM:=ov aA (some (Cc R.length (R++[NR t r])))}
theorem c72 {t:State} {v:SV} {Q R:Option (List Request)} (h:TD t v Q R) (r:Request):aD Tryz.prog 72 [.agg (aE t),.agg (bU r)]=some (.agg (aE (E5 t v.ns (ol R) r))):=by
 have hf:=h.flat
 have kU:=h.fl
 have nR:=h.nR
 have nR1:((ol R).length:Int)<1000000:=by omega
 have E2:=k85 h r.block
 have fr:Flat (.agg (bU r)):=.agg _ (jS r)
 rw[cL Tryz.func72 rfl aSd rfl];refine kN ?_
 by_cases g1:qI v.ns r.block
 case neg =>
  simp only[Z8,seval,E2,g1];exact⟨_,fL rfl (by simp only[E8,seval,hf]<;>rfl) (by simp only[Z8,seval,hf]<;>rfl) (by simp only[dW,and_self,hf]),by rw[E5,if_pos g1]⟩
 by_cases g2:t.store.cFg.mL.oI≤((ol R).length:Int)
 ·have hf2:Flat (.agg (aE { t with overflow:=true })):=(oF _).2 kU
  simp only[Z8,seval,E2,g1,h.ret,g2];exact⟨_,fL rfl (by simp only[E8,seval,kU]<;>rfl) (by simp only[Z8,seval,kU]<;>rfl) (by simp only[dW,and_self,kU]),by rw[E5,if_neg (fun hh=>hh g1),if_pos g2,← h.ret]⟩
 have hv:E5 t v.ns (ol R) r=_:=(if_neg (fun hh=>hh g1)).trans (if_neg g2)
 rw[hv];have k143':=aRW (IntKind.i64.wrap (r.tries+1)) t.store.cFg.mL.rU (aHr _)
 obtain⟨L0,hL0⟩:∃L0,ol R++[NR t r]=L0:=⟨_,rfl⟩
 have hlL:L0.length=(ol R).length+1:=by rw[← hL0,List.length_append,List.length_cons,List.length_nil]
 have hL0':ol R++[({ tagged:=r.tagged,block:=r.block,tries:=IntKind.i64.wrap (r.tries+1),due:=IntKind.u64.wrap (t.store.now+UX (IntKind.i64.wrap (r.tries+1)) t.store.cFg.mL.rU)}:Request)]=L0:=hL0
 rw[hL0];have w1:IntKind.i64.wrap ((L0.length:Int)-1)=((ol R).length:Int):=by rw[pM _ (by omega) (by omega)];omega
 simp only[Z8,seval,E2,g1,h.ret,g2,k143',qD,qF,rH _ nR1,oW _ _ _ _ nR1,hL0',w1];refine cB (fun m st=>∃(k:Nat) (l:List Request),(st.env 2=.ptr 2 0 0∧st.heap 2 0=some (.cells (aE t))∧st.env 4=.ptr 4 0 0∧st.heap 4 0=some (.cells (aE iZ))∧st.env 5=.own 46 0∧st.heap 46 0=some (.row 63 35 l.length (aA l))∧st.env 6=.v (.int .i64 k))∧Cc k l=Cc (ol R).length L0∧l.length=L0.length∧k≤(ol R).length∧m=k)
  (fun e st=>e=.exit 0∧∃(l:List Request),(st.env 2=.ptr 2 0 0∧st.heap 2 0=some (.cells (aE t))∧st.env 4=.ptr 4 0 0∧st.heap 4 0=some (.cells (aE iZ))∧st.env 5=.own 46 0∧st.heap 46 0=some (.row 63 35 l.length (aA l)))∧l=Cc (ol R).length L0) (ol R).length ?step ?start ?rest
 case step =>
  rintro m st ⟨k,l,hI,hb,hl,hk,hm⟩
  cases k with
  | zero =>
    have z0:¬((0:Int)<((0:Nat):Int)):=by omega
    have hI':=hI
    apply oT (.exit 0)
    ·simp only[Z8,seval,hI,Int.lt_irrefl,qD,qF];rfl
    ·exact⟨rfl,l,by simp only[E8,seval,hI],by rw[← hb];rfl⟩
  | succ j =>
    obtain⟨i,hi⟩:∃i:Int,i=((j+1:Nat):Int):=⟨_,rfl⟩
    obtain⟨i',Cn⟩:∃i':Int,i'=(j:Int):=⟨_,rfl⟩
    rw[← hi] at hI;have p0:(0:Int)<i:=by omega
    have p1:(0:Int)≤i:=by omega
    have p2:i<(l.length:Int):=by omega
    have q1:(0:Int)≤i':=by omega
    have q2:i'<(l.length:Int):=by omega
    have hw:IntKind.i64.wrap (i-1)=i':=by rw[pM _ (by omega) (by omega)];omega
    have ti:i.toNat=j+1:=by omega
    have ti':i'.toNat=j:=by omega
    obtain⟨a,ea⟩:∃a,gx bK l i=a:=⟨_,rfl⟩
    obtain⟨b,eb⟩:∃b,gx bK l i'=b:=⟨_,rfl⟩
    have d1:=zT (T:=23) (n:=l.length) (k:=1) (off:=34) p1 p2 MQ (by decide) (by decide)
    have d2:=zT (T:=23) (n:=l.length) (k:=1) (off:=34) q1 q2 MQ (by decide) (by decide)
    have d3:=vW (T:=23) (n:=l.length) (k:=1) p1 p2 MQ (by decide) (by decide)
    have d4:=vW (T:=23) (n:=l.length) (k:=1) q1 q2 MQ (by decide) (by decide)
    have d5:=vW (T:=63) (n:=l.length) (k:=35) p1 p2 aDf (by decide) (by decide)
    have d6:=vW (T:=63) (n:=l.length) (k:=35) q1 q2 aDf (by decide) (by decide)
    rw[ea] at d1 d3 d5;rw[eb] at d2 d4 d6;have aDg:∀P:Prop,(sB a b↔P)→Cc (j+1) l=if P then Cc j ((l.set (j+1) b).set j a) else l:=fun P hP=>by
     have e1:gx bK l ((j+1:Nat):Int)=a:=by rw[← hi];exact ea
     have e2:gx bK l (j:Int)=b:=by rw[← Cn];exact eb
     have e0:Cc (j+1) l=if sB (gx bK l ((j+1:Nat):Int)) (gx bK l (j:Int)) then Cc j ((l.set (j+1) (gx bK l (j:Int))).set j (gx bK l ((j+1:Nat):Int))) else l:=rfl
     rw[e0,e1,e2];by_cases hh:sB a b
     ·rw[if_pos hh,if_pos (hP.1 hh)]
     ·rw[if_neg hh,if_neg (fun x=>hh (hP.2 x))]
    have x3:i.toNat * 35+35≤l.length * 35:=by omega
    have x4:i'.toNat * 35+35≤(l.set i.toNat b).length * 35:=by rw[List.length_set];omega
    have x4':i'.toNat * 35+35≤l.length * 35:=by omega
    have u1:=Ln l i b (by omega)
    have u2:=Ln (l.set i.toNat b) i' a (by rw[List.length_set];omega)
    have swp:(l.set i.toNat b).set i'.toNat a=(l.set (j+1) b).set j a:=by rw[ti,ti']
    by_cases g3:a.due<b.due
    ·have nX:=aDg True (iff_of_true (.inl g3) trivial)
     rw[if_pos trivial] at nX
     apply oN (j)
     ·simp only[Z8,seval,hI,p0,p1,p2,q1,q2,hw,d1,d2,d3,d4,d5,d6,g3,x3,x4,x4',u1,u2,List.length_set,qD,qF];rfl
     ·exact⟨j,(l.set i.toNat b).set i'.toNat a,⟨by simp only[E8,seval,hI],by simp only[E8,seval,hI],by simp only[E8,seval,hI],by simp only[E8,seval,hI],by simp only[E8,seval,hI],by rw[List.length_set,List.length_set];simp only[E8,seval,List.length_set]<;>rfl,by simp only[E8,seval,Cn]⟩,by rw[swp,← nX];exact hb,by rw[List.length_set,List.length_set];exact hl,by omega,rfl⟩
    by_cases g4:a.due=b.due
    case neg =>
     have nX:=aDg False (iff_of_false (fun x=>x.elim g3 fun y=>g4 y.1) id)
     rw[if_neg id] at nX
     apply oT (.exit 0)
     ·simp only[Z8,seval,hI,p0,p1,p2,q1,q2,hw,d1,d2,d3,d4,d5,d6,g3,bf g4,qD,qF];rfl
     ·exact⟨rfl,l,by simp only[E8,seval,hI],by rw[← hb,nX]⟩
    by_cases g5:a.tagged.tag<b.tagged.tag
    ·have nX:=aDg True (iff_of_true (.inr ⟨g4,g5⟩) trivial)
     rw[if_pos trivial] at nX
     apply oN (j)
     ·simp only[Z8,seval,hI,p0,p1,p2,q1,q2,hw,d1,d2,d3,d4,d5,d6,g3,bt g4,g5,x3,x4,x4',u1,u2,List.length_set,qD,qF];rfl
     ·exact⟨j,(l.set i.toNat b).set i'.toNat a,⟨by simp only[E8,seval,hI],by simp only[E8,seval,hI],by simp only[E8,seval,hI],by simp only[E8,seval,hI],by simp only[E8,seval,hI],by rw[List.length_set,List.length_set];simp only[E8,seval,List.length_set]<;>rfl,by simp only[E8,seval,Cn]⟩,by rw[swp,← nX];exact hb,by rw[List.length_set,List.length_set];exact hl,by omega,rfl⟩
    ·have nX:=aDg False (iff_of_false (fun x=>x.elim g3 fun y=>g5 y.2) id)
     rw[if_neg id] at nX
     apply oT (.exit 0)
     ·simp only[Z8,seval,hI,p0,p1,p2,q1,q2,hw,d1,d2,d3,d4,d5,d6,g3,bt g4,g5,qD,qF];rfl
     ·exact⟨rfl,l,by simp only[E8,seval,hI],by rw[← hb,nX]⟩
 case start=>exact⟨(ol R).length,L0,by simp only[E8,seval]<;>rfl,rfl,rfl,by omega,rfl⟩
 case rest =>
  rintro e st ⟨rfl,l,hI,hl⟩
  have hex:=pI l.length l
  subst hl;simp only[Z8,seval,hI];exact⟨_,by apply eB;rfl;all_goals simp only[aI,Z8,seval,hI,hex,kU,bR,vU,gH,bG,cH,pI,dW]<;>rfl,rfl⟩
theorem aSe {t:State} {v:SV} {Q R:Option (List Request)} {q:Int} (hT:TD t v Q R) (h:GI t.store v q) (r:RG t.store v) (hB:0<(ol v.B).length∧(ol v.B).length≤64) (hq:∀r∈ol Q,Rg r.tagged.tag) (n k:Int) (hk:0≤k) :
 ∃x,aD Tryz.prog 146 [.agg (aE t),.v (.int .i64 n),.v (.int .i64 k)]=some x∧∃y:xH,x=.agg (lC y)∧pH y∧(y.kind=2→y.block.root=mkRoot n∨∃m∈v.ns,y.block.root=m.block.root):=by
 have z:=zOk
 have hm:=Au hk (min 4 IntKind.i64.bits)
 have hf:=hT.flat
 have YO:=h.sd.flat
 obtain⟨x1,e1,b,rfl,rb⟩:=x50 h r n (k.fdiv (2 ^ min 4 IntKind.i64.bits)) hm
 obtain⟨x2,e2,a,V,rfl,hV,nV,ra1,ra2⟩:=x37 h r hB (k.fdiv (2 ^ min 4 IntKind.i64.bits)) hm
 obtain⟨x3,e3,sl,rfl,c1,c2,s1,s2,s3,s4⟩:=aRK (ol v.B).length (k.fdiv (2 ^ min 4 IntKind.i64.bits)) (by omega) (by omega)
 obtain⟨x4,e4,tb,bl,rfl,hb,nb,rbl,rt⟩:=aRL h r hB (k.fdiv (2 ^ min 4 IntKind.i64.bits)) hm
 obtain⟨x5,e5,w,rfl,rw5⟩:=x25 hT h hq (k.fdiv (2 ^ min 4 IntKind.i64.bits)) hm
 have fA:Flat a.eW:=by rw[hV];exact bQ _
 have fT:Flat tb.jP:=by rw[hb];exact dU _
 have k50:=kx e1 (oE YO (.v _) (.v _)) (uY b)
 have k37:=kx e2 (bI YO (.v _)) ((zK a).2 fA)
 have k182:=kx e3 (bI (.v _) (.v _)) ((nF sl).2 ⟨(zL _).1 c1.fl,(zL _).1 c2.fl⟩)
 have k183:=kx e4 (bI YO (.v _)) ((kM tb).2 fT)
 have k25:=kx e5 (bI hf (.v _)) (.agg _ (jT w))
 have y1:pH { zQ with kind:=1 }:=⟨z.Gb,z.c1,z.c2,z.US,z.rb,z.ra,z.rs,z.rt,z.rv⟩
 have y2:pH { zQ with kind:=2,block:=b }:=⟨z.Gb,z.c1,z.c2,z.US,rb.toRB,z.ra,z.rs,z.rt,z.rv⟩
 have y3:pH { zQ with kind:=3,Gb:=a }:=⟨⟨some V,hV,nV⟩,z.c1,z.c2,z.US,z.rb,⟨ra1,ra2⟩,z.rs,z.rt,z.rv⟩
 have y4:pH { zQ with kind:=4,oU:=sl }:=⟨z.Gb,c1,c2,z.US,z.rb,z.ra,⟨s1,s2,s3,s4⟩,z.rt,z.rv⟩
 have y5:pH { zQ with kind:=5,table:=tb }:=⟨z.Gb,z.c1,z.c2,⟨some bl,hb,nb,rbl⟩,z.rb,z.ra,z.rs,rt,z.rv⟩
 have y6:pH { zQ with kind:=6,verdict:=w }:=⟨z.Gb,z.c1,z.c2,z.US,z.rb,z.ra,z.rs,z.rt,rw5⟩
 rw[cL Tryz.func146 rfl aM7 rfl];by_cases c0:((k).tmod 16)=0
 ·simp only[Z8,seval,bt c0];exact⟨_,fL rfl (by simp only[E8,seval]<;>rfl) (by simp only[Z8,seval]<;>rfl) y1.flat,_,rfl,y1,fun h=>absurd (show (1:Int)=2 from h) (by decide)⟩
 by_cases c1:((k).tmod 16)=1
 ·simp only[Z8,seval,bf c0,bt c1];exact⟨_,fL rfl (by simp only[E8,seval]<;>rfl) (by simp only[Z8,seval]<;>rfl) y1.flat,_,rfl,y1,fun h=>absurd (show (1:Int)=2 from h) (by decide)⟩
 by_cases c2:((k).tmod 16)=2
 ·simp only[Z8,seval,bf c0,bf c1,bt c2];exact⟨_,fL rfl (by simp only[E8,seval]<;>rfl) (by simp only[Z8,seval]<;>rfl) y1.flat,_,rfl,y1,fun h=>absurd (show (1:Int)=2 from h) (by decide)⟩
 by_cases c3:((k).tmod 16)=3
 ·simp only[Z8,seval,bf c0,bf c1,bf c2,bt c3,k50];exact⟨_,fL rfl (by simp only[E8,seval]<;>rfl) (by simp only[Z8,seval]<;>rfl) y2.flat,_,rfl,y2,fun _=>rb.rt⟩
 by_cases c4:((k).tmod 16)=4
 ·simp only[Z8,seval,bf c0,bf c1,bf c2,bf c3,bt c4,k50];exact⟨_,fL rfl (by simp only[E8,seval]<;>rfl) (by simp only[Z8,seval]<;>rfl) y2.flat,_,rfl,y2,fun _=>rb.rt⟩
 by_cases c5:((k).tmod 16)=5
 ·simp only[Z8,seval,bf c0,bf c1,bf c2,bf c3,bf c4,bt c5,k50];exact⟨_,fL rfl (by simp only[E8,seval]<;>rfl) (by simp only[Z8,seval]<;>rfl) y2.flat,_,rfl,y2,fun _=>rb.rt⟩
 by_cases c6:((k).tmod 16)=6
 ·simp only[Z8,seval,bf c0,bf c1,bf c2,bf c3,bf c4,bf c5,bt c6,k50];exact⟨_,fL rfl (by simp only[E8,seval]<;>rfl) (by simp only[Z8,seval]<;>rfl) y2.flat,_,rfl,y2,fun _=>rb.rt⟩
 by_cases c7:((k).tmod 16)=7
 ·simp only[Z8,seval,bf c0,bf c1,bf c2,bf c3,bf c4,bf c5,bf c6,bt c7,k50];exact⟨_,fL rfl (by simp only[E8,seval]<;>rfl) (by simp only[Z8,seval]<;>rfl) y2.flat,_,rfl,y2,fun _=>rb.rt⟩
 by_cases c8:((k).tmod 16)=8
 ·simp only[Z8,seval,bf c0,bf c1,bf c2,bf c3,bf c4,bf c5,bf c6,bf c7,bt c8,k37];exact⟨_,fL rfl (by simp only[E8,seval]<;>rfl) (by simp only[Z8,seval]<;>rfl) y3.flat,_,rfl,y3,fun h=>absurd (show (3:Int)=2 from h) (by decide)⟩
 by_cases c9:((k).tmod 16)=9
 ·simp only[Z8,seval,bf c0,bf c1,bf c2,bf c3,bf c4,bf c5,bf c6,bf c7,bf c8,bt c9,k37];exact⟨_,fL rfl (by simp only[E8,seval]<;>rfl) (by simp only[Z8,seval]<;>rfl) y3.flat,_,rfl,y3,fun h=>absurd (show (3:Int)=2 from h) (by decide)⟩
 by_cases c10:((k).tmod 16)=10
 ·simp only[Z8,seval,bf c0,bf c1,bf c2,bf c3,bf c4,bf c5,bf c6,bf c7,bf c8,bf c9,bt c10,k37];exact⟨_,fL rfl (by simp only[E8,seval]<;>rfl) (by simp only[Z8,seval]<;>rfl) y3.flat,_,rfl,y3,fun h=>absurd (show (3:Int)=2 from h) (by decide)⟩
 by_cases c11:((k).tmod 16)=11
 ·simp only[Z8,seval,bf c0,bf c1,bf c2,bf c3,bf c4,bf c5,bf c6,bf c7,bf c8,bf c9,bf c10,bt c11,h.sd.jP,k182];exact⟨_,fL rfl (by simp only[E8,seval]<;>rfl) (by simp only[Z8,seval]<;>rfl) y4.flat,_,rfl,y4,fun h=>absurd (show (4:Int)=2 from h) (by decide)⟩
 by_cases c12:((k).tmod 16)=12
 ·simp only[Z8,seval,bf c0,bf c1,bf c2,bf c3,bf c4,bf c5,bf c6,bf c7,bf c8,bf c9,bf c10,bf c11,bt c12,k183];exact⟨_,fL rfl (by simp only[E8,seval]<;>rfl) (by simp only[Z8,seval]<;>rfl) y5.flat,_,rfl,y5,fun h=>absurd (show (5:Int)=2 from h) (by decide)⟩
 simp only[Z8,seval,bf c0,bf c1,bf c2,bf c3,bf c4,bf c5,bf c6,bf c7,bf c8,bf c9,bf c10,bf c11,bf c12,k25];exact⟨_,fL rfl (by simp only[E8,seval]<;>rfl) (by simp only[Z8,seval]<;>rfl) y6.flat,_,rfl,y6,fun h=>absurd (show (6:Int)=2 from h) (by decide)⟩
theorem aSh (l:List Int) (hl:(l.length:Int)≤9223372036854775807):∃x,aD Tryz.prog 101 [.sl l.length (aJ l)]=some x∧∃(c:Config) (b:List Int),x=.agg (bV c)∧Sy c b:=by
 have k0:=Na l hl 0 (by omega) (by omega)
 obtain⟨a0,b0⟩:=eG (n:=8) (Mz l hl 0 (by omega) (by omega)).2.1 (by omega)
 obtain⟨x0,h0⟩:∃x,(GF l 0).tmod 8=x:=⟨_,rfl⟩
 rw[h0] at a0 b0;have k1:=Na l hl 1 (by omega) (by omega)
 obtain⟨a1,b1⟩:=eG (n:=4) (Mz l hl 1 (by omega) (by omega)).2.1 (by omega)
 obtain⟨x1,h1⟩:∃x,(GF l 1).tmod 4=x:=⟨_,rfl⟩
 rw[h1] at a1 b1;have k2:=Na l hl 2 (by omega) (by omega)
 obtain⟨a2,b2⟩:=eG (n:=4) (Mz l hl 2 (by omega) (by omega)).2.1 (by omega)
 obtain⟨x2,h2⟩:∃x,(GF l 2).tmod 4=x:=⟨_,rfl⟩
 rw[h2] at a2 b2;have k3:=Na l hl 3 (by omega) (by omega)
 obtain⟨a3,b3⟩:=eG (n:=4) (Mz l hl 3 (by omega) (by omega)).2.1 (by omega)
 obtain⟨x3,h3⟩:∃x,(GF l 3).tmod 4=x:=⟨_,rfl⟩
 rw[h3] at a3 b3;have k4:=Na l hl 4 (by omega) (by omega)
 obtain⟨a4,b4⟩:=eG (n:=4) (Mz l hl 4 (by omega) (by omega)).2.1 (by omega)
 obtain⟨x4,h4⟩:∃x,(GF l 4).tmod 4=x:=⟨_,rfl⟩
 rw[h4] at a4 b4;have k5:=Na l hl 5 (by omega) (by omega)
 obtain⟨a5,b5⟩:=eG (n:=5) (Mz l hl 5 (by omega) (by omega)).2.1 (by omega)
 obtain⟨x5,h5⟩:∃x,(GF l 5).tmod 5=x:=⟨_,rfl⟩
 rw[h5] at a5 b5;have k6:=Na l hl 6 (by omega) (by omega)
 obtain⟨a6,b6⟩:=eG (n:=4) (Mz l hl 6 (by omega) (by omega)).2.1 (by omega)
 obtain⟨x6,h6⟩:∃x,(GF l 6).tmod 4=x:=⟨_,rfl⟩
 rw[h6] at a6 b6;have k7:=Na l hl 7 (by omega) (by omega)
 obtain⟨a7,b7⟩:=eG (n:=3) (Mz l hl 7 (by omega) (by omega)).2.1 (by omega)
 obtain⟨x7,h7⟩:∃x,(GF l 7).tmod 3=x:=⟨_,rfl⟩
 rw[h7] at a7 b7;have k8:=Na l hl 8 (by omega) (by omega)
 obtain⟨a8,b8⟩:=eG (n:=2) (Mz l hl 8 (by omega) (by omega)).2.1 (by omega)
 obtain⟨x8,h8⟩:∃x,(GF l 8).tmod 2=x:=⟨_,rfl⟩
 rw[h8] at a8 b8;have k9:=Na l hl 9 (by omega) (by omega)
 obtain⟨a9,b9⟩:=eG (n:=5) (Mz l hl 9 (by omega) (by omega)).2.1 (by omega)
 obtain⟨x9,h9⟩:∃x,(GF l 9).tmod 5=x:=⟨_,rfl⟩
 rw[h9] at a9 b9;have w0:IntKind.i64.wrap (6+x0)=6+x0:=pM _ (by omega) (by omega)
 have w3:IntKind.i64.wrap (1+x3)=1+x3:=pM _ (by omega) (by omega)
 have w5:IntKind.i64.wrap (1+x5)=1+x5:=pM _ (by omega) (by omega)
 have w5':IntKind.u64.wrap (1+x5)=1+x5:=wrap_u64 _ (by omega) (by omega)
 have w6:IntKind.i64.wrap (1+x6)=1+x6:=pM _ (by omega) (by omega)
 have w6':IntKind.u64.wrap (1+x6)=1+x6:=wrap_u64 _ (by omega) (by omega)
 have w9:IntKind.i64.wrap (2+x9)=2+x9:=pM _ (by omega) (by omega)
 have g7:=pG (l:=[0,40,100]) a7 (by show x7<((3:Nat):Int);omega)
 obtain⟨bp,hbp⟩:∃y,it [0,40,100] x7=y:=⟨_,rfl⟩
 have hbp1:0≤bp∧bp≤100:=by
  rcases (by omega:x7=0∨x7=1∨x7=2) with e|e|e<;>(rw[e] at hbp;rw[← hbp];decide)
 have w7:IntKind.u64.wrap bp=bp:=wrap_u64 _ (by omega) (by omega)
 rw[cL Tryz.func101 rfl aM8 rfl];simp only[Z8,seval,qD,qF,k0,k1,k2,k3,k4,k5,k6,k7,k8,h0,h1,h2,h3,h4,h5,h6,h7,h8,w0,w3,w5,w5',w6,w6',a7,b7,g7,hbp,w7,rG,Nat.reduceLT,Ty];have n9:(2+x9).toNat≤6:=by omega
 refine cB (fun m st=>∃(j:Nat) (mL:lZ) (sp bq:Int) (tt:rT) (X:AV) (b:List Int),(st.env 0=.sl l.length (aJ l)∧st.env 2=.ptr 2 0 0∧st.heap 2 0=some (.cells (bV nY))∧st.env 3=.ptr 3 0 0∧st.heap 3 0=some (.cells (bV ⟨mL,sp,bq,tt,mkRoot 1,X⟩))∧st.env 4=.v (.int .i64 j))∧(mL=⟨6+x0,x1,x2,1+x3,x4,1+x5⟩∧sp=1+x6∧bq=bp)∧((X=.v (.slice none 0 0)∧b=[])∨∃g,X=.own 64 g∧g<st.aO 64∧st.heap 64 g=some (.row 23 1 b.length (bF b)))∧(∀y∈b,0≤y∧y≤1000)∧b.length=j∧j≤(2+x9).toNat∧m=(2+x9).toNat-j)
  (fun e st=>e=.exit 0∧∃(mL:lZ) (sp bq:Int) (tt:rT) (g:Nat) (b:List Int),(st.env 2=.ptr 2 0 0∧st.heap 2 0=some (.cells (bV nY))∧st.env 3=.ptr 3 0 0∧st.heap 3 0=some (.cells (bV ⟨mL,sp,bq,tt,mkRoot 1,.own 64 g⟩))∧st.heap 64 g=some (.row 23 1 b.length (bF b)))∧(mL=⟨6+x0,x1,x2,1+x3,x4,1+x5⟩∧sp=1+x6∧bq=bp)∧(∀y∈b,0≤y∧y≤1000)∧1≤b.length∧b.length≤6) (2+x9).toNat ?step ?start ?rest
 case step =>
  rintro m st ⟨j,mL,sp,bq,tt,X,b,hI,hC,hX,hb,hj,hjn,hm⟩
  by_cases aZ:(j:Int)<2+x9
  ·have q0:(0:Int)≤j:=by omega
   have hw:IntKind.i64.wrap ((j:Int)+1)=((j+1:Nat):Int):=by rw[pM _ (by omega) (by omega)];omega
   obtain⟨jj,hjj⟩:∃jj:Int,jj=10+(j:Int):=⟨_,rfl⟩
   have P6:IntKind.i64.wrap (10+(j:Int))=jj:=by rw[pM _ (by omega) (by omega),hjj]
   have kj:=Na l hl jj (by omega) (by omega)
   obtain⟨aj,bj⟩:=eG (n:=40) (Mz l hl jj (by omega) (by omega)).2.1 (by omega)
   obtain⟨y,hy⟩:∃y,(GF l jj).tmod 40=y:=⟨_,rfl⟩
   rw[hy] at aj bj;have wy:IntKind.u64.wrap y=y:=wrap_u64 _ (by omega) (by omega)
   have nL:(b.length:Int)<1000000:=by omega
   have Xe:∀z∈b++[y],0≤z∧z≤1000:=fun z hz=>(List.mem_append.1 hz).elim (hb z) fun e=>by rw[List.mem_singleton] at e;rw[e];omega
   have Qd:(b++[y]).length=j+1:=by rw[List.length_append,List.length_cons,List.length_nil];omega
   rcases hX with ⟨rfl,rfl⟩|⟨g,rfl,hg,hh⟩
   ·apply oN ((2+x9).toNat-(j+1))
    ·simp only[Z8,seval,hI,k9,h9,w9,aZ,P6,kj,hy,wy,hw];rfl
    ·exact⟨j+1,_,_,_,_,_,[]++[y],⟨by simp only[E8,seval,hI],by simp only[E8,seval,hI],by simp only[E8,seval,hI],by simp only[E8,seval,hI],by simp only[E8,seval,hI]<;>rfl,by simp only[E8,seval]⟩,hC,.inr ⟨_,rfl,by simp only[E8,seval]<;>omega,by simp only[E8,seval]<;>rfl⟩,Xe,Qd,by omega,rfl⟩
   ·have vA:(g=st.aO 64)=False:=eq_false (by omega)
    apply oN ((2+x9).toNat-(j+1))
    ·simp only[Z8,seval,hI,hh,vA,k9,h9,w9,aZ,P6,kj,hy,wy,hw,yC _ _ _ _ nL];rfl
    ·exact⟨j+1,_,_,_,_,_,b++[y],⟨by simp only[E8,seval,hI],by simp only[E8,seval,hI],by simp only[E8,seval,hI],by simp only[E8,seval,hI],by simp only[E8,seval,hI]<;>rfl,by simp only[E8,seval]⟩,hC,.inr ⟨_,rfl,by simp only[E8,seval]<;>omega,by simp only[E8,seval]<;>rfl⟩,Xe,Qd,by omega,rfl⟩
  ·rcases hX with ⟨rfl,rfl⟩|⟨g,rfl,hg,hh⟩
   ·simp at hj;omega
   ·apply oT (.exit 0)
    ·simp only[Z8,seval,hI,k9,h9,w9,aZ];rfl
    ·exact⟨rfl,_,_,_,_,g,b,⟨by simp only[E8,seval,hI],by simp only[E8,seval,hI],by simp only[E8,seval,hI],by simp only[E8,seval,hI]<;>rfl,by simp only[E8,seval,hh]⟩,hC,hb,by omega,by omega⟩
 case start=>exact⟨0,_,_,_,_,_,[],by and_intros<;>(simp only[E8,seval]<;>rfl),⟨rfl,rfl,rfl⟩,.inl ⟨rfl,rfl⟩,by simp,rfl,by omega,by omega⟩
 case rest =>
  rintro e st ⟨rfl,mL,sp,bq,tt,g,b,hI,⟨rfl,rfl,rfl⟩,hb,Qd,A0⟩
  simp only[Z8,seval,hI];exact⟨_,by apply eB;rfl;all_goals simp only[aI,Z8,seval,hI,bR,Xv,bG,vQ,dW]<;>rfl,⟨⟨6+x0,x1,x2,1+x3,x4,1+x5⟩,1+x6,bq,tt,mkRoot 1,ov bF (some b)⟩,b,rfl,⟨rfl,by omega,hb,by dsimp only;omega,by dsimp only;omega,by dsimp only;omega,by dsimp only;omega,by dsimp only;omega,by dsimp only;omega,by dsimp only;omega,by dsimp only;omega,rfl,by dsimp only;omega⟩⟩
structure SB (a r:List Node):Prop where
 SQ:r.map (·.block)=a.map (·.block)
 up:r.map (·.up)=a.map (·.up)
theorem SB.refl (a:List Node):SB a a:=⟨rfl,rfl⟩
theorem SB.trans {a b c:List Node} (h:SB a b) (g:SB b c):SB a c:=⟨g.SQ.trans h.SQ,g.up.trans h.up⟩
theorem SB.len {a r:List Node} (h:SB a r):r.length=a.length:=by have:=congrArg List.length h.SQ;simpa using this
theorem SB.block {a r:List Node} (h:SB a r) {j:Int} (j1:j.toNat<a.length):(nd r j).block=(nd a j).block:=by
 have h2:j.toNat<r.length:=by rw[h.len];exact j1
 have:=congrArg (fun l:List Block=>l[j.toNat]?) h.SQ
 simpa [nd,j1,h2] using this
theorem SB.upE {a r:List Node} (h:SB a r) {j:Int} (j1:j.toNat<a.length):(nd r j).up=(nd a j).up:=by
 have h2:j.toNat<r.length:=by rw[h.len];exact j1
 have:=congrArg (fun l:List Int=>l[j.toNat]?) h.up
 simpa [nd,j1,h2] using this
theorem EX (l:List Node) (x:cK):aP l x=match (l.map (·.block)).findIdx? (fun b=>decide (b.root=x)) with
 | some k=>(k:Int)
 | none=>-1:=by
 unfold aP;rw[List.findIdx?_map];rfl
theorem SB.aP {a r:List Node} (h:SB a r) (x:cK):aP r x=aP a x:=by rw[EX,EX,h.SQ]
theorem U6 (ns:List Node) (i to:Int):SB ns (setAt ns i to):=by
 have key:∀ {β:Type} (f:Node→β),(∀n s,f (Wp n s)=f n)→(setAt ns i to).map f=ns.map f:=by
  intro β f hf;unfold setAt;rw[List.map_set];apply List.ext_getElem (by simp)
  intro j h1 h2;rw[List.getElem_set];split
  ·rename_i e;have h3:j<ns.length:=by simpa using h2
   subst e;simp[hf,nd,h3]
  ·rfl
 exact⟨key _ fun _ _=>rfl,key _ fun _ _=>rfl⟩
theorem HF {to never:Int}:∀(l:List Int) (ns r:List Node),EA to never l ns=some r→SB ns r
 | [],ns,r,h=>by simp only[EA,Option.some.injEq] at h;rw[h];exact SB.refl _
 | i :: l,ns,r,h=>by
   simp only[EA] at h;split at h
   ·cases h
   ·exact (U6 ns i to).trans (HF l _ _ h)
def NS (ns:List Node) (x:AV):Prop:=(∃e:Int,e≠0∧x=.dZ [.agg [.v (.slice none 0 0)],.v (.int .i64 e)])∨∃r,SB ns r∧x=.dZ [.agg (cU ⟨r⟩),.v (.int .i64 0)]
theorem NS.err (ns:List Node) {e:Int} (h:e≠0):NS ns (BO e):=.inl ⟨e,h,rfl⟩
theorem aHs (ns:List Node) (i:Int):NS ns (N1 ns i):=by
 unfold N1;split
 ·unfold stA;split
  ·exact .err _ (by decide)
  ·rename_i r hr;exact .inr ⟨r,HF _ _ _ hr,rfl⟩
 ·exact .err _ (by decide)
theorem U7 (ns:List Node) (i:Int):NS ns (N2 ns i):=by
 unfold N2;split
 ·unfold stA;split
  ·exact .err _ (by decide)
  ·rename_i r hr;exact .inr ⟨r,HF _ _ _ hr,rfl⟩
 ·exact .err _ (by decide)
theorem NS.of {a b:List Node} (h:SB a b) {x:AV} (g:NS b x):NS a x:=g.imp id fun ⟨r,h1,h2⟩=>⟨r,h.trans h1,h2⟩
theorem aHt (ns:List Node) (i:Int) (v:gQ) (l:List Int):NS ns (TW ns i v l):=by
 unfold TW;split
 ·exact .err _ (by decide)
 split
 ·exact aHs ns i
 split
 ·unfold P8;split
  ·exact .err _ (by decide)
  split
  ·split
   ·exact .err _ (by decide)
   ·rename_i r hr;exact .of (HF _ _ _ hr) (U7 _ _)
  ·exact U7 _ _
 split
 ·exact .inr ⟨ns,SB.refl ns,rfl⟩
 ·exact .err _ (by decide)
theorem GI.tree {s:aM} {v:SV} {q:Int} (h:GI s v q) {r:List Node} (hs:SB v.ns r):GI { s with tree:=⟨.sl r.length (cF r)⟩} { v with ns:=r } q:=by
 have hl:=hs.len
 have hp:=h.pos
 refine⟨⟨h.sd.jP,h.sd.dT,h.sd.gX,h.sd.early,h.sd.bW,rfl,h.sd.tables,h.sd.eV,h.sd.tB,h.sd.nB,h.sd.nL,h.sd.nQ,h.sd.nE,h.sd.nO,h.sd.nT,by rw[hl];exact h.sd.nn⟩,fun i i0 i1=>?_, ?_,by show 0<r.length;omega,by rw[hl];exact h.nl,h.UF,h.rD,h.MV,h.nB,h.nO,h.MW,h.nE,h.SW,h.nT,h.UG,h.nQ,h.Q7, ?_⟩
 ·have i1:i<(r.length:Int):=i1
  show 0≤(nd r i).up∧(nd r i).up<i
  rw[hs.upE (by omega)];exact h.up i i0 (by omega)
 ·show (nd r 0).up=-1
  rw[hs.upE (by show (0:Nat)<_;omega)];exact h.LW
 ·show 0≤aP r s.bN.gY.root
  rw[hs.aP];exact h.gY
theorem RG.tree {s:aM} {v:SV} (h:RG s v) {r:List Node} (hs:SB v.ns r) (x:Fo):RG { s with tree:=x } { v with ns:=r } :=
 ⟨h.now,h.j,h.f,fun n hn=>by
  have:n.block∈r.map (·.block):=List.mem_map.2 ⟨n,hn,rfl⟩
  rw[hs.SQ] at this;obtain⟨a,ha,e⟩:=List.mem_map.1 this
  rw[← e];exact h.nd a ha,h.or,fun n hn=>by
  have:n.block∈r.map (·.block):=List.mem_map.2 ⟨n,hn,rfl⟩
  rw[hs.SQ] at this;obtain⟨a,ha,e⟩:=List.mem_map.1 this
  rw[← e];exact h.rt a ha,h.fe,by
  have e:=congrArg (List.map fun b:Block=>b.root) hs.SQ
  rw[List.map_map,List.map_map] at e;show (r.map ((fun b:Block=>b.root) ∘ fun n=>n.block)).Nodup
  rw[e];exact h.ds,h.tb,⟨h.ne.q,h.ne.e,h.ne.o,h.ne.t,h.ne.ea,h.ne.tb⟩⟩
structure TQ (Q:List Request) (tag:Int):Prop where
 pos:1≤tag
 all:∀r∈Q,1≤r.tagged.tag∧r.tagged.tag<tag∧r.due=0
 asc:Q.Pairwise fun a b=>a.tagged.tag<b.tagged.tag
structure TR (R:List Request) (tag:Int):Prop where
 all:∀r∈R,r.tagged.tag<tag
 asc:R.Pairwise fun a b=>¬sB b a
def VA (ns:List Node) (l:List Request):Prop:=∀r∈l,0≤aP ns r.block
theorem TQ.sub {P Q:List Request} {tag:Int} (h:TQ Q tag) (s:P.Sublist Q):TQ P tag:=⟨h.pos,fun r hr=>h.all r (s.subset hr),h.asc.sublist s⟩
theorem TR.sub {P Q:List Request} {tag:Int} (h:TR Q tag) (s:P.Sublist Q):TR P tag:=⟨fun r hr=>h.all r (s.subset hr),h.asc.sublist s⟩
theorem TR.mono {Q:List Request} {t t':Int} (h:TR Q t) (l:t≤t'):TR Q t':=⟨fun r hr=>by have:=h.all r hr;omega,h.asc⟩
theorem VA.sub {ns:List Node} {P Q:List Request} (h:VA ns Q) (s:P.Sublist Q):VA ns P:=fun r hr=>h r (s.subset hr)
theorem TQ.app {Q:List Request} {tag:Int} (h:TQ Q tag) (b:cK) (n:Int):TQ (Q++[⟨⟨tag⟩,b,n,0⟩]) (tag+1):=by
 refine⟨by have:=h.pos;omega,fun r hr=>?_,List.pairwise_append.2 ⟨h.asc,List.pairwise_singleton ..,fun a ha b hb=>?_⟩⟩
 ·rcases List.mem_append.1 hr with hr|hr
  ·obtain⟨h1,h2,h3⟩:=h.all r hr;exact⟨h1,by omega,h3⟩
  ·rw[List.mem_singleton] at hr;subst hr;exact⟨h.pos,by show tag<tag+1;omega,rfl⟩
 ·rw[List.mem_singleton] at hb;subst hb;exact (h.all a ha).2.1
theorem VA.app {ns:List Node} {Q:List Request} (h:VA ns Q) {x:Request} (hx:0≤aP ns x.block):VA ns (Q++[x]):=fun r hr=>by
 rcases List.mem_append.1 hr with hr|hr
 ·exact h r hr
 ·rw[List.mem_singleton] at hr;subst hr;exact hx
theorem aHu {x:Int} (h1:1≤x) (h2:x≤1000000):IntKind.u64.wrap (x+1)=x+1:=wrap_u64 _ (by omega) (by omega)
theorem Hl (ns:List Node) (now:Int):∀(l:List Request) (a:(Option (List Request) × Int) × List Request),TQ (ol a.1.1) a.1.2→VA ns (ol a.1.1)→a.1.2+l.length≤1000000 →
 TQ (ol (pK ns now a l).1.1) (pK ns now a l).1.2∧VA ns (ol (pK ns now a l).1.1)∧a.1.2≤(pK ns now a l).1.2∧(pK ns now a l).1.2≤a.1.2+l.length∧(pK ns now a l).2=a.2++l.filter fun r=>decide (now<r.due)
 | [],a,h,hi,hb=>⟨h,hi,by show a.1.2≤a.1.2;omega,by show a.1.2≤a.1.2+((0:Nat):Int);omega,(List.append_nil _).symm⟩
 | r :: l,a,h,hi,hb=>by
   have hp:=h.pos
   rw[List.length_cons] at hb;have hw:=aHu hp (by omega)
   have e0:pK ns now a (r :: l)=pK ns now (yD ns now a r) l:=rfl
   rw[e0,List.length_cons];by_cases g1:now<r.due
   ·have e1:yD ns now a r=(a.1,a.2++[r]):=if_pos g1
    rw[e1];obtain⟨h1,h2,h3,h4,h5⟩:=Hl ns now l (a.1,a.2++[r]) h hi (by dsimp only;omega)
    refine⟨h1,h2,h3,by dsimp only at h4;omega, ?_⟩
    rw[h5,List.filter_cons,if_pos (decide_eq_true g1)];simp
   ·rw[List.filter_cons,if_neg (by simpa using g1)]
    by_cases g2:qI ns r.block
    ·have e1:yD ns now a r=((some (ol a.1.1++[⟨⟨a.1.2⟩,r.block,r.tries,0⟩]),IntKind.u64.wrap (a.1.2+1)),a.2):=(if_neg g1).trans (if_pos g2)
     rw[e1,hw];obtain⟨h1,h2,h3,h4,h5⟩:=Hl ns now l ((some (ol a.1.1++[(⟨⟨a.1.2⟩,r.block,r.tries,0⟩:Request)]),a.1.2+1),a.2) (h.app _ _) (hi.app g2.1) (by dsimp only;omega)
     exact⟨h1,h2,by dsimp only at h3;omega,by dsimp only at h4;omega,h5⟩
    ·have e1:yD ns now a r=a:=(if_neg g1).trans (if_neg g2)
     rw[e1];obtain⟨h1,h2,h3,h4,h5⟩:=Hl ns now l a h hi (by omega)
     exact⟨h1,h2,h3,by omega,h5⟩
theorem HG (ns:List Node):∀(l:List cK) (a:Option (List Request) × Int),TQ (ol a.1) a.2→VA ns (ol a.1)→a.2+l.length≤1000000 →
 TQ (ol (Mq ns a l).1) (Mq ns a l).2∧VA ns (ol (Mq ns a l).1)∧a.2≤(Mq ns a l).2∧(Mq ns a l).2≤a.2+l.length
 | [],a,h,hi,hb=>⟨h,hi,by show a.2≤a.2;omega,by show a.2≤a.2+((0:Nat):Int);omega⟩
 | r :: l,a,h,hi,hb=>by
   have hp:=h.pos
   rw[List.length_cons] at hb;have hw:=aHu hp (by omega)
   have e0:Mq ns a (r :: l)=Mq ns (ZQ ns a r) l:=rfl
   rw[e0,List.length_cons];by_cases g2:qI ns r
   ·have e1:ZQ ns a r=(some (ol a.1++[⟨⟨a.2⟩,r,0,0⟩]),IntKind.u64.wrap (a.2+1)):=if_pos g2
    rw[e1,hw];obtain⟨h1,h2,h3,h4⟩:=HG ns l (some (ol a.1++[(⟨⟨a.2⟩,r,0,0⟩:Request)]),a.2+1) (h.app _ _) (hi.app g2.1) (by dsimp only;omega)
    exact⟨h1,h2,by dsimp only at h3;omega,by dsimp only at h4;omega⟩
   ·have e1:ZQ ns a r=a:=if_neg g2
    rw[e1];obtain⟨h1,h2,h3,h4⟩:=HG ns l a h hi (by omega)
    exact⟨h1,h2,h3,by omega⟩
theorem ZT (ns:List Node) (now:Int):∀(l:List Request) (a:(Option (List Request) × Int) × List Request),a.1.1≠some []→(pK ns now a l).1.1≠some []
 | [],a,h=>h
 | r :: l,a,h=>by
   have e0:pK ns now a (r :: l)=pK ns now (yD ns now a r) l:=rfl
   rw[e0];refine ZT ns now l _ ?_
   unfold yD;split
   ·exact h
   split
   ·simp
   ·exact h
theorem U8 (ns:List Node):∀(l:List cK) (a:Option (List Request) × Int),a.1≠some []→(Mq ns a l).1≠some []
 | [],a,h=>h
 | r :: l,a,h=>by
   have e0:Mq ns a (r :: l)=Mq ns (ZQ ns a r) l:=rfl
   rw[e0];refine U8 ns l _ ?_
   unfold ZQ;split
   ·simp
   ·exact h
noncomputable def HH:List Request→Request→List Request→List Request
 | [],x,B=>x :: B
 | y :: A,x,B=>if sB x y then HH A x (y :: B) else (y :: A).reverse++x :: B
theorem EY:∀(A:List Request) (x:Request) (B:List Request),Cc A.length (A.reverse++x :: B)=HH A x B
 | [],x,B=>rfl
 | y :: A,x,B=>by
   have e1:gx bK ((y :: A).reverse++x :: B) ((A.length+1:Nat):Int)=x:=by
    unfold gx;rw[Int.toNat_natCast,List.reverse_cons,List.append_assoc,List.getD_eq_getElem?_getD,List.getElem?_append_right (by simp),List.length_reverse]
    simp
   have e2:gx bK ((y :: A).reverse++x :: B) (A.length:Int)=y:=by
    unfold gx;rw[Int.toNat_natCast,List.reverse_cons,List.append_assoc,List.getD_eq_getElem?_getD,List.getElem?_append_right (by simp),List.length_reverse]
    simp
   have e3:(((y :: A).reverse++x :: B).set (A.length+1) y).set A.length x=A.reverse++x :: y :: B:=by
    rw[List.reverse_cons,List.append_assoc,List.set_append_right _ _ (by simp),List.length_reverse,List.set_append_right _ _ (by simp),List.length_reverse]
    simp
   rw[List.length_cons];have e0:∀l,Cc (A.length+1) l=if sB (gx bK l ((A.length+1:Nat):Int)) (gx bK l (A.length:Int)) then Cc A.length ((l.set (A.length+1) (gx bK l (A.length:Int))).set A.length (gx bK l ((A.length+1:Nat):Int))) else l:=fun l=>rfl
   rw[e0,e1,e2,e3];unfold HH;split
   ·exact EY A x (y :: B)
   ·rfl
theorem Xw {r:Request}:∀(A:List Request) (x:Request) (B:List Request),r∈HH A x B↔r∈A∨r=x∨r∈B
 | [],x,B=>by simp[HH]
 | y :: A,x,B=>by
   unfold HH;split
   ·rw[Xw A x (y :: B)];simp only[List.mem_cons];constructor
    ·rintro (h|h|h|h)
     ·exact .inl (.inr h)
     ·exact .inr (.inl h)
     ·exact .inl (.inl h)
     ·exact .inr (.inr h)
    ·rintro ((h|h)|h|h)
     ·exact .inr (.inr (.inl h))
     ·exact .inl h
     ·exact .inr (.inl h)
     ·exact .inr (.inr (.inr h))
   ·simp[or_assoc,or_left_comm]
theorem Ta {a b:Request} (h:sB a b):¬sB b a:=by unfold sB at *;omega
theorem U9 {a b c:Request} (h1:¬sB b a) (h2:¬sB c b):¬sB c a:=by unfold sB at *;omega
theorem NT:∀(A:List Request) (x:Request) (B:List Request),(A.reverse++B).Pairwise (fun a b=>¬sB b a)→(∀b∈B,sB x b)→(HH A x B).Pairwise fun a b=>¬sB b a
 | [],x,B,h,hb=>List.pairwise_cons.2 ⟨fun b m=>Ta (hb b m),h⟩
 | y :: A,x,B,h,hb=>by
   unfold HH;have h0:=h
   rw[List.reverse_cons,List.append_assoc] at h;split
   ·rename_i g;exact NT A x (y :: B) h fun b m=>(List.mem_cons.1 m).elim (fun e=>by rw[e];exact g) (hb b)
   ·rename_i g;obtain⟨p1,p2,p3⟩:=List.pairwise_append.1 h0
    refine List.pairwise_append.2 ⟨p1,List.pairwise_cons.2 ⟨fun b m=>Ta (hb b m),p2⟩,fun a ha b m=>?_⟩
    rcases List.mem_cons.1 m with rfl|m
    ·rw[List.reverse_cons,List.mem_append,List.mem_singleton] at ha;rcases ha with ha|rfl
     ·have:=(List.pairwise_append.1 h).2.2 a ha y (by simp)
      exact U9 this g
     ·exact g
    ·exact p3 a ha b m
theorem V0 (R:List Request) (x:Request):Cc R.length (R++[x])=HH R.reverse x []:=by
 have:=EY R.reverse x []
 rwa [List.reverse_reverse,List.length_reverse] at this
theorem TR.bub {R:List Request} {tag:Int} (h:TR R tag) {x:Request} (hx:x.tagged.tag<tag):TR (Cc R.length (R++[x])) tag:=by
 rw[V0];refine⟨fun r hr=>?_,NT _ _ _ (by rw[List.reverse_reverse,List.append_nil];exact h.asc) (by simp)⟩
 rcases (Xw _ _ _).1 hr with hr|rfl|hr
 ·exact h.all r (List.mem_reverse.1 hr)
 ·exact hx
 ·cases hr
theorem VA.bub {ns:List Node} {R:List Request} (h:VA ns R) {x:Request} (hx:0≤aP ns x.block):VA ns (Cc R.length (R++[x])):=by
 rw[V0];intro r hr;rcases (Xw _ _ _).1 hr with hr|rfl|hr
 ·exact h r (List.mem_reverse.1 hr)
 ·exact hx
 ·cases hr
structure TI0 (t:State) (v:SV) (Q R:Option (List Request)) (q m:Int):Prop where
 td:TD t v Q R
 gi:GI t.store v q
 rg:RG t.store v
 cfg:∃b,Sy t.store.cFg b
 tq:TQ (ol Q) t.bC
 tr:TR (ol R) t.bC
 nt:t.bC≤1+m
 lq:((ol Q).length:Int)≤m
 lr:((ol R).length:Int)≤t.store.cFg.mL.oI
 mB:m≤100000
 qn:Q≠some []
 rn:R≠some []
structure TI (t:State) (v:SV) (Q R:Option (List Request)) (q m:Int):Prop extends TI0 t v Q R q m where
 E6:VA v.ns (ol Q)
 N9:VA v.ns (ol R)
theorem TI0.mono {t:State} {v:SV} {Q R:Option (List Request)} {q m q' m':Int} (h:TI0 t v Q R q m) (h1:q≤q') (h2:q'≤900000) (h3:m≤m') (h4:m'≤100000):TI0 t v Q R q' m' :=
 ⟨h.td,h.gi.mono h1 h2,h.rg,h.cfg,h.tq,h.tr,by have:=h.nt;omega,by have:=h.lq;omega,h.lr,h4,h.qn,h.rn⟩
theorem TI.mono {t:State} {v:SV} {Q R:Option (List Request)} {q m q' m':Int} (h:TI t v Q R q m) (h1:q≤q') (h2:q'≤900000) (h3:m≤m') (h4:m'≤100000):TI t v Q R q' m':=⟨h.toTI0.mono h1 h2 h3 h4,h.E6,h.N9⟩
theorem TI0.store {t:State} {v:SV} {Q R:Option (List Request)} {q m:Int} (h:TI0 t v Q R q m) {s':aM} {v':SV} {q':Int} (g:GI s' v' q') (r:RG s' v') (c:s'.cFg=t.store.cFg):TI0 { t with store:=s' } v' Q R q' m :=
 ⟨⟨g.sd,h.td.Bx,h.td.ret,h.td.nQ,h.td.nR⟩,g,r,by show ∃b,Sy s'.cFg b;rw[c];exact h.cfg,h.tq,h.tr,h.nt,h.lq,by show _≤s'.cFg.mL.oI;rw[c];exact h.lr,h.mB,h.qn,h.rn⟩
theorem TI.emit {t:State} {v:SV} {Q R:Option (List Request)} {q m:Int} (h:TI t v Q R q m) (b:Bool) (c:Command):TI { t with Li:=b,last:=c } v Q R q m :=
 ⟨⟨⟨h.td.sd,h.td.Bx,h.td.ret,h.td.nQ,h.td.nR⟩,h.gi,h.rg,h.cfg,h.tq,h.tr,h.nt,h.lq,h.lr,h.mB,h.qn,h.rn⟩,h.E6,h.N9⟩
theorem TI.halt {t:State} {v:SV} {Q R:Option (List Request)} {q m:Int} (h:TI t v Q R q m) (b:Bool):TI { t with halted:=b } v Q R q m :=
 ⟨⟨⟨h.td.sd,h.td.Bx,h.td.ret,h.td.nQ,h.td.nR⟩,h.gi,h.rg,h.cfg,h.tq,h.tr,h.nt,h.lq,h.lr,h.mB,h.qn,h.rn⟩,h.E6,h.N9⟩
theorem TI.over {t:State} {v:SV} {Q R:Option (List Request)} {q m:Int} (h:TI t v Q R q m) (b:Bool):TI { t with overflow:=b } v Q R q m :=
 ⟨⟨⟨h.td.sd,h.td.Bx,h.td.ret,h.td.nQ,h.td.nR⟩,h.gi,h.rg,h.cfg,h.tq,h.tr,h.nt,h.lq,h.lr,h.mB,h.qn,h.rn⟩,h.E6,h.N9⟩
theorem TI0.E7 {t:State} {v:SV} {Q R:Option (List Request)} {q m:Int} (h:TI0 t v Q R q m):t.store.cFg.mL.oI≤256:=by obtain⟨b,hb⟩:=h.cfg;exact hb.oI.2
theorem TI0.jP {t:State} {v:SV} {Q R:Option (List Request)} {q m:Int} (h:TI0 t v Q R q m):0<(ol v.B).length∧(ol v.B).length≤64:=by
 obtain⟨b,hb⟩:=h.cfg
 have e:=h.gi.sd.jP.symm.trans hb.jP
 have n:=hb.nb
 cases hB:v.B with
 | none=>rw[hB] at e;cases e
 | some l =>
   rw[hB] at e;have e:AV.sl l.length (bF l)=AV.sl b.length (bF b):=e
   injection e with e1 e2
   show 0<l.length∧l.length≤64
   omega
theorem TI0.drop {t:State} {v:SV} {Q R:Option (List Request)} {q m:Int} (h:TI0 t v Q R q m):TI (UU t v Q R) v (nz (pJ v.ns (ol Q))) (nz (pJ v.ns (ol R))) q m:=by
 have s1:(pJ v.ns (ol Q)).Sublist (ol Q):=List.filter_sublist
 have s2:(pJ v.ns (ol R)).Sublist (ol R):=List.filter_sublist
 have l1:=s1.length_le
 have l2:=s2.length_le
 have a1:=h.lq
 have a2:=h.lr
 refine⟨⟨h.td.drp,h.gi,h.rg,h.cfg, ?_, ?_,h.nt, ?_, ?_,h.mB,Xg _,Xg _⟩, ?_, ?_⟩
 ·rw[nU];exact h.tq.sub s1
 ·rw[nU];exact h.tr.sub s2
 ·rw[nU];omega
 ·rw[nU];show _≤t.store.cFg.mL.oI;omega
 ·rw[nU];intro r hr;exact of_decide_eq_true (List.mem_filter.1 hr).2
 ·rw[nU];intro r hr;exact of_decide_eq_true (List.mem_filter.1 hr).2
theorem TI.due {t:State} {v:SV} {Q R:Option (List Request)} {q m:Int} (h:TI t v Q R q m) (hm:m+256≤100000):TI (Ub t v.ns Q R) v (wZ t v.ns Q R).1.1 (nz (wZ t v.ns Q R).2) q (m+256):=by
 have a1:=h.lq
 have a2:=h.lr
 have a3:=h.E7
 have a4:=h.nt
 obtain⟨h1,h2,h3,h4,h5⟩:=Hl v.ns t.store.now (ol R) ((Q,t.bC),[]) h.tq h.E6 (by dsimp only;omega)
 have hl:=Xu v.ns t.store.now (ol R) ((Q,t.bC),[])
 rw[List.nil_append] at h5;have e1:pK v.ns t.store.now ((Q,t.bC),[]) (ol R)=wZ t v.ns Q R:=rfl
 rw[e1] at h1 h2 h3 h4 h5 hl;dsimp only at h3 h4 hl
 have s2:(wZ t v.ns Q R).2.Sublist (ol R):=by rw[h5];exact List.filter_sublist
 have l2:=s2.length_le
 have Qd:=hl.1
 have:=h.mB
 refine⟨⟨⟨h.td.sd,rfl,rfl,by omega,by rw[nU];omega⟩,h.gi,h.rg,h.cfg,h1, ?_, ?_,by omega, ?_,hm,ZT v.ns t.store.now (ol R) ((Q,t.bC),[]) h.qn,Xg _⟩,h2, ?_⟩
 ·rw[nU];exact (h.tr.sub s2).mono h3
 ·show (wZ t v.ns Q R).1.2≤_;omega
 ·rw[nU];show _≤t.store.cFg.mL.oI;omega
 ·rw[nU];exact h.N9.sub s2
theorem TI.open {t:State} {v:SV} {Q R:Option (List Request)} {q m:Int} (h:TI t v Q R q m) (L:List cK) (hL:(L.length:Int)≤100) (hm:m+256≤100000):TI (UW t (Mq v.ns (Q,t.bC) L)) v (Mq v.ns (Q,t.bC) L).1 R q (m+256):=by
 have a1:=h.lq
 have a4:=h.nt
 obtain⟨h1,h2,h3,h4⟩:=HG v.ns L (Q,t.bC) h.tq h.E6 (by dsimp only;omega)
 have hl:=ZR v.ns (Q,t.bC) L
 dsimp only at h3 h4 hl
 refine⟨⟨h.td.UW _ (by omega),h.gi,h.rg,h.cfg,h1,h.tr.mono h3, ?_,by omega,h.lr,hm,U8 v.ns L (Q,t.bC) h.qn,h.rn⟩,h2,h.N9⟩
 show (Mq v.ns (Q,t.bC) L).2≤_;omega
theorem TI.V1 {t:State} {v:SV} {Q R:Option (List Request)} {q m:Int} (h:TI t v Q R q m) {r:Request} (hr:r.tagged.tag<t.bC):∃R',TI (E5 t v.ns (ol R) r) v Q R' q m:=by
 unfold E5;split
 ·exact⟨R,h⟩
 split
 ·exact⟨R,h.over true⟩
 ·rename_i g1 g2;have g1:=Classical.not_not.1 g1
  have hl:(Cc (ol R).length (ol R++[NR t r])).length=(ol R).length+1:=by rw[NQ,List.length_append,List.length_cons,List.length_nil]
  have a3:=h.E7
  refine⟨some (Cc (ol R).length (ol R++[NR t r])),⟨⟨h.td.sd,h.td.Bx,rfl,h.td.nQ, ?_⟩,h.gi,h.rg,h.cfg,h.tq,h.tr.bub (x:=NR t r) hr,h.nt,h.lq, ?_,h.mB,h.qn,fun e=>by injection e with e;rw[e] at hl;simp at hl⟩,h.E6,h.N9.bub (x:=NR t r) g1.1⟩
  ·show ((Cc (ol R).length (ol R++[NR t r])).length:Int)<_;omega
  ·show ((Cc (ol R).length (ol R++[NR t r])).length:Int)≤t.store.cFg.mL.oI;omega
theorem TI.less {t:State} {v:SV} {Q R:Option (List Request)} {q m:Int} (h:TI t v Q R q m) (k:Nat):TI { t with eK:=ov aA (nz ((ol Q).take k++(ol Q).drop (k+1)))} v (nz ((ol Q).take k++(ol Q).drop (k+1))) R q m:=by
 have s:((ol Q).take k++(ol Q).drop (k+1)).Sublist (ol Q):=by rw[← List.eraseIdx_eq_take_drop_succ];exact List.eraseIdx_sublist ..
 have l1:=s.length_le
 have a1:=h.lq
 have:=h.td.nQ
 exact⟨⟨⟨h.td.sd,rfl,h.td.ret,by rw[nU];omega,h.td.nR⟩,h.gi,h.rg,h.cfg,by rw[nU];exact h.tq.sub s,h.tr,h.nt,by rw[nU];omega,h.lr,h.mB,Xg _,h.rn⟩,by rw[nU];exact h.E6.sub s,h.N9⟩
theorem TI.tree {t:State} {v:SV} {Q R:Option (List Request)} {q m:Int} (h:TI t v Q R q m) {r:List Node} (hs:SB v.ns r) (b:cK):TI { t with store:={ t.store with tree:=⟨.sl r.length (cF r)⟩,iR:=b }} { v with ns:=r } Q R q m:=by
 have g:=(h.gi.tree hs).iR b
 have e:=(h.rg.tree hs ⟨.sl r.length (cF r)⟩).iR b
 exact⟨h.toTI0.store g e rfl,fun x hx=>by show 0≤aP r x.block;rw[hs.aP];exact h.E6 x hx,fun x hx=>by show 0≤aP r x.block;rw[hs.aP];exact h.N9 x hx⟩
def NU (Q:List Request) (tag:Int) (k:Nat):Prop:=(gx bK Q (k:Int)).tagged.tag=tag
theorem x27 {t:State} {v:SV} {Q R:Option (List Request)} (h:TD t v Q R) (w:gQ):∃x,aD Tryz.prog 27 [.agg (aE t),.agg (dG w)]=some x ∧
 (((∀j:Nat,j<(ol Q).length→¬NU (ol Q) w.tagged.tag j)∧x=.dZ [.agg (bU bK),.agg (aE iZ),.v (.int .i64 23)]) ∨
  ∃k:Nat,k<(ol Q).length∧NU (ol Q) w.tagged.tag k∧(∀j:Nat,j<k→¬NU (ol Q) w.tagged.tag j)∧x=.dZ [.agg (bU (gx bK (ol Q) (k:Int))),.agg (aE { t with eK:=ov aA (nz ((ol Q).take k++(ol Q).drop (k+1)))}),.v (.int .i64 0)]):=by
 have kU:=h.fl
 have nQ:=h.nQ
 have nQ1:((ol Q).length:Int)<1000000:=by omega
 have BE:Flat (.agg (aE iZ)):=by simp only[dW,iZ,gL,nY,Lg,Ep,Qn,and_self]
 rw[cG Tryz.func27 rfl aSj (by kernel_rfl) rfl]
 simp only[ZG,seval,Bool.false_and,Prod.mk.injEq,HI];refine mH (fun m st=>∃k:Nat,(st.env 2=.ptr 2 0 0∧st.heap 2 0=some (.cells (aE t))∧st.env 3=.ptr 3 0 0∧st.heap 3 0=some (.cells (dG w))∧st.env 4=.ptr 4 0 0∧st.heap 4 0=some (.cells (bU bK))∧st.env 5=.ptr 5 0 0∧st.heap 5 0=some (.cells (aE iZ))∧st.env 7=.v (.int .i64 k))∧(∀j:Nat,j<k→¬NU (ol Q) w.tagged.tag j)∧k≤(ol Q).length∧m=(ol Q).length-k)
  (fun e st=>(e=.ret∧∃(k:Nat) (X:AV),(st.env 4=.ptr 4 0 0∧st.heap 4 0=some (.cells (bU (gx bK (ol Q) (k:Int))))∧st.env 5=.ptr 5 0 0∧st.heap 5 0=some (.cells (aE { t with eK:=X }))∧st.env 6=.v (.int .i64 0))∧((X=.v (.slice none 0 0)∧(ol Q).take k++(ol Q).drop (k+1)=[])∨∃g,X=.own 42 g∧(ol Q).take k++(ol Q).drop (k+1)≠[]∧st.heap 42 g=some (.row 63 35 ((ol Q).take k++(ol Q).drop (k+1)).length (aA ((ol Q).take k++(ol Q).drop (k+1)))))∧k<(ol Q).length∧NU (ol Q) w.tagged.tag k∧(∀j:Nat,j<k→¬NU (ol Q) w.tagged.tag j)) ∨
   (e=.exit 0∧(st.env 4=.ptr 4 0 0∧st.heap 4 0=some (.cells (bU bK))∧st.env 5=.ptr 5 0 0∧st.heap 5 0=some (.cells (aE iZ)))∧∀j:Nat,j<(ol Q).length→¬NU (ol Q) w.tagged.tag j)) (ol Q).length ?step ?start ?rest
 case step =>
  rintro m st ⟨k,hI,hj,hk,hm⟩
  by_cases aZ:(k:Int)<(ol Q).length
  case neg =>
   apply LB (.exit 0)
   ·simp only[ZG,seval,Bool.false_and,Prod.mk.injEq,HI,hI,h.Bx,aZ];rfl
   ·exact .inr ⟨rfl,by simp only[E8,seval,hI],fun j N3=>hj j (by omega)⟩
  have q0:(0:Int)≤k:=by omega
  have q2:(k:Int)≤((ol Q).length:Int):=by omega
  have q3:(0:Int)≤((k+1:Nat):Int):=by omega
  have q4:((k+1:Nat):Int)≤((ol Q).length:Int):=by omega
  have hw:IntKind.i64.wrap ((k:Int)+1)=((k+1:Nat):Int):=by rw[pM _ (by omega) (by omega)];omega
  have n1:((((ol Q).take k).length:Nat):Int)<1000000:=by rw[List.length_take];omega
  have n2:((((ol Q).drop (k+1)).length:Nat):Int)<1000000:=by rw[List.length_drop];omega
  have e1:ol (Q.map (·.take k))=(ol Q).take k:=by cases Q<;>simp[ol]
  have e2:ol (Q.map (·.drop (k+1)))=(ol Q).drop (k+1):=by cases Q<;>simp[ol]
  by_cases hh:NU (ol Q) w.tagged.tag k
  ·have hh':(gx bK (ol Q) (k:Int)).tagged.tag=w.tagged.tag:=hh
   obtain⟨LL,BH⟩:∃LL,(ol Q).take k++(ol Q).drop (k+1)=LL:=⟨_,rfl⟩
   by_cases hz:LL=[]
   ·have hT:((ol Q).take k).length=0:=by have:=congrArg List.length BH;rw[hz,List.length_append] at this;simp only[List.length_nil] at this;omega
    have hD:((ol Q).drop (k+1)).length=0:=by have:=congrArg List.length BH;rw[hz,List.length_append] at this;simp only[List.length_nil] at this;omega
    apply LB (.ret)
    ·simp only[ZG,seval,Bool.false_and,Prod.mk.injEq,HI,hI,h.Bx,aZ,q0,q2,q3,q4,hw,bt hh',Int.toNat_natCast,iJ,iK,yE,Option.isSome_some,Option.map_some,Option.some.injEq,hT,hD,e1,e2];rfl
    ·exact .inl ⟨rfl,k,.v (.slice none 0 0),by simp only[E8,seval,hI]<;>rfl,.inl ⟨rfl,BH.trans hz⟩,by omega,hh,hj⟩
   have BT:(LL.length=0)=False:=eq_false fun h=>hz (List.length_eq_zero_iff.1 h)
   have n3:((LL.length:Nat):Int)<1000000:=by rw[← BH,List.length_append,List.length_take,List.length_drop];omega
   by_cases vI:k=0
   ·have hT:((ol Q).take k).length=0:=by rw[vI];rfl
    have hD:(ol Q).drop (k+1)=LL:=by rw[← BH,vI];rfl
    apply LB (.ret)
    ·simp only[ZG,seval,Bool.false_and,Prod.mk.injEq,HI,hI,h.Bx,aZ,q0,q2,q3,q4,hw,bt hh',Int.toNat_natCast,iJ,iK,yE,Option.isSome_some,Option.map_some,Option.some.injEq,hT,hD,BT,rH _ n3,e1,e2];rfl
    ·exact .inl ⟨rfl,k,_,by simp only[E8,seval,hI]<;>rfl,.inr ⟨_,rfl,by rw[BH];exact hz,by rw[BH];simp only[E8,seval]<;>rfl⟩,by omega,hh,hj⟩
   ·have hT:(((ol Q).take k).length=0)=False:=eq_false (by rw[List.length_take];omega)
    apply LB (.ret)
    ·simp only[ZG,seval,Bool.false_and,Prod.mk.injEq,HI,hI,h.Bx,aZ,q0,q2,q3,q4,hw,bt hh',Int.toNat_natCast,iJ,iK,yE,Option.isSome_some,Option.map_some,Option.some.injEq,hT,rH _ n1,Tb _ _ _ _ n1 n2,e1,e2];rfl
    ·exact .inl ⟨rfl,k,_,by simp only[E8,seval,hI]<;>rfl,.inr ⟨_,rfl,by rw[BH];exact hz,by simp only[E8,seval]<;>rfl⟩,by omega,hh,hj⟩
  ·have hh':¬(gx bK (ol Q) (k:Int)).tagged.tag=w.tagged.tag:=hh
   apply En ((ol Q).length-(k+1))
   ·simp only[ZG,seval,Bool.false_and,Prod.mk.injEq,HI,hI,h.Bx,aZ,q0,hw,bf hh'];rfl
   ·exact⟨k+1,by simp only[E8,seval,hI],fun j N3=>(Nat.lt_succ_iff_lt_or_eq.1 N3).elim (hj j) fun e=>by subst e;exact hh,by omega,rfl⟩
 case start=>exact⟨0,by simp only[E8,seval]<;>rfl,fun j hj=>by omega,by omega,by omega⟩
 case rest =>
  rintro e st (⟨rfl,k,X,hI,hX,hk,hh,hj⟩|⟨rfl,hI,hj⟩)
  ·rcases hX with ⟨rfl,hz⟩|⟨g,rfl,hz,hg⟩
   ·have hfz:Flat (.agg (aE { t with eK:=.v (.slice none 0 0)})):=(oF _).2 ⟨kU.1,kU.2.1,kU.2.2.1,kU.2.2.2.1,kU.2.2.2.2.1,kU.2.2.2.2.2.1,kU.2.2.2.2.2.2.1,.v _,kU.2.2.2.2.2.2.2.2⟩
    simp only[ZG,seval,Bool.false_and,Prod.mk.injEq,HI,hI];exact⟨_,gU rfl (by simp only[bY,Z8,seval,hI]<;>rfl) (by simp only[bY,Z8,seval,hI]<;>rfl) (by simp only[bY,E8,seval,hI]<;>rfl) (dY (.agg _ (jS _))) (dY hfz) (by simp only[Z8,seval]<;>rfl),.inr ⟨k,hk,hh,hj,by rw[hz,show nz ([]:List Request)=none from if_pos rfl];rfl⟩⟩
   ·simp only[ZG,seval,Bool.false_and,Prod.mk.injEq,HI,hI,hg];exact⟨_,gU rfl (by simp only[bY,Z8,seval,hI]<;>rfl) (by simp only[bY,Z8,seval,hI]<;>rfl) (by simp only[bY,E8,seval,hI]<;>rfl) (dY (.agg _ (jS _))) (by simp only[Z8,seval,hI,hg,bR,vU,gH,bG,pI,cH,dW,kU]<;>rfl) (by simp only[Z8,seval]<;>rfl),.inr ⟨k,hk,hh,hj,by rw[show nz ((ol Q).take k++(ol Q).drop (k+1))=some _ from if_neg hz];rfl⟩⟩
  ·simp only[ZG,seval,Bool.false_and,Prod.mk.injEq,HI,hI];exact⟨_,by apply gU;rfl;all_goals simp only[aI,bY,Z8,seval,hI,BE]<;>rfl,.inl ⟨hj,rfl⟩⟩
theorem aSl (ns:List Node) (hu:iB ns) (hr:(nd ns 0).up=-1) (hn:(ns.length:Int)<1000000) (i:Int) (w:gQ) (l:List Int) (hl:(l.length:Int)<1000000) (st:St) (a g:Nat) (d:Option Nat) (hh:st.heap a g=some (.row 3 1 l.length (aJ l))) :
 fC (aD Tryz.prog) 222 [.agg (cU ⟨ns⟩),.v (.int .i64 i),.agg (dG w),.own a g] st d=some { dst:=d,val:=TW ns i w l,dM:=some (a,g,none)}:=by
 rw[Vi (s:=a) (k:=g) (by rw[List.flatMap_cons,List.flatMap_cons,List.flatMap_cons,yQ (nC _),yQ (.v _),yQ (.agg _ (jT w))];rfl) (by intro y hy;simp only[List.mem_cons,List.not_mem_nil,or_false] at hy;rcases hy with rfl|rfl|rfl|rfl;exact .inl (nC _);exact .inl (.v _);exact .inl (.agg _ (jT w));exact .inr (.inl ⟨a,g,rfl⟩)),
  List.map_cons,List.map_cons,List.map_cons,List.map_cons,List.map_nil,dY (nC _),dY (.v _),dY (.agg _ (jT w)),Qt hh,bT,bT,bT,bT,iD]
 exact ZK (aQs ns hu hr hn i w l hl (.inl rfl)) (C2 ns i w l)
theorem aSm {t:State} {v:SV} {Q R:Option (List Request)} {q m:Int} (h:TI t v Q R q m) (w:gQ) :
 ∃x,aD Tryz.prog 206 [.agg (aE t),.agg (dG w)]=some x∧∃(t':State) (e:Int) (v':SV) (Q' R':Option (List Request)),x=.dZ [.agg (aE t'),.v (.int .i64 e)]∧TI t' v' Q' R' q m:=by
 have hf:=h.td.flat
 have kU:=h.td.fl
 have fw:Flat (.agg (dG w)):=.agg _ (jT w)
 have BE:Flat (.agg (aE iZ)):=by simp only[dW,iZ,gL,nY,Lg,Ep,Qn,and_self]
 obtain⟨y,hy,⟨hj,rfl⟩|⟨k,hk,hh,hj,rfl⟩⟩:=x27 h.td w
 ·have k27:=kx hy (bI hf fw) (.dZ _ (oE (.agg _ (jS _)) BE (.v _)))
  rw[cL Tryz.func206 rfl aF7 rfl];simp only[Z8,seval,k27,eC];exact⟨_,by apply dP;rfl;all_goals simp only[aI,bY,Z8,seval,hf]<;>rfl,t,23,v,Q,R,rfl,h⟩
 obtain⟨r,er⟩:∃r,gx bK (ol Q) (k:Int)=r:=⟨_,rfl⟩
 obtain⟨t1,et⟩:∃t1,({ t with eK:=ov aA (nz ((ol Q).take k++(ol Q).drop (k+1)))}:State)=t1:=⟨_,rfl⟩
 have hr:r.tagged.tag<t.bC:=by rw[← er];exact (h.tq.all _ (vP (by omega) (by omega))).2.1
 have h1:=h.less k
 rw[et] at h1;rw[er,et] at hy;have nt1:t1.bC=t.bC:=by rw[← et]
 have hf1:=h1.td.flat
 have NV:=h1.td.fl
 have k27:=kx hy (bI hf fw) (.dZ _ (oE (.agg _ (jS _)) hf1 (.v _)))
 have hn:=h1.gi.sd.nn
 rw[cL Tryz.func206 rfl aF7 rfl];by_cases g3:w.kind=3
 ·obtain⟨R',hR'⟩:=h1.V1 (r:=r) (by rw[nt1];exact hr)
  have ff:=hR'.td.flat
  have k72:=kx (c72 h1.td r) (bI hf1 (.agg _ (jS _))) ff
  simp only[Z8,seval,k27,eC,bt g3,k72];exact⟨_,by apply dP;rfl;all_goals simp only[aI,bY,Z8,seval,ff]<;>rfl,_,0,v,_,R',rfl,hR'⟩
 by_cases g4:w.kind=4
 ·obtain⟨R',hR'⟩:=h1.V1 (r:=r) (by rw[nt1];exact hr)
  have ff:=hR'.td.flat
  have k72:=kx (c72 h1.td r) (bI hf1 (.agg _ (jS _))) ff
  simp only[Z8,seval,k27,eC,bf g3,bt g4,k72];exact⟨_,by apply dP;rfl;all_goals simp only[aI,bY,Z8,seval,ff]<;>rfl,_,0,v,_,R',rfl,hR'⟩
 have EZ:∀(st:St) (a g:Nat) (d:Option Nat),st.heap a g=some (.row 3 1 2 (aJ [aP v.ns t1.store.bN.gY.root,aP v.ns t1.store.bN.fin.root]))→_:=fun st a g d hh=>aSl v.ns h1.gi.up h1.gi.LW hn (aP v.ns r.block) w [aP v.ns t1.store.bN.gY.root,aP v.ns t1.store.bN.fin.root] (by show ((2:Nat):Int)<_;omega) st a g d hh
 rcases aHt v.ns (aP v.ns r.block) w [aP v.ns t1.store.bN.gY.root,aP v.ns t1.store.bN.fin.root] with ⟨e,he,ej⟩|⟨Xc,hs,ej⟩
 ·rw[ej] at EZ
  have hH:=h.halt true
  have fH:=hH.td.flat
  simp only[Z8,seval,k27,eC,bf g3,bf g4,Eh,h1.gi.sd.tree,mS _ _ hn,EZ,bf he];exact⟨_,by apply dP;rfl;all_goals simp only[aI,bY,Z8,seval,fH]<;>rfl,_,21,v,Q,R,rfl,hH⟩
 rw[ej] at EZ
 have Is:(Xc.length:Int)<1000000:=by rw[hs.len];exact hn
 have fr:=eY Xc t1.store.iR
 by_cases b0:0≤aP Xc t1.store.iR
 case neg =>
  have T:=h1.tree hs t1.store.iR
  have ft:=T.td.flat
  simp only[Z8,seval,k27,eC,bf g3,bf g4,Eh,h1.gi.sd.tree,mS _ _ hn,mS _ _ Is,EZ,b0];exact⟨_,by apply dP;rfl;all_goals simp only[aI,bY,Z8,seval,ft]<;>rfl,_,0,_,_,R,rfl,T⟩
 by_cases b1:(nd Xc (aP Xc t1.store.iR)).status=2
 case neg =>
  have T:=h1.tree hs t1.store.iR
  have ft:=T.td.flat
  simp only[Z8,seval,k27,eC,bf g3,bf g4,Eh,h1.gi.sd.tree,mS _ _ hn,mS _ _ Is,EZ,b0,fr.2,bf b1];exact⟨_,by apply dP;rfl;all_goals simp only[aI,bY,Z8,seval,ft]<;>rfl,_,0,_,_,R,rfl,T⟩
 have T:=h1.tree hs dO
 have ft:=T.td.flat
 simp only[Z8,seval,k27,eC,bf g3,bf g4,Eh,h1.gi.sd.tree,mS _ _ hn,mS _ _ Is,EZ,b0,fr.2,bt b1];exact⟨_,by apply dP;rfl;all_goals simp only[aI,bY,Z8,seval,ft]<;>rfl,_,0,_,_,R,rfl,T⟩
def aSo (s:aM) (v:SV) (q:Int) (r:AV):Prop:=∃(s':aM) (R:Option (List cK)) (e:Int),r=.dZ [.agg (aB s'),ov gV R,.v (.int .i64 e)]∧Flat (.agg (aB s'))∧((ol R).length:Int)≤70∧e≠21∧(e=0→∃v',GI s' v' q∧RG s' v'∧s'.cFg=s.cFg)
theorem aSp {s:aM} {v:SV} {q:Int} (h:GI s v q) (r:RG s v) (b:Block) (rb:RB b∧Pr b.root):∃r,aD Tryz.prog 203 [.agg (aB s),.agg (aT b)]=some r∧aSo s v q r:=by
 have hf:=h.sd.flat
 have kU:=h.sd.fl
 have hz:=Iw
 have VB:=k52 h.sd h.up h.sp
 have nO:=h.nO
 have MW:=h.MW
 have nn':=h.sd.nO
 rw[cL Tryz.func203 rfl aNb rfl];by_cases g1:Jz s v b=10
 ·by_cases g2:s.cFg.mL.wU≤((ol v.O).length:Int)
  ·simp only[Z8,seval,VB,bt g1,h.sd.bW,g2];exact⟨_,by apply gU;rfl;all_goals simp only[aI,bY,Z8,seval,hz]<;>rfl,gL,none,11,rfl,hz,by simp[ol],by decide,fun h=>by cases h⟩
  ·have hw:=h.UI (some (ol v.O++[{ b with Eu:=false }])) (by show (((ol v.O++[{ b with Eu:=false }]).length:Nat):Int)≤s.cFg.mL.wU;rw[List.length_append,List.length_cons,List.length_nil];omega)
   have hwr:=r.UI (some (ol v.O++[{ b with Eu:=false }])) (ov aH (some (ol v.O++[{ b with Eu:=false }]))) (fun c hc=>(List.mem_append.1 hc).elim (r.or c) fun e=>by rw[List.mem_singleton] at e;subst e;exact⟨⟨rb.1.sl,rb.1.j,rb.1.f,rb.1.pj,rb.1.pf⟩,rb.2⟩) (by simp)
   simp only[Z8,seval,VB,bt g1,h.sd.bW,g2,iT _ nn',FB _ _ _ _ nn'];exact⟨_,by apply gU;rfl;all_goals simp only[aI,bY,Z8,seval,bR,gH,bG,uI,cH,dW,kU]<;>rfl,_,none,0,rfl,hw.sd.flat,by simp[ol],by decide,fun _=>⟨_,hw,hwr,rfl⟩⟩
 by_cases g2:Jz s v b=0
 case neg =>
  simp only[Z8,seval,VB,bf g1,bf g2];exact⟨_,by apply gU;rfl;all_goals simp only[aI,bY,Z8,seval,hz]<;>rfl,gL,none,_,rfl,hz,by simp[ol],aG5 _ _ _,fun h=>absurd h g2⟩
 have ZU:=aM0 h g2
 have aDh:=h.ins g2
 have aDi:=r.ins rb g2
 have hcf:=Be s v b
 have hO1:=UK s v b
 cases g3:b.Eu
 · -- not timely
  have hG:GI (tG s v b) (lH s v b) q:=aDh
  have oJ:RG (tG s v b) (lH s v b):=aDi
  have hC:((tG s v b)).cFg=s.cFg:=hcf.1
  have pS:=MT hG.sd
  simp only[Z8,seval,VB,bf g1,bt g2,ZU,g3,pS];refine Nx (a:=Bg) (E3 s v q) (HA (by omega) (m:=(ol (lH s v b).O).length) ⟨(tG s v b),lH s v b,_,[b.root],66,0, ?start,.inl ⟨rfl,rfl⟩,.inl rfl,hG,oJ,hC,by simp;omega,rfl⟩) ?rest
  case start =>
   rw[tI hG.sd];simp only[E8,seval,gV,List.flatMap_cons,List.flatMap_nil,List.append_nil]<;>rfl
  case rest =>
   rintro e st ⟨rfl,S0,w,X,R,a,g,hI,ha,hX,hG,oJ,hC,hR⟩
   have V5:(a=4)=False:=eq_false ha
   have aHv:=hG.sd.fl
   have hfo:=hG.sd.bW
   rcases hX with rfl|⟨g',L,hL,rfl,TJ⟩
   ·rw[tI hG.sd] at hI;have BU:=hG.sd.flat
    simp only[Z8,seval,hI];exact⟨_,by apply gU;rfl;all_goals simp only[aI,bY,Z8,seval,hI,V5,BU,wK]<;>rfl,S0,some R,0,rfl,BU,by simp only[ol,Option.getD_some];omega,by decide,fun _=>⟨w,hG,oJ,hC⟩⟩
   ·have hex:=fun st' hh=>zN (O:=L) (a:=91) (g:=g') hG.sd st' hh
    have NV:mV S0 (ov aH (some L))=S0:=by rw[← hL];exact tI hG.sd
    rw[NV] at hex;simp only[Z8,seval,hI];exact⟨_,by apply gU;rfl;all_goals simp only[aI,bY,Z8,seval,hI,V5,TJ,hex,wK]<;>rfl,S0,some R,0,rfl,hG.sd.flat,by simp only[ol,Option.getD_some];omega,by decide,fun _=>⟨w,hG,oJ,hC⟩⟩
 by_cases g4:b.slot=s.now
 case neg =>
  have hG:GI (tG s v b) (lH s v b) q:=aDh
  have oJ:RG (tG s v b) (lH s v b):=aDi
  have hC:((tG s v b)).cFg=s.cFg:=hcf.1
  have pS:=MT hG.sd
  simp only[Z8,seval,VB,bf g1,bt g2,ZU,g3,bf g4,pS];refine Nx (a:=Bg) (E3 s v q) (HA (by omega) (m:=(ol (lH s v b).O).length) ⟨(tG s v b),lH s v b,_,[b.root],66,0, ?start,.inl ⟨rfl,rfl⟩,.inl rfl,hG,oJ,hC,by simp;omega,rfl⟩) ?rest
  case start =>
   rw[tI hG.sd];simp only[E8,seval,gV,List.flatMap_cons,List.flatMap_nil,List.append_nil]<;>rfl
  case rest =>
   rintro e st ⟨rfl,S0,w,X,R,a,g,hI,ha,hX,hG,oJ,hC,hR⟩
   have V5:(a=4)=False:=eq_false ha
   have aHv:=hG.sd.fl
   have hfo:=hG.sd.bW
   rcases hX with rfl|⟨g',L,hL,rfl,TJ⟩
   ·rw[tI hG.sd] at hI;have BU:=hG.sd.flat
    simp only[Z8,seval,hI];exact⟨_,by apply gU;rfl;all_goals simp only[aI,bY,Z8,seval,hI,V5,BU,wK]<;>rfl,S0,some R,0,rfl,BU,by simp only[ol,Option.getD_some];omega,by decide,fun _=>⟨w,hG,oJ,hC⟩⟩
   ·have hex:=fun st' hh=>zN (O:=L) (a:=91) (g:=g') hG.sd st' hh
    have NV:mV S0 (ov aH (some L))=S0:=by rw[← hL];exact tI hG.sd
    rw[NV] at hex;simp only[Z8,seval,hI];exact⟨_,by apply gU;rfl;all_goals simp only[aI,bY,Z8,seval,hI,V5,TJ,hex,wK]<;>rfl,S0,some R,0,rfl,hG.sd.flat,by simp only[ol,Option.getD_some];omega,by decide,fun _=>⟨w,hG,oJ,hC⟩⟩
 by_cases g5:s.iR=dO
 case neg =>
  have hG:GI (tG s v b) (lH s v b) q:=aDh
  have oJ:RG (tG s v b) (lH s v b):=aDi
  have hC:((tG s v b)).cFg=s.cFg:=hcf.1
  have pS:=MT hG.sd
  simp only[Z8,seval,VB,bf g1,bt g2,ZU,g3,bt g4,g5,pS];refine Nx (a:=Bg) (E3 s v q) (HA (by omega) (m:=(ol (lH s v b).O).length) ⟨(tG s v b),lH s v b,_,[b.root],66,0, ?start,.inl ⟨rfl,rfl⟩,.inl rfl,hG,oJ,hC,by simp;omega,rfl⟩) ?rest
  case start =>
   rw[tI hG.sd];simp only[E8,seval,gV,List.flatMap_cons,List.flatMap_nil,List.append_nil]<;>rfl
  case rest =>
   rintro e st ⟨rfl,S0,w,X,R,a,g,hI,ha,hX,hG,oJ,hC,hR⟩
   have V5:(a=4)=False:=eq_false ha
   have aHv:=hG.sd.fl
   have hfo:=hG.sd.bW
   rcases hX with rfl|⟨g',L,hL,rfl,TJ⟩
   ·rw[tI hG.sd] at hI;have BU:=hG.sd.flat
    simp only[Z8,seval,hI];exact⟨_,by apply gU;rfl;all_goals simp only[aI,bY,Z8,seval,hI,V5,BU,wK]<;>rfl,S0,some R,0,rfl,BU,by simp only[ol,Option.getD_some];omega,by decide,fun _=>⟨w,hG,oJ,hC⟩⟩
   ·have hex:=fun st' hh=>zN (O:=L) (a:=91) (g:=g') hG.sd st' hh
    have NV:mV S0 (ov aH (some L))=S0:=by rw[← hL];exact tI hG.sd
    rw[NV] at hex;simp only[Z8,seval,hI];exact⟨_,by apply gU;rfl;all_goals simp only[aI,bY,Z8,seval,hI,V5,TJ,hex,wK]<;>rfl,S0,some R,0,rfl,hG.sd.flat,by simp only[ol,Option.getD_some];omega,by decide,fun _=>⟨w,hG,oJ,hC⟩⟩
 have hG:GI { tG s v b with iR:=b.root } (lH s v b) q:=aDh.iR b.root
 have oJ:RG { tG s v b with iR:=b.root } (lH s v b):=aDi.iR b.root
 have hC:({ tG s v b with iR:=b.root }).cFg=s.cFg:=hcf.1
 have pS:=MT hG.sd
 simp only[Z8,seval,VB,bf g1,bt g2,ZU,g3,bt g4,g5,pS];refine Nx (a:=Bg) (E3 s v q) (HA (by omega) (m:=(ol (lH s v b).O).length) ⟨{ tG s v b with iR:=b.root },lH s v b,_,[b.root],66,0, ?start,.inl ⟨rfl,rfl⟩,.inl rfl,hG,oJ,hC,by simp;omega,rfl⟩) ?rest
 case start =>
  rw[tI hG.sd];simp only[E8,seval,gV,List.flatMap_cons,List.flatMap_nil,List.append_nil]<;>rfl
 case rest =>
  rintro e st ⟨rfl,S0,w,X,R,a,g,hI,ha,hX,hG,oJ,hC,hR⟩
  have V5:(a=4)=False:=eq_false ha
  have aHv:=hG.sd.fl
  have hfo:=hG.sd.bW
  rcases hX with rfl|⟨g',L,hL,rfl,TJ⟩
  ·rw[tI hG.sd] at hI;have BU:=hG.sd.flat
   simp only[Z8,seval,hI];exact⟨_,by apply gU;rfl;all_goals simp only[aI,bY,Z8,seval,hI,V5,BU,wK]<;>rfl,S0,some R,0,rfl,BU,by simp only[ol,Option.getD_some];omega,by decide,fun _=>⟨w,hG,oJ,hC⟩⟩
  ·have hex:=fun st' hh=>zN (O:=L) (a:=91) (g:=g') hG.sd st' hh
   have NV:mV S0 (ov aH (some L))=S0:=by rw[← hL];exact tI hG.sd
   rw[NV] at hex;simp only[Z8,seval,hI];exact⟨_,by apply gU;rfl;all_goals simp only[aI,bY,Z8,seval,hI,V5,TJ,hex,wK]<;>rfl,S0,some R,0,rfl,hG.sd.flat,by simp only[ol,Option.getD_some];omega,by decide,fun _=>⟨w,hG,oJ,hC⟩⟩
def PfR (q m:Int) (r:AV):Prop:=∃(t':State) (e:Int),r=.dZ [.agg (aE t'),.v (.int .i64 e)]∧Flat (.agg (aE t'))∧(e=0∨e=21→∃v' Q' R',TI t' v' Q' R' (q+1000) (m+256))
theorem NX {t:State} (h:Flat (.agg (aE t))) {s':aM} (hs:Flat (.agg (aB s'))):Flat (.agg (aE { t with store:=s' })):=by
 obtain⟨_,_,_,_,_,_,_,h8,h9⟩:=(oF t).1 h
 obtain⟨h1,h2,h3,h4,h5,h6,h7⟩:=(Gx s').1 hs
 exact (oF _).2 ⟨h1,h2,h3,h4,h5,h6,h7,h8,h9⟩
theorem aSq {t:State} {v:SV} {Q R:Option (List Request)} {q m:Int} (h:TI t v Q R q m) (x:xH) (hx:pH x) (hp:x.kind=2→Pr x.block.root) (hq:q+1000≤900000) (hm:m+256≤100000) :
 ∃r,aD Tryz.prog 185 [.agg (aE t),.agg (lC x)]=some r∧PfR q m r:=by
 have hf:=h.td.flat
 have YO:=h.gi.sd.flat
 have SU:=hx.flat
 have aDj:=hx.fl
 have up:∀ {t':State} {v':SV} {Q' R':Option (List Request)} {q' m':Int},TI t' v' Q' R' q' m'→q'≤q+1000→m'≤m+256→∃v' Q' R',TI t' v' Q' R' (q+1000) (m+256):=fun g a b=>⟨_,_,_,g.mono a hq b hm⟩
 have nt:=h.nt
 have mB:=h.mB
 have lq:=h.lq
 have lr:=h.lr
 have rB:=h.E7
 rw[cL Tryz.func185 rfl aNc rfl];by_cases k1:x.kind=1
 ·obtain⟨y,hy,s',e,rfl,ZV,ne,ho⟩:=aR8 h.gi h.rg
  have k202:=kx hy (cP YO) (.dZ _ (bI ZV (.v _)))
  have ft:=NX hf ZV
  by_cases e0:e=0
  ·obtain⟨v',g,r,c⟩:=ho e0
   have T0:=h.toTI0.store g r c
   have T1:=T0.drop
   have T2:=T1.due hm
   have k36:=kx (c36 T0.td) (cP ft) T1.td.flat
   have k74:=kx (c74 T1.td (by have:=T1.lq;have:=T1.lr;have:=T1.E7;omega)) (cP T1.td.flat) T2.td.flat
   have ft2:=T2.td.flat
   simp only[Z8,seval,bt k1,k202,eC,bt e0,k36,k74];exact⟨_,by apply dP;rfl;all_goals simp only[aI,bY,Z8,seval,ft2]<;>rfl,_,e,rfl,ft2,fun _=>up T2 (by omega) (by omega)⟩
  ·simp only[Z8,seval,bt k1,k202,eC,bf e0];exact⟨_,by apply dP;rfl;all_goals simp only[aI,bY,Z8,seval,ft]<;>rfl,_,e,rfl,ft,fun h=>absurd h (by omega)⟩
 by_cases k2:x.kind=2
 ·obtain⟨y,hy,s',L,e,rfl,ZV,nL,ne,ho⟩:=aSp h.gi h.rg x.block ⟨hx.rb,hp k2⟩
  have k203:=kx hy (bI YO (uY _)) (.dZ _ (oE ZV (Hg L) (.v _)))
  have ft:=NX hf ZV
  by_cases e0:e=0
  ·obtain⟨v',g,r,c⟩:=ho e0
   have T0:=h.toTI0.store g r c
   have T1:=T0.drop
   have T2:=T1.open (ol L) (by omega) hm
   have k36:=kx (c36 T0.td) (cP ft) T1.td.flat
   have k32:∀(st:St) (d:Option Nat),fC (aD Tryz.prog) 32 _ st d=_:=fun st d=>Hi (bI T1.td.flat (Hg L)) (c32 T1.td L (by have:=T1.lq;omega)) T2.td.flat
   have ft2:=T2.td.flat
   simp only[Z8,seval,bf k1,bt k2,k203,eC,bt e0,k36,k32];exact⟨_,by apply dP;rfl;all_goals simp only[aI,bY,Z8,seval,ft2]<;>rfl,_,e,rfl,ft2,fun _=>up T2 (by omega) (by omega)⟩
  ·simp only[Z8,seval,bf k1,bt k2,k203,eC,bf e0];exact⟨_,by apply dP;rfl;all_goals simp only[aI,bY,Z8,seval,ft]<;>rfl,_,e,rfl,ft,fun h=>absurd h (by omega)⟩
 by_cases k3:x.kind=3
 ·obtain⟨V,hV,nV⟩:=hx.Gb
  obtain⟨y,hy,s',e,rfl,ZV,ne,ho⟩:=aRj h.gi h.rg x.Gb V hV (by omega)
  have k204:=kx hy (bI YO ((zK _).2 aDj.1)) (.dZ _ (bI ZV (.v _)))
  have ft:=NX hf ZV
  have fin:e=0∨e=21→∃v' Q' R',TI { t with store:=s' } v' Q' R' (q+1000) (m+256):=fun he=>by
   obtain⟨v',g,r,c,en⟩:=ho (by omega)
   exact up ⟨h.toTI0.store g r c,by rw[en];exact h.E6,by rw[en];exact h.N9⟩ (by omega) (by omega)
  simp only[Z8,seval,bf k1,bf k2,bt k3,k204,eC];exact⟨_,by apply dP;rfl;all_goals simp only[aI,bY,Z8,seval,ft]<;>rfl,_,e,rfl,ft,fin⟩
 by_cases k4:x.kind=4
 ·obtain⟨V,hV,nV⟩:=hx.c1
  obtain⟨W,hW,nW⟩:=hx.c2
  obtain⟨y,hy,s',e,rfl,ZV,ne,ho⟩:=aRi h.gi h.rg x.oU V W hV hW nV nW hq
  have k205:=kx hy (bI YO ((nF _).2 ⟨aDj.2.1,aDj.2.2.1⟩)) (.dZ _ (bI ZV (.v _)))
  have ft:=NX hf ZV
  have fin:e=0∨e=21→∃v' Q' R',TI { t with store:=s' } v' Q' R' (q+1000) (m+256):=fun he=>by
   obtain⟨v',g,r,c,en⟩:=ho (by omega)
   exact up ⟨h.toTI0.store g r c,by rw[en];exact h.E6,by rw[en];exact h.N9⟩ (by omega) (by omega)
  simp only[Z8,seval,bf k1,bf k2,bf k3,bt k4,k205,eC];exact⟨_,by apply dP;rfl;all_goals simp only[aI,bY,Z8,seval,ft]<;>rfl,_,e,rfl,ft,fin⟩
 by_cases k5:x.kind=5
 ·have nT:=h.gi.nT
  have UG:=h.gi.UG
  obtain⟨y,hy,s',e,rfl,ZV,ne,ho⟩:=aQV h.gi.sd (by omega) x.table hx.T6
  have k117:=kx hy (bI YO ((kM _).2 aDj.2.2.2)) (.dZ _ (bI ZV (.v _)))
  have ft:=NX hf ZV
  have fin:e=0∨e=21→∃v' Q' R',TI { t with store:=s' } v' Q' R' (q+1000) (m+256):=fun he=>by
   obtain⟨o',rfl,nl,tb,sub,ne1,ne2⟩:=ho (by omega)
   have g:GI { t.store with tables:=ov aR o' } { v with T:=o' } q :=
    ⟨⟨h.gi.sd.jP,h.gi.sd.dT,h.gi.sd.gX,h.gi.sd.early,h.gi.sd.bW,h.gi.sd.tree,rfl,h.gi.sd.eV,tb,h.gi.sd.nB,h.gi.sd.nL,h.gi.sd.nQ,h.gi.sd.nE,h.gi.sd.nO,by show ((ol o').length:Int)<_;omega,h.gi.sd.nn⟩,h.gi.up,h.gi.LW,h.gi.pos,h.gi.nl,h.gi.UF,h.gi.rD,h.gi.MV,h.gi.nB,h.gi.nO,h.gi.MW,h.gi.nE,h.gi.SW,by show ((ol o').length:Int)≤t.store.cFg.mL.rE;omega,h.gi.UG,h.gi.nQ,h.gi.Q7,h.gi.gY⟩
   have r:RG { t.store with tables:=ov aR o' } { v with T:=o' }:=⟨h.rg.now,h.rg.j,h.rg.f,h.rg.nd,h.rg.or,h.rg.rt,h.rg.fe,h.rg.ds,by obtain⟨tb,h1,h2⟩:=h.rg.tb;exact⟨tb,sub h1,h2⟩,⟨h.rg.ne.q,h.rg.ne.e,h.rg.ne.o,ne1,h.rg.ne.ea,fun x hx=>(ne2 x hx).elim (h.rg.ne.tb x) fun ⟨B,h1,h2⟩=>⟨B,h1,fun e=>by have h3:=h.jP.1;rw[e] at h2;simp at h2;omega⟩⟩⟩
   exact up ⟨h.toTI0.store g r rfl,h.E6,h.N9⟩ (by omega) (by omega)
  simp only[Z8,seval,bf k1,bf k2,bf k3,bf k4,bt k5,k117,eC];exact⟨_,by apply dP;rfl;all_goals simp only[aI,bY,Z8,seval,ft]<;>rfl,_,e,rfl,ft,fin⟩
 by_cases k6:x.kind=6
 ·obtain⟨y,hy,t',e,v',Q',R',rfl,g⟩:=aSm h x.verdict
  have k206:=kx hy (bI hf (.agg _ (jT _))) (.dZ _ (bI g.td.flat (.v _)))
  have ft:=g.td.flat
  simp only[Z8,seval,bf k1,bf k2,bf k3,bf k4,bf k5,bt k6,k206,eC];exact⟨_,by apply dP;rfl;all_goals simp only[aI,bY,Z8,seval,ft]<;>rfl,_,e,rfl,ft,fun _=>up g (by omega) (by omega)⟩
 simp only[Z8,seval,bf k1,bf k2,bf k3,bf k4,bf k5,bf k6];exact⟨_,by apply dP;rfl;all_goals simp only[aI,bY,Z8,seval,hf]<;>rfl,t,2,rfl,hf,fun h=>absurd h (by omega)⟩
theorem aSs {t:State} {v:SV} {Q R:Option (List Request)} {q m:Int} (h:TI t v Q R q m) (x:xH) (hx:pH x) (hp:x.kind=2→Pr x.block.root) (hq:q+1000≤900000) (hm:m+256≤100000) :
 ∃r,aD Tryz.prog 147 [.agg (aE t),.agg (lC x)]=some r∧∃(t':State) (y:AV) (e:Int) (v':SV) (Q' R':Option (List Request)),r=.dZ [.agg (aE t'),y,.v (.int .i64 e)]∧Flat y∧TI t' v' Q' R' (q+1000) (m+256):=by
 have hf:=h.td.flat
 have SU:=hx.flat
 have h':=h.mono (q':=q+1000) (m':=m+256) (by omega) hq (by omega) hm
 obtain⟨y1,hy1,e1,rfl⟩:=aRE x hx
 have aDk:=kx hy1 (cP SU) (.v _)
 obtain⟨y2,hy2,t2,e2,rfl,ft2,ho⟩:=aSq h x hx hp hq hm
 have aHw:=kx hy2 (bI hf SU) (.dZ _ (bI ft2 (.v _)))
 rw[cL Tryz.func147 rfl aNd rfl];cases g0:t.halted
 case true =>
  simp only[Z8,seval,g0];exact⟨_,by apply gU;rfl;all_goals simp only[aI,bY,Z8,seval,hf]<;>rfl,t,_,22,v,Q,R,rfl,.v _,h'⟩
 by_cases g1:e1=0
 case neg =>
  simp only[Z8,seval,g0,aDk,bf g1];exact⟨_,by apply gU;rfl;all_goals simp only[aI,bY,Z8,seval,hf]<;>rfl,t,_,e1,v,Q,R,rfl,.v _,h'⟩
 by_cases g2:e2=21
 ·obtain⟨v',Q',R',T⟩:=ho (.inr g2)
  simp only[Z8,seval,g0,aDk,bt g1,aHw,eC,bt g2];exact⟨_,by apply gU;rfl;all_goals simp only[aI,bY,Z8,seval,ft2]<;>rfl,t2,_,e2,v',Q',R',rfl,.v _,T⟩
 by_cases g3:e2=0
 case neg =>
  simp only[Z8,seval,g0,aDk,bt g1,aHw,eC,bf g2,bf g3];exact⟨_,by apply gU;rfl;all_goals simp only[aI,bY,Z8,seval,hf]<;>rfl,t,_,e2,v,Q,R,rfl,.v _,h'⟩
 obtain⟨v',Q',R',T⟩:=ho (.inl g3)
 obtain⟨y3,hy3,b,c,y,rfl,fy⟩:=aMn t2 ft2 T.gi
 have T':=T.emit b c
 have ft3:=T'.td.flat
 have aHx:=kx hy3 (cP ft2) (.dZ _ (bI ft3 fy))
 simp only[Z8,seval,g0,aDk,bt g1,aHw,eC,bf g2,bt g3,aHx];exact⟨_,gU rfl (by simp only[bY,Z8,seval]<;>rfl) (by simp only[bY,Z8,seval]<;>rfl) (by simp only[bY,E8,seval]<;>rfl) (dY ft3) (dY fy) (dY (.v _)),_,y,0,v',Q',R',rfl,fy,T'⟩
theorem Hm (n:Int):(mkRoot n)[0]=IntKind.u8.wrap n:=by
 simp[mkRoot]
theorem Xx {n:Int} (h0:0≤n) (h1:n<256):IntKind.u8.wrap n=n:=by
 simp only[IntKind.wrap,IntKind.bits,IntKind.signed];simp
 omega
theorem aF8 {n:Int} (h0:1≤n) (h1:n≤98):Pr (mkRoot n):=by
 refine⟨fun e=>?_,fun e=>?_⟩
 ·have e1:IntKind.u8.wrap n=dO[0]:=by rw[← Hm,e]
  rw[Xx (by omega) (by omega),show dO[0]=0 from rfl] at e1
  omega
 ·have e1:IntKind.u8.wrap n=IntKind.u8.wrap 99:=by rw[← Hm,← Hm,e]
  rw[Xx (by omega) (by omega),Xx (by omega) (by omega)] at e1
  omega
theorem RG.new {c:Config} {b:List Int} (h:Sy c b):RG (D9 c b) (S9 c b):=by
 have hg:Pr c.iA:=by rw[h.gen];exact aF8 (by omega) (by omega)
 have z:Rg 0:=ZP
 refine⟨⟨by show (0:Int)≤0;omega,by show (0:Int)≤_;omega⟩,z,z,fun n hn=>?_,(fun o ho=>by cases ho),fun n hn=>?_,⟨by show (0:Int)≤0;omega, ?_⟩, ?_, ?_, ?_⟩
 ·rw[show n=⟨aC4 c,-1,1⟩ from List.mem_singleton.1 hn];exact⟨⟨z,z,z,z,z⟩,by show (0:Int)≤0;omega⟩
 ·rw[show n=⟨aC4 c,-1,1⟩ from List.mem_singleton.1 hn];exact hg
 ·show (0:Int)≤IntKind.u64.wrap (Int.tdiv 0 c.rD)
  rw[Int.zero_tdiv];decide
 ·show ([c.iA]:List cK).Nodup
  simp
 ·exact⟨⟨⟨0,c.iA⟩,ov bF (some b)⟩,List.mem_singleton.2 rfl,rfl⟩
 ·exact⟨nofun,nofun,nofun,by simp[S9],(fun a ha=>by cases ha),fun t ht=>⟨b,by rw[show t=⟨⟨0,c.iA⟩,ov bF (some b)⟩ from List.mem_singleton.1 ht],fun e=>by have:=h.nb.1;rw[e] at this;simp at this⟩⟩
def V6 (c:Config) (b:List Int):State:={ iZ with store:=D9 c b,bC:=1 }
theorem TI.new {c:Config} {b:List Int} (h:Sy c b):TI (V6 c b) (S9 c b) none none 0 0:=by
 have g:=GI.new h
 have r:=RG.new h
 have hr:=h.oI
 exact⟨⟨⟨g.sd,rfl,rfl,by show ((0:Nat):Int)<_;omega,by show ((0:Nat):Int)<_;omega⟩,g,r,⟨b,h⟩,⟨by show (1:Int)≤1;omega,(fun r hr=>by cases hr),List.Pairwise.nil⟩,⟨(fun r hr=>by cases hr),List.Pairwise.nil⟩,by show (1:Int)≤1+0;omega,by show ((0:Nat):Int)≤0;omega,by show ((0:Nat):Int)≤c.mL.oI;omega,by omega,nofun,nofun⟩,(fun r hr=>by cases hr),(fun r hr=>by cases hr)⟩
theorem aSv {c:Config} {b:List Int} (h:Sy c b):∃r,aD Tryz.prog 144 [.agg (bV c)]=some r∧∃(Li:Bool) (last:Command) (y:AV),r=.dZ [.agg (aE { V6 c b with Li:=Li,last:=last }),y,.v (.int .i64 0)]∧Flat y:=by
 have T:=TI.new h
 have fc:Flat (.agg (bV c)):=(Cq c).2 (by rw[h.jP];exact dU _)
 have fs:=T.gi.sd.flat
 have k102:=kx (aRo h) (cP fc) (.dZ _ (bI fs (.v _)))
 obtain⟨y3,hy3,s,l,y,rfl,fy⟩:=aMn (V6 c b) T.td.flat T.gi
 have ft3:=(T.emit s l).td.flat
 have aHx:=kx hy3 (cP T.td.flat) (.dZ _ (bI ft3 fy))
 have eb:({ iZ with store:=D9 c b,bC:=1 }:State)=V6 c b:=rfl
 rw[cL Tryz.func144 rfl aNg rfl];simp only[Z8,seval,k102,eC,eb,aHx];exact⟨_,gU rfl (by simp only[bY,Z8,seval]<;>rfl) (by simp only[bY,Z8,seval]<;>rfl) (by simp only[bY,E8,seval]<;>rfl) (dY ft3) (dY fy) (dY (.v _)),s,l,y,rfl,fy⟩
end Go.Ab.Tryz
