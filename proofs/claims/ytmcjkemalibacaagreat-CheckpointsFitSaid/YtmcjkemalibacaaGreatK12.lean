/-
  Part 12 of the proof: an evaluator of programs, its soundness, and what functions of this program compute.
-/
import Derived.Test.YtmcjkemalibacaaGreatK11
import Derived.Test.YtmcjkemalibacaaGreatK10
set_option linter.all false
set_option maxRecDepth 20000
set_option maxHeartbeats 40000000
section
namespace Go.Ab.Tryz
open Classical Go.Proofs Go.Ab
end Go.Ab.Tryz
namespace Go.Ab
theorem Wb {α β:Type} {x:Option α} {k:α→Option β} {R:β→Prop} (Q:α→Prop) (h:∃a,x=some a∧Q a) (rest:∀a,Q a→∃r,k a=some r∧R r):∃r,cT x k=some r∧R r:=by
 obtain⟨a,h1,h2⟩:=h
 rw[h1];exact rest a h2
end Go.Ab
namespace Go.Ab.Tryz
open Classical Go.Proofs Go.Ab
theorem Dg:aD 7 73 (some 41)=[]∧aD 7 72 (some 41)=[]:=⟨rfl,rfl⟩
theorem lD {α:Type} (a:α) (l m:List α):List.append (a :: l) m=a :: List.append l m:=rfl
theorem lE {α:Type} (m:List α):List.append ([]:List α) m=m:=rfl
theorem c59 {s:aL} {v:SV} (hs:SD s v) (hu:gL v.ns) (hp:s.cFg.jL≠0) (c1 c2:dP):aB Tryz.prog 59 [.agg (aA s),.agg (aW c1),.agg (aW c2)]=some (Ke s v c1 c2):=by
 have hf:=hs.flat
 have TH:=hs.fT
 rw[cG Tryz.func59 rfl aQO (by kernel_rfl) rfl]
 refine gX ?_
 unfold Ke;obtain⟨J,eJ⟩:∃J,rP s c1=J:=⟨_,rfl⟩
 obtain⟨F,eF⟩:∃F,tW s c2=F:=⟨_,rfl⟩
 rw[eJ,eF];simp only[ZG,seval,Bool.false_and,Prod.mk.injEq,Rj,Dg,lD,lE];refine Wb (fun a=>a.1=.normal∧a.2.env 3=.ptr 3 0 0∧a.2.heap 3 0=some (.cells (aA s))∧a.2.env 5=.ptr 5 0 0∧a.2.heap 5 0=some (.cells (aW c2))∧a.2.env 6=.ptr 6 0 0∧a.2.heap 6 0=some (.cells (aW fV))∧a.2.env 7=.ptr 7 0 0∧a.2.heap 7 0=some (.cells (aW fV))∧a.2.env 9=.ptr 9 0 0∧a.2.heap 9 0=some (.cells (aW J))∧a.2.env 10=.ptr 10 0 0∧a.2.heap 10 0=some (.cells (aW s.aU.fin))) ?m1 ?r1
 case m1 =>
  unfold rP at eJ;by_cases a1:s.aU.gD.aE<c1.aE
  ·rw[if_pos a1] at eJ;simp only[a1,decide_true,if_true];exact⟨_,rfl,rfl,by simp only[E8,seval,eJ]<;>exact⟨rfl,rfl⟩⟩
  ·rw[if_neg a1] at eJ;simp only[a1,decide_false,Bool.false_eq_true,if_false];exact⟨_,rfl,rfl,by simp only[E8,seval,eJ]<;>exact⟨rfl,rfl⟩⟩
 case r1 =>
  rintro⟨_,st⟩ ⟨rfl,hI⟩
  dsimp only at hI
  simp only[ZG,seval,Bool.false_and,Prod.mk.injEq,Rj,Dg,lD,lE,hI];refine Wb (fun a=>a.1=.normal∧a.2.env 3=.ptr 3 0 0∧a.2.heap 3 0=some (.cells (aA s))∧a.2.env 6=.ptr 6 0 0∧a.2.heap 6 0=some (.cells (aW fV))∧a.2.env 7=.ptr 7 0 0∧a.2.heap 7 0=some (.cells (aW fV))∧a.2.env 9=.ptr 9 0 0∧a.2.heap 9 0=some (.cells (aW J))∧a.2.env 10=.ptr 10 0 0∧a.2.heap 10 0=some (.cells (aW F))) ?m2 ?r2
  case m2 =>
   unfold tW at eF;by_cases a2:s.aU.fin.aE<c2.aE
   ·rw[if_pos a2] at eF;simp only[a2,decide_true,if_true];exact⟨_,rfl,rfl,by simp only[E8,seval,hI,eF]⟩
   ·rw[if_neg a2] at eF;simp only[a2,decide_false,Bool.false_eq_true,if_false];exact⟨_,rfl,rfl,by simp only[E8,seval,hI,eF]⟩
  case r2 =>
   rintro⟨_,st⟩ ⟨rfl,hK⟩
   dsimp only at hK
   have r1:=eQ v.ns J.root
   have r2:=eQ v.ns F.root
   by_cases g1:aN v.ns J.root<0
   ·simp only[ZG,seval,Bool.false_and,Prod.mk.injEq,Rj,Dg,lD,lE,hK,hs.tree,mS _ _ hs.nn,Ns _ hu hs.nn,Nf s hp hf,hs.tables,TG _ hs.nT TH,decide_true,decide_false,g1];exact⟨_,by apply fM;rfl;all_goals simp only[aH,bY,Z8,seval,hK]<;>rfl,by rw[if_pos (show jZ s v J F by simp only[jZ,g1,not_true_eq_false,not_false_eq_true,true_or,or_true])]⟩
   by_cases g2:aN v.ns F.root<0
   ·simp only[ZG,seval,Bool.false_and,Prod.mk.injEq,Rj,Dg,lD,lE,hK,hs.tree,mS _ _ hs.nn,Ns _ hu hs.nn,Nf s hp hf,hs.tables,TG _ hs.nT TH,decide_true,decide_false,g1,g2];exact⟨_,by apply fM;rfl;all_goals simp only[aH,bY,Z8,seval,hK]<;>rfl,by rw[if_pos (show jZ s v J F by simp only[jZ,g1,g2,not_true_eq_false,not_false_eq_true,true_or,or_true])]⟩
   have q1:0≤aN v.ns J.root:=by omega
   have q2:0≤aN v.ns F.root:=by omega
   by_cases g3:(nd v.ns (aN v.ns J.root)).status=2
   ·simp only[ZG,seval,Bool.false_and,Prod.mk.injEq,Rj,Dg,lD,lE,hK,hs.tree,mS _ _ hs.nn,Ns _ hu hs.nn,Nf s hp hf,hs.tables,TG _ hs.nT TH,decide_true,decide_false,g1,g2,q1,q2,r1,r2,bt g3];exact⟨_,by apply fM;rfl;all_goals simp only[aH,bY,Z8,seval,hK]<;>rfl,by rw[if_pos (show jZ s v J F by simp only[jZ,g1,g2,g3,not_true_eq_false,not_false_eq_true,true_or,or_true])]⟩
   by_cases g4:(nd v.ns (aN v.ns F.root)).status=2
   ·simp only[ZG,seval,Bool.false_and,Prod.mk.injEq,Rj,Dg,lD,lE,hK,hs.tree,mS _ _ hs.nn,Ns _ hu hs.nn,Nf s hp hf,hs.tables,TG _ hs.nT TH,decide_true,decide_false,g1,g2,q1,q2,r1,r2,bf g3,bt g4];exact⟨_,by apply fM;rfl;all_goals simp only[aH,bY,Z8,seval,hK]<;>rfl,by rw[if_pos (show jZ s v J F by simp only[jZ,g1,g2,g3,g4,not_true_eq_false,not_false_eq_true,true_or,or_true])]⟩
   have ke1:=aLa hs (aN v.ns J.root) J.aE q1 r1.2
   have ke2:=aLa hs (aN v.ns F.root) F.aE q2 r2.2
   by_cases g5:¬HH s v.ns (aN v.ns J.root) J.aE
   ·simp only[ZG,seval,Bool.false_and,Prod.mk.injEq,Rj,Dg,lD,lE,hK,hs.tree,mS _ _ hs.nn,Ns _ hu hs.nn,Nf s hp hf,hs.tables,TG _ hs.nT TH,decide_true,decide_false,g1,g2,q1,q2,r1,r2,bf g3,bf g4,ke1,ke2,g5];exact⟨_,by apply fM;rfl;all_goals simp only[aH,bY,Z8,seval,hK]<;>rfl,by rw[if_pos (show jZ s v J F by simp only[jZ,g1,g2,g3,g4,g5,not_true_eq_false,not_false_eq_true,true_or,or_true])]⟩
   replace g5:=Classical.not_not.1 g5
   by_cases g6:¬HH s v.ns (aN v.ns F.root) F.aE
   ·simp only[ZG,seval,Bool.false_and,Prod.mk.injEq,Rj,Dg,lD,lE,hK,hs.tree,mS _ _ hs.nn,Ns _ hu hs.nn,Nf s hp hf,hs.tables,TG _ hs.nT TH,decide_true,decide_false,g1,g2,q1,q2,r1,r2,bf g3,bf g4,ke1,ke2,g5,g6];exact⟨_,by apply fM;rfl;all_goals simp only[aH,bY,Z8,seval,hK]<;>rfl,by rw[if_pos (show jZ s v J F by simp only[jZ,g1,g2,g3,g4,g5,g6,not_true_eq_false,not_false_eq_true,true_or,or_true])]⟩
   replace g6:=Classical.not_not.1 g6
   by_cases g7:tV v.ns (aN v.ns F.root) (aN v.ns J.root)=false
   ·simp only[ZG,seval,Bool.false_and,Prod.mk.injEq,Rj,Dg,lD,lE,hK,hs.tree,mS _ _ hs.nn,Ns _ hu hs.nn,Nf s hp hf,hs.tables,TG _ hs.nT TH,decide_true,decide_false,g1,g2,q1,q2,r1,r2,bf g3,bf g4,ke1,ke2,g5,g6,g7];exact⟨_,by apply fM;rfl;all_goals simp only[aH,bY,Z8,seval,hK]<;>rfl,by rw[if_pos (show jZ s v J F by simp only[jZ,g1,g2,g3,g4,g5,g6,g7,not_true_eq_false,not_false_eq_true,true_or,or_true])]⟩
   replace g7:=(by simpa using g7:tV v.ns _ _=true)
   by_cases g8:J.aE<F.aE
   ·simp only[ZG,seval,Bool.false_and,Prod.mk.injEq,Rj,Dg,lD,lE,hK,hs.tree,mS _ _ hs.nn,Ns _ hu hs.nn,Nf s hp hf,hs.tables,TG _ hs.nT TH,decide_true,decide_false,g1,g2,q1,q2,r1,r2,bf g3,bf g4,ke1,ke2,g5,g6,g7,g7,g8];exact⟨_,by apply fM;rfl;all_goals simp only[aH,bY,Z8,seval,hK]<;>rfl,by rw[if_pos (show jZ s v J F by simp only[jZ,g1,g2,g3,g4,g5,g6,g7,g8,not_true_eq_false,not_false_eq_true,true_or,or_true])]⟩
   by_cases g9:wH s s.now<J.aE
   ·simp only[ZG,seval,Bool.false_and,Prod.mk.injEq,Rj,Dg,lD,lE,hK,hs.tree,mS _ _ hs.nn,Ns _ hu hs.nn,Nf s hp hf,hs.tables,TG _ hs.nT TH,decide_true,decide_false,g1,g2,q1,q2,r1,r2,bf g3,bf g4,ke1,ke2,g5,g6,g7,g7,g8,g9];exact⟨_,by apply fM;rfl;all_goals simp only[aH,bY,Z8,seval,hK]<;>rfl,by rw[if_pos (show jZ s v J F by simp only[jZ,g1,g2,g3,g4,g5,g6,g7,g8,g9,not_true_eq_false,not_false_eq_true,true_or,or_true])]⟩
   by_cases S6:Jn (ol v.T) J<0
   ·simp only[ZG,seval,Bool.false_and,Prod.mk.injEq,Rj,Dg,lD,lE,hK,hs.tree,mS _ _ hs.nn,Ns _ hu hs.nn,Nf s hp hf,hs.tables,TG _ hs.nT TH,decide_true,decide_false,g1,g2,q1,q2,r1,r2,bf g3,bf g4,ke1,ke2,g5,g6,g7,g7,g8,g9,S6];exact⟨_,by apply fM;rfl;all_goals simp only[aH,bY,Z8,seval,hK]<;>rfl,by rw[if_pos (show jZ s v J F by simp only[jZ,g1,g2,g3,g4,g5,g6,g7,g8,g9,S6,not_true_eq_false,not_false_eq_true,true_or,or_true])]⟩
   simp only[ZG,seval,Bool.false_and,Prod.mk.injEq,Rj,Dg,lD,lE,hK,hs.tree,mS _ _ hs.nn,Ns _ hu hs.nn,Nf s hp hf,hs.tables,TG _ hs.nT TH,decide_true,decide_false,g1,g2,q1,q2,r1,r2,bf g3,bf g4,ke1,ke2,g5,g6,g7,g7,g8,g9,S6];exact⟨_,by apply fM;rfl;all_goals simp only[aH,bY,Z8,seval,hK]<;>rfl,by rw[if_neg (show ¬jZ s v J F by simp only[jZ,g1,g2,g3,g4,g5,g6,g7,g8,g9,S6,not_true_eq_false,not_false_eq_true,or_self,Bool.true_eq_false])]⟩
theorem k59 {s:aL} {v:SV} (hs:SD s v) (hu:gL v.ns) (hp:s.cFg.jL≠0) (c1 c2:dP) (st:St) (d:Option Nat):aM (aB Tryz.prog) 59 [.agg (aA s),.agg (aW c1),.agg (aW c2)] st d=some { dst:=d,val:=Ke s v c1 c2 }:=bC (lM hs.flat (.agg _ (bM c1)) (.agg _ (bM c2))) (c59 hs hu hp c1 c2) (by unfold Ke;split<;>exact .eG _ (lM (.agg _ (bM _)) (.agg _ (bM _)) (.v _)))
end Go.Ab.Tryz
end
namespace Go.Ab.Tryz
open Classical Go.Proofs Go.Ab
theorem bP (st:St) (s g:Nat):cS st (.own s g)=jG (st.heap s g):=by
 unfold cS jG;rw[if_neg (nA s g)];cases h:st.heap s g with
 | none=>simp only[h]
 | some e=>cases e<;>simp only[h]
theorem SD.fl {s:aL} {v:SV} (h:SD s v):Flat s.cFg.iP∧Flat s.gK.eB∧Flat s.gK.gW∧Flat s.cF.early∧Flat s.cF.bN∧Flat s.tree.nodes∧Flat s.tables:=(wT s).1 h.flat
noncomputable def Dh (s:aL) (v:SV) (c1 c2:dP):SV :=
 if jZ s v (rP s c1) (tW s c2) then v else
 if tW s c2=s.aU.fin then { v with T:=nz (sA (ol v.T) (rP s c1).aE)} else
 { v with T:=nz (sA (ol v.T) (rP s c1).aE),ns:=(jW v.ns (aN v.ns (tW s c2).root) v.ns.length).1,O:=nz ((ol v.O).filter fun b=>decide ((sH s (tW s c2).aE).1<b.slot))}
noncomputable def vB (s:aL) (v:SV) (c1 c2:dP):aL :=
 if jZ s v (rP s c1) (tW s c2) then s else
 if tW s c2=s.aU.fin then { s with aU:=⟨rP s c1,tW s c2⟩,tables:=ov aI (nz (sA (ol v.T) (rP s c1).aE))} else
 { s with aU:=⟨rP s c1,tW s c2⟩,tables:=ov aI (nz (sA (ol v.T) (rP s c1).aE)),
          tree:=⟨.sl (jW v.ns (aN v.ns (tW s c2).root) v.ns.length).1.length (bZ (jW v.ns (aN v.ns (tW s c2).root) v.ns.length).1)⟩,
          eW:=if aN (jW v.ns (aN v.ns (tW s c2).root) v.ns.length).1 s.eW<0 then dV else s.eW,
          cF:={ s.cF with bN:=ov aG (nz ((ol v.O).filter fun b=>decide ((sH s (tW s c2).aE).1<b.slot)))} }
theorem Ya {ns:List Node} (i:Int):(jW ns i ns.length).1.length≤ns.length:=Jl ns i ns.length
theorem SD.dS {s:aL} {v:SV} (h:SD s v) (hu:gL v.ns) (c1 c2:dP):SD (vB s v c1 c2) (Dh s v c1 c2):=by
 have hT:((ol (nz (sA (ol v.T) (rP s c1).aE))).length:Int)<1000000:=by rw[nF];have:=List.length_filter_le (fun t:Table=>decide ((rP s c1).aE≤t.ck.aE)) (ol v.T);have:=h.nT;unfold sA;omega
 have hB:∀t∈ol (nz (sA (ol v.T) (rP s c1).aE)),qN t:=by rw[nF];exact fun t m=>h.tB t (List.mem_filter.1 m).1
 unfold vB Dh;split
 ·exact h
 split
 ·exact⟨h.iP,h.eB,h.gW,h.early,h.bN,h.tree,rfl,h.eV,hB,h.nB,h.nL,h.nQ,h.nE,h.nO,hT,h.nn⟩
 ·refine⟨h.iP,h.eB,h.gW,h.early,rfl,rfl,rfl,h.eV,hB,h.nB,h.nL,h.nQ,h.nE, ?_,hT, ?_⟩
  ·rw[nF];have:=List.length_filter_le (fun b:Block=>decide ((sH s (tW s c2).aE).1<b.slot)) (ol v.O);have:=h.nO;omega
  ·have:=Ya (ns:=v.ns) (aN v.ns (tW s c2).root);have:=h.nn;show ((jW v.ns (aN v.ns (tW s c2).root) v.ns.length).1.length:Int)<1000000;omega
theorem c61 {s:aL} {v:SV} (hs:SD s v) (hu:gL v.ns) (hp:s.cFg.jL≠0) (c1 c2:dP):aB Tryz.prog 61 [.agg (aA s),.agg (aW c1),.agg (aW c2)]=some (.agg (aA (vB s v c1 c2))):=by
 have hf:=hs.flat
 have hn:=hs.nO
 have pJ:=hs.fl
 have Kf:=k59 hs hu hp c1 c2
 rw[cG Tryz.func61 rfl aQP (by kernel_rfl) rfl]
 refine gX ?_
 by_cases b1:jZ s v (rP s c1) (tW s c2)
 ·have hv:vB s v c1 c2=s:=if_pos b1
  have hc:Ke s v c1 c2=.eG [.agg (aW fV),.agg (aW fV),.v (.bool false)]:=if_pos b1
  rw[hc] at Kf
  simp only[ZG,seval,Bool.false_and,Prod.mk.injEq,tA,Kf,dE];exact⟨_,fJ rfl (by simp only[E8,seval,hf]<;>rfl) (by simp only[Z8,seval,hf]<;>rfl) (by simp only[dU,and_self,hf]),by rw[hv]⟩
 have hc:Ke s v c1 c2=.eG [.agg (aW (rP s c1)),.agg (aW (tW s c2)),.v (.bool true)]:=if_neg b1
 rw[hc] at Kf
 have hv:vB s v c1 c2=_:=if_neg b1
 generalize hJ:rP s c1=J at *
 generalize hF:tW s c2=F at *
 have ZS:=eQ v.ns F.root
 have hF0:0≤aN v.ns F.root:=by rcases Int.lt_or_le (aN v.ns F.root) 0 with h|h;exact absurd (.inr (.inl h)) b1;exact h
 have aCN:=aQC v.T hs.nT (fun t m=>(hs.tB t m).fl) J.aE
 have kp:=k34 v.ns hu hs.nn (aN v.ns F.root) ⟨hF0,ZS.2⟩
 by_cases e1:sA (ol v.T) J.aE=[]
 ·have hz:(nz (sA (ol v.T) J.aE))=none:=if_pos e1
  rw[show Oe 118 34 aI (sA (ol v.T) J.aE)=.v (.slice none 0 0) from if_pos e1] at aCN;have Yb:=kx aCN (bE hs.fT (.v _)) (.v _)
  by_cases e2:F=s.aU.fin
  ·rw[if_pos e2,hz] at hv;subst e2;simp only[ZG,seval,Bool.false_and,Prod.mk.injEq,tA,Kf,dE,hs.tables,Yb,decide_true,decide_false];exact⟨_,fJ rfl (by simp only[E8,seval,hf,pJ,and_self]<;>rfl) (by simp only[Z8,seval,hf,pJ,and_self]<;>rfl) (by simp only[dU,and_self,hf,pJ,and_self]),by rw[hv];rfl⟩
  rw[if_neg e2,hz] at hv;obtain⟨Yc,en⟩:∃Yc,(jW v.ns (aN v.ns F.root) v.ns.length).1=Yc:=⟨_,rfl⟩
  have Gk:(Yc.length:Int)<1000000:=by have:=Ya (ns:=v.ns) (aN v.ns F.root);have:=hs.nn;rw[← en];omega
  unfold D1 at kp;rw[en] at kp hv;obtain⟨x,ex⟩:∃x,(Nu F.aE s.cFg.jL).1=x:=⟨_,rfl⟩
  rw[show (sH s F.aE).1=x from ex] at hv;by_cases e3:aN Yc s.eW<0
  ·rw[if_pos e3] at hv;obtain⟨S1,eS⟩:∃S1:aL,S1={ cFg:=s.cFg,gK:=s.gK,aU:=⟨J,F⟩,cF:=s.cF,tree:=⟨.sl Yc.length (bZ Yc)⟩,now:=s.now,eW:=dV,tables:=.v (.slice none 0 0)}:=⟨_,rfl⟩
   have hS:Flat (.agg (aA S1)):=by rw[eS];simp only[dU,pJ,and_self]
   have Yd:=fun st d=>Wa S1 hS F.aE st d
   simp only[sH,eS,ex] at Yd
   simp only[ZG,seval,Bool.false_and,Prod.mk.injEq,tA,Kf,dE,hs.tables,Yb,decide_true,decide_false,e2,hs.tree,mS _ _ hs.nn,kp,mS _ _ Gk,e3,Yd,hs.bN];have HM:S1.cF.bN=ov aG v.O:=by rw[eS];exact hs.bN
   refine jH (fun m st=>∃k:Nat,(st.env 3=.ptr 3 0 0∧st.heap 3 0=some (.cells (aA S1))∧st.env 6=.ptr 6 0 0∧st.heap 6 0=some (.cells (aA gA))∧st.env 11=.v (.int .u64 x)∧st.env 14=.v (.int .i64 k))∧(((((ol v.O).take k).filter (fun b=>decide (x<b.slot)))=[]∧st.env 13=.v (.slice none 0 0))∨((((ol v.O).take k).filter (fun b=>decide (x<b.slot)))≠[]∧∃g,st.env 13=.own 99 g∧g<st.aT 99∧st.heap 99 g=some (.row 74 238 (((ol v.O).take k).filter (fun b=>decide (x<b.slot))).length (aG (((ol v.O).take k).filter (fun b=>decide (x<b.slot)))))))∧k≤(ol v.O).length∧m=(ol v.O).length-k)
    (fun e st=>e=.exit 0∧(((((ol v.O).take (ol v.O).length).filter (fun b=>decide (x<b.slot)))=[]∧st.env 13=.v (.slice none 0 0))∨((((ol v.O).take (ol v.O).length).filter (fun b=>decide (x<b.slot)))≠[]∧∃g,st.env 13=.own 99 g∧g<st.aT 99∧st.heap 99 g=some (.row 74 238 (((ol v.O).take (ol v.O).length).filter (fun b=>decide (x<b.slot))).length (aG (((ol v.O).take (ol v.O).length).filter (fun b=>decide (x<b.slot)))))))∧st.env 3=.ptr 3 0 0∧st.heap 3 0=some (.cells (aA S1))∧st.env 6=.ptr 6 0 0∧st.heap 6 0=some (.cells (aA gA))∧st.env 11=.v (.int .u64 x)) ((ol v.O).length) ?step ?start ?rest
   case step =>
    rintro m st ⟨k,hI,h5,hk,hm⟩
    have Gx:(((((ol v.O).take k).filter (fun b=>decide (x<b.slot))).length:Nat):Int)<1000000:=by have:=List.length_filter_le (fun b=>decide (x<b.slot)) ((ol v.O).take k);have h2:=List.length_take_le' k (ol v.O);omega
    by_cases aY:(k:Int)<(ol v.O).length
    ·have q0:(0:Int)≤k:=by omega
     have hw:IntKind.i64.wrap ((k:Int)+1)=((k+1:Nat):Int):=by rw[mT _ (by omega) (by omega)];omega
     have hs:=yV eA (fun b=>decide (x<b.slot)) (ol v.O) k (by omega)
     by_cases hh:x<(gx eA (ol v.O) (k:Int)).slot
     ·rw[if_pos (decide_eq_true hh)] at hs;rcases h5 with ⟨hy,h5⟩|⟨hy,g,h5⟩
      ·rw[hy] at hs;apply Au ((ol v.O).length-(k+1))
       ·simp only[ZG,seval,Bool.false_and,Prod.mk.injEq,hI,h5,aY,hw,q0,tA,HM,hh];rfl
       ·exact⟨k+1,by simp only[E8,seval,hI],.inr ⟨by rw[hs];simp,_,by simp only[E8,seval]<;>rfl,(by simp only[E8,seval]<;>omega),(by rw[hs];simp only[E8,seval]<;>rfl)⟩,by omega,rfl⟩
      ·apply Au ((ol v.O).length-(k+1))
       ·simp only[ZG,seval,Bool.false_and,Prod.mk.injEq,hI,h5,Gx,aY,hw,q0,tA,HM,hh];rfl
       ·exact⟨k+1,by simp only[E8,seval,hI],.inr ⟨by rw[hs];simp,_,by simp only[E8,seval]<;>rfl,(by simp only[E8,seval]<;>omega),(by rw[hs];simp only[E8,seval]<;>rfl)⟩,by omega,rfl⟩
     ·rw[if_neg (by simpa using hh),List.append_nil] at hs
      apply Au ((ol v.O).length-(k+1))
      ·simp only[ZG,seval,Bool.false_and,Prod.mk.injEq,hI,aY,hw,q0,tA,HM,hh];rfl
      ·exact⟨k+1,by simp only[E8,seval,hI],by rw[hs];simpa only[E8,seval] using h5,by omega,rfl⟩
    ·have Aq:k=(ol v.O).length:=by omega
     rw[Aq] at h5;apply BZ (.exit 0)
     ·simp only[ZG,seval,Bool.false_and,Prod.mk.injEq,hI,aY,tA,HM];rfl
     ·exact⟨rfl,by simpa only[E8,seval] using h5,by simp only[E8,seval,hI]⟩
   case start=>exact⟨0,by simp only[E8,seval,eS]<;>rfl,.inl ⟨rfl,by simp only[E8,seval]⟩,by omega,by omega⟩
   case rest =>
    rintro e st ⟨rfl,⟨hy,h5⟩|⟨hy,g,h5,hg,As⟩,hI⟩
    ·rw[List.take_length] at hy;rw[show nz ((ol v.O).filter fun b=>decide (x<b.slot))=none from if_pos hy] at hv
     rw[eS] at hI;simp only[ZG,seval,Bool.false_and,Prod.mk.injEq,tA,h5,hI];exact⟨_,fJ rfl (by simp only[E8,seval,hI,pJ,and_self]<;>rfl) (by simp only[Z8,seval,hI,pJ,and_self]<;>rfl) (by simp only[dU,and_self,hI,pJ,and_self]),by rw[hv];rfl⟩
    ·rw[List.take_length] at hy As;rw[show nz ((ol v.O).filter fun b=>decide (x<b.slot))=some ((ol v.O).filter fun b=>decide (x<b.slot)) from if_neg hy] at hv
     rw[eS] at hI;simp only[ZG,seval,Bool.false_and,Prod.mk.injEq,tA,h5,As,hI];exact⟨_,by apply eH;rfl;all_goals simp only[aH,Z8,seval,hI,As,pJ,bS,gJ,bP,cW,uM,dU]<;>rfl,by rw[hv];rfl⟩
  rw[if_neg e3] at hv;obtain⟨S1,eS⟩:∃S1:aL,S1={ cFg:=s.cFg,gK:=s.gK,aU:=⟨J,F⟩,cF:=s.cF,tree:=⟨.sl Yc.length (bZ Yc)⟩,now:=s.now,eW:=s.eW,tables:=.v (.slice none 0 0)}:=⟨_,rfl⟩
  have hS:Flat (.agg (aA S1)):=by rw[eS];simp only[dU,pJ,and_self]
  have Yd:=fun st d=>Wa S1 hS F.aE st d
  simp only[sH,eS,ex] at Yd
  simp only[ZG,seval,Bool.false_and,Prod.mk.injEq,tA,Kf,dE,hs.tables,Yb,decide_true,decide_false,e2,hs.tree,mS _ _ hs.nn,kp,mS _ _ Gk,e3,Yd,hs.bN];have HM:S1.cF.bN=ov aG v.O:=by rw[eS];exact hs.bN
  refine jH (fun m st=>∃k:Nat,(st.env 3=.ptr 3 0 0∧st.heap 3 0=some (.cells (aA S1))∧st.env 6=.ptr 6 0 0∧st.heap 6 0=some (.cells (aA gA))∧st.env 11=.v (.int .u64 x)∧st.env 14=.v (.int .i64 k))∧(((((ol v.O).take k).filter (fun b=>decide (x<b.slot)))=[]∧st.env 13=.v (.slice none 0 0))∨((((ol v.O).take k).filter (fun b=>decide (x<b.slot)))≠[]∧∃g,st.env 13=.own 99 g∧g<st.aT 99∧st.heap 99 g=some (.row 74 238 (((ol v.O).take k).filter (fun b=>decide (x<b.slot))).length (aG (((ol v.O).take k).filter (fun b=>decide (x<b.slot)))))))∧k≤(ol v.O).length∧m=(ol v.O).length-k)
   (fun e st=>e=.exit 0∧(((((ol v.O).take (ol v.O).length).filter (fun b=>decide (x<b.slot)))=[]∧st.env 13=.v (.slice none 0 0))∨((((ol v.O).take (ol v.O).length).filter (fun b=>decide (x<b.slot)))≠[]∧∃g,st.env 13=.own 99 g∧g<st.aT 99∧st.heap 99 g=some (.row 74 238 (((ol v.O).take (ol v.O).length).filter (fun b=>decide (x<b.slot))).length (aG (((ol v.O).take (ol v.O).length).filter (fun b=>decide (x<b.slot)))))))∧st.env 3=.ptr 3 0 0∧st.heap 3 0=some (.cells (aA S1))∧st.env 6=.ptr 6 0 0∧st.heap 6 0=some (.cells (aA gA))∧st.env 11=.v (.int .u64 x)) ((ol v.O).length) ?step ?start ?rest
  case step =>
   rintro m st ⟨k,hI,h5,hk,hm⟩
   have Gx:(((((ol v.O).take k).filter (fun b=>decide (x<b.slot))).length:Nat):Int)<1000000:=by have:=List.length_filter_le (fun b=>decide (x<b.slot)) ((ol v.O).take k);have h2:=List.length_take_le' k (ol v.O);omega
   by_cases aY:(k:Int)<(ol v.O).length
   ·have q0:(0:Int)≤k:=by omega
    have hw:IntKind.i64.wrap ((k:Int)+1)=((k+1:Nat):Int):=by rw[mT _ (by omega) (by omega)];omega
    have hs:=yV eA (fun b=>decide (x<b.slot)) (ol v.O) k (by omega)
    by_cases hh:x<(gx eA (ol v.O) (k:Int)).slot
    ·rw[if_pos (decide_eq_true hh)] at hs;rcases h5 with ⟨hy,h5⟩|⟨hy,g,h5⟩
     ·rw[hy] at hs;apply Au ((ol v.O).length-(k+1))
      ·simp only[ZG,seval,Bool.false_and,Prod.mk.injEq,hI,h5,aY,hw,q0,tA,HM,hh];rfl
      ·exact⟨k+1,by simp only[E8,seval,hI],.inr ⟨by rw[hs];simp,_,by simp only[E8,seval]<;>rfl,(by simp only[E8,seval]<;>omega),(by rw[hs];simp only[E8,seval]<;>rfl)⟩,by omega,rfl⟩
     ·apply Au ((ol v.O).length-(k+1))
      ·simp only[ZG,seval,Bool.false_and,Prod.mk.injEq,hI,h5,Gx,aY,hw,q0,tA,HM,hh];rfl
      ·exact⟨k+1,by simp only[E8,seval,hI],.inr ⟨by rw[hs];simp,_,by simp only[E8,seval]<;>rfl,(by simp only[E8,seval]<;>omega),(by rw[hs];simp only[E8,seval]<;>rfl)⟩,by omega,rfl⟩
    ·rw[if_neg (by simpa using hh),List.append_nil] at hs
     apply Au ((ol v.O).length-(k+1))
     ·simp only[ZG,seval,Bool.false_and,Prod.mk.injEq,hI,aY,hw,q0,tA,HM,hh];rfl
     ·exact⟨k+1,by simp only[E8,seval,hI],by rw[hs];simpa only[E8,seval] using h5,by omega,rfl⟩
   ·have Aq:k=(ol v.O).length:=by omega
    rw[Aq] at h5;apply BZ (.exit 0)
    ·simp only[ZG,seval,Bool.false_and,Prod.mk.injEq,hI,aY,tA,HM];rfl
    ·exact⟨rfl,by simpa only[E8,seval] using h5,by simp only[E8,seval,hI]⟩
  case start=>exact⟨0,by simp only[E8,seval,eS]<;>rfl,.inl ⟨rfl,by simp only[E8,seval]⟩,by omega,by omega⟩
  case rest =>
   rintro e st ⟨rfl,⟨hy,h5⟩|⟨hy,g,h5,hg,As⟩,hI⟩
   ·rw[List.take_length] at hy;rw[show nz ((ol v.O).filter fun b=>decide (x<b.slot))=none from if_pos hy] at hv
    rw[eS] at hI;simp only[ZG,seval,Bool.false_and,Prod.mk.injEq,tA,h5,hI];exact⟨_,fJ rfl (by simp only[E8,seval,hI,pJ,and_self]<;>rfl) (by simp only[Z8,seval,hI,pJ,and_self]<;>rfl) (by simp only[dU,and_self,hI,pJ,and_self]),by rw[hv];rfl⟩
   ·rw[List.take_length] at hy As;rw[show nz ((ol v.O).filter fun b=>decide (x<b.slot))=some ((ol v.O).filter fun b=>decide (x<b.slot)) from if_neg hy] at hv
    rw[eS] at hI;simp only[ZG,seval,Bool.false_and,Prod.mk.injEq,tA,h5,As,hI];exact⟨_,by apply eH;rfl;all_goals simp only[aH,Z8,seval,hI,As,pJ,bS,gJ,bP,cW,uM,dU]<;>rfl,by rw[hv];rfl⟩
 ·have hz:(nz (sA (ol v.T) J.aE))=some (sA (ol v.T) J.aE):=if_neg e1
  rw[show Oe 118 34 aI (sA (ol v.T) J.aE)=.uniq 118 34 (sA (ol v.T) J.aE).length (aI (sA (ol v.T) J.aE)) from if_neg e1] at aCN;have Yb:∀(st:St),aM (aB Tryz.prog) 128 [ov aI v.T,.v (.int .u64 J.aE)] st (some 30)=_:=fun st=>jF (st:=st) (d:=30) (bE hs.fT (.v _)) aCN
  have TK:∀t∈sA (ol v.T) J.aE,Flat t.iP:=fun t m=>(hs.tB t (List.mem_filter.1 m).1).fl
  have hex:=Og (sA (ol v.T) J.aE).length (sA (ol v.T) J.aE) TK
  by_cases e2:F=s.aU.fin
  ·rw[if_pos e2,hz] at hv;subst e2;simp only[ZG,seval,Bool.false_and,Prod.mk.injEq,tA,Kf,dE,hs.tables,Yb,decide_true,decide_false];exact⟨_,by apply eH;rfl;all_goals simp only[aH,Z8,seval,pJ,bS,gJ,bP,cW,hex]<;>rfl,by rw[hv];rfl⟩
  rw[if_neg e2,hz] at hv;obtain⟨Yc,en⟩:∃Yc,(jW v.ns (aN v.ns F.root) v.ns.length).1=Yc:=⟨_,rfl⟩
  have Gk:(Yc.length:Int)<1000000:=by have:=Ya (ns:=v.ns) (aN v.ns F.root);have:=hs.nn;rw[← en];omega
  unfold D1 at kp;rw[en] at kp hv;obtain⟨x,ex⟩:∃x,(Nu F.aE s.cFg.jL).1=x:=⟨_,rfl⟩
  rw[show (sH s F.aE).1=x from ex] at hv;by_cases e3:aN Yc s.eW<0
  ·rw[if_pos e3] at hv;obtain⟨S1,eS⟩:∃S1:aL,S1={ cFg:=s.cFg,gK:=s.gK,aU:=⟨J,F⟩,cF:=s.cF,tree:=⟨.sl Yc.length (bZ Yc)⟩,now:=s.now,eW:=dV,tables:=.own 30 0 }:=⟨_,rfl⟩
   have hS:∀st:St,st.heap 30 0=some (.row 118 34 (sA (ol v.T) J.aE).length (aI (sA (ol v.T) J.aE)))→fO st (.agg (aA S1))=some (.agg (aA { S1 with tables:=.sl (sA (ol v.T) J.aE).length (aI (sA (ol v.T) J.aE))})):=by
    intro st h;rw[eS];simp only[bS,gJ,bP,h,hex,cW,dU,pJ,cO]
   have Yd:∀(st:St) (d:Option Nat),st.heap 30 0=some (.row 118 34 (sA (ol v.T) J.aE).length (aI (sA (ol v.T) J.aE)))→aM (aB Tryz.prog) 99 [.agg (aA S1),.v (.int .u64 F.aE)] st d=some { dst:=d,val:=.eG [.v (.int .u64 (sH S1 F.aE).1),.v (.bool ((sH S1 F.aE).2 == 0))]}:=by
    intro st d h;rw[jU,List.map_cons,List.map_cons,List.map_nil,hS st h,Lu,bO,bO,fR];exact D7 (c99 _ F.aE) (by intro x hx;simp only[List.mem_cons,List.not_mem_nil,or_false] at hx;rcases hx with rfl|rfl<;>exact .v _) (.eG _ (bE (.v _) (.v _)))
   simp only[sH,eS,ex] at Yd
   simp only[ZG,seval,Bool.false_and,Prod.mk.injEq,tA,Kf,dE,hs.tables,Yb,decide_true,decide_false,e2,hs.tree,mS _ _ hs.nn,kp,mS _ _ Gk,e3,Yd,hs.bN];have HM:S1.cF.bN=ov aG v.O:=by rw[eS];exact hs.bN
   refine jH (fun m st=>∃k:Nat,(st.env 3=.ptr 3 0 0∧st.heap 3 0=some (.cells (aA S1))∧st.env 6=.ptr 6 0 0∧st.heap 6 0=some (.cells (aA gA))∧st.env 11=.v (.int .u64 x)∧st.heap 30 0=some (.row 118 34 (sA (ol v.T) J.aE).length (aI (sA (ol v.T) J.aE)))∧st.env 14=.v (.int .i64 k))∧(((((ol v.O).take k).filter (fun b=>decide (x<b.slot)))=[]∧st.env 13=.v (.slice none 0 0))∨((((ol v.O).take k).filter (fun b=>decide (x<b.slot)))≠[]∧∃g,st.env 13=.own 99 g∧g<st.aT 99∧st.heap 99 g=some (.row 74 238 (((ol v.O).take k).filter (fun b=>decide (x<b.slot))).length (aG (((ol v.O).take k).filter (fun b=>decide (x<b.slot)))))))∧k≤(ol v.O).length∧m=(ol v.O).length-k)
    (fun e st=>e=.exit 0∧(((((ol v.O).take (ol v.O).length).filter (fun b=>decide (x<b.slot)))=[]∧st.env 13=.v (.slice none 0 0))∨((((ol v.O).take (ol v.O).length).filter (fun b=>decide (x<b.slot)))≠[]∧∃g,st.env 13=.own 99 g∧g<st.aT 99∧st.heap 99 g=some (.row 74 238 (((ol v.O).take (ol v.O).length).filter (fun b=>decide (x<b.slot))).length (aG (((ol v.O).take (ol v.O).length).filter (fun b=>decide (x<b.slot)))))))∧st.env 3=.ptr 3 0 0∧st.heap 3 0=some (.cells (aA S1))∧st.env 6=.ptr 6 0 0∧st.heap 6 0=some (.cells (aA gA))∧st.env 11=.v (.int .u64 x)∧st.heap 30 0=some (.row 118 34 (sA (ol v.T) J.aE).length (aI (sA (ol v.T) J.aE)))) ((ol v.O).length) ?step ?start ?rest
   case step =>
    rintro m st ⟨k,hI,h5,hk,hm⟩
    have Gx:(((((ol v.O).take k).filter (fun b=>decide (x<b.slot))).length:Nat):Int)<1000000:=by have:=List.length_filter_le (fun b=>decide (x<b.slot)) ((ol v.O).take k);have h2:=List.length_take_le' k (ol v.O);omega
    by_cases aY:(k:Int)<(ol v.O).length
    ·have q0:(0:Int)≤k:=by omega
     have hw:IntKind.i64.wrap ((k:Int)+1)=((k+1:Nat):Int):=by rw[mT _ (by omega) (by omega)];omega
     have hs:=yV eA (fun b=>decide (x<b.slot)) (ol v.O) k (by omega)
     by_cases hh:x<(gx eA (ol v.O) (k:Int)).slot
     ·rw[if_pos (decide_eq_true hh)] at hs;rcases h5 with ⟨hy,h5⟩|⟨hy,g,h5⟩
      ·rw[hy] at hs;apply Au ((ol v.O).length-(k+1))
       ·simp only[ZG,seval,Bool.false_and,Prod.mk.injEq,hI,h5,aY,hw,q0,tA,HM,hh];rfl
       ·exact⟨k+1,by simp only[E8,seval,hI],.inr ⟨by rw[hs];simp,_,by simp only[E8,seval]<;>rfl,(by simp only[E8,seval]<;>omega),(by rw[hs];simp only[E8,seval]<;>rfl)⟩,by omega,rfl⟩
      ·apply Au ((ol v.O).length-(k+1))
       ·simp only[ZG,seval,Bool.false_and,Prod.mk.injEq,hI,h5,Gx,aY,hw,q0,tA,HM,hh];rfl
       ·exact⟨k+1,by simp only[E8,seval,hI],.inr ⟨by rw[hs];simp,_,by simp only[E8,seval]<;>rfl,(by simp only[E8,seval]<;>omega),(by rw[hs];simp only[E8,seval]<;>rfl)⟩,by omega,rfl⟩
     ·rw[if_neg (by simpa using hh),List.append_nil] at hs
      apply Au ((ol v.O).length-(k+1))
      ·simp only[ZG,seval,Bool.false_and,Prod.mk.injEq,hI,aY,hw,q0,tA,HM,hh];rfl
      ·exact⟨k+1,by simp only[E8,seval,hI],by rw[hs];simpa only[E8,seval] using h5,by omega,rfl⟩
    ·have Aq:k=(ol v.O).length:=by omega
     rw[Aq] at h5;apply BZ (.exit 0)
     ·simp only[ZG,seval,Bool.false_and,Prod.mk.injEq,hI,aY,tA,HM];rfl
     ·exact⟨rfl,by simpa only[E8,seval] using h5,by simp only[E8,seval,hI]⟩
   case start=>exact⟨0,by simp only[E8,seval,eS]<;>rfl,.inl ⟨rfl,by simp only[E8,seval]⟩,by omega,by omega⟩
   case rest =>
    rintro e st ⟨rfl,⟨hy,h5⟩|⟨hy,g,h5,hg,As⟩,hI⟩
    ·rw[List.take_length] at hy;rw[show nz ((ol v.O).filter fun b=>decide (x<b.slot))=none from if_pos hy] at hv
     rw[eS] at hI;simp only[ZG,seval,Bool.false_and,Prod.mk.injEq,tA,h5,hI];exact⟨_,by apply eH;rfl;all_goals simp only[aH,Z8,seval,hI,pJ,bS,gJ,bP,cW,uM,dU,hex]<;>rfl,by rw[hv];rfl⟩
    ·rw[List.take_length] at hy As;rw[show nz ((ol v.O).filter fun b=>decide (x<b.slot))=some ((ol v.O).filter fun b=>decide (x<b.slot)) from if_neg hy] at hv
     rw[eS] at hI;simp only[ZG,seval,Bool.false_and,Prod.mk.injEq,tA,h5,As,hI];exact⟨_,by apply eH;rfl;all_goals simp only[aH,Z8,seval,hI,As,pJ,bS,gJ,bP,cW,uM,dU,hex]<;>rfl,by rw[hv];rfl⟩
  rw[if_neg e3] at hv;obtain⟨S1,eS⟩:∃S1:aL,S1={ cFg:=s.cFg,gK:=s.gK,aU:=⟨J,F⟩,cF:=s.cF,tree:=⟨.sl Yc.length (bZ Yc)⟩,now:=s.now,eW:=s.eW,tables:=.own 30 0 }:=⟨_,rfl⟩
  have hS:∀st:St,st.heap 30 0=some (.row 118 34 (sA (ol v.T) J.aE).length (aI (sA (ol v.T) J.aE)))→fO st (.agg (aA S1))=some (.agg (aA { S1 with tables:=.sl (sA (ol v.T) J.aE).length (aI (sA (ol v.T) J.aE))})):=by
   intro st h;rw[eS];simp only[bS,gJ,bP,h,hex,cW,dU,pJ,cO]
  have Yd:∀(st:St) (d:Option Nat),st.heap 30 0=some (.row 118 34 (sA (ol v.T) J.aE).length (aI (sA (ol v.T) J.aE)))→aM (aB Tryz.prog) 99 [.agg (aA S1),.v (.int .u64 F.aE)] st d=some { dst:=d,val:=.eG [.v (.int .u64 (sH S1 F.aE).1),.v (.bool ((sH S1 F.aE).2 == 0))]}:=by
   intro st d h;rw[jU,List.map_cons,List.map_cons,List.map_nil,hS st h,Lu,bO,bO,fR];exact D7 (c99 _ F.aE) (by intro x hx;simp only[List.mem_cons,List.not_mem_nil,or_false] at hx;rcases hx with rfl|rfl<;>exact .v _) (.eG _ (bE (.v _) (.v _)))
  simp only[sH,eS,ex] at Yd
  simp only[ZG,seval,Bool.false_and,Prod.mk.injEq,tA,Kf,dE,hs.tables,Yb,decide_true,decide_false,e2,hs.tree,mS _ _ hs.nn,kp,mS _ _ Gk,e3,Yd,hs.bN];have HM:S1.cF.bN=ov aG v.O:=by rw[eS];exact hs.bN
  refine jH (fun m st=>∃k:Nat,(st.env 3=.ptr 3 0 0∧st.heap 3 0=some (.cells (aA S1))∧st.env 6=.ptr 6 0 0∧st.heap 6 0=some (.cells (aA gA))∧st.env 11=.v (.int .u64 x)∧st.heap 30 0=some (.row 118 34 (sA (ol v.T) J.aE).length (aI (sA (ol v.T) J.aE)))∧st.env 14=.v (.int .i64 k))∧(((((ol v.O).take k).filter (fun b=>decide (x<b.slot)))=[]∧st.env 13=.v (.slice none 0 0))∨((((ol v.O).take k).filter (fun b=>decide (x<b.slot)))≠[]∧∃g,st.env 13=.own 99 g∧g<st.aT 99∧st.heap 99 g=some (.row 74 238 (((ol v.O).take k).filter (fun b=>decide (x<b.slot))).length (aG (((ol v.O).take k).filter (fun b=>decide (x<b.slot)))))))∧k≤(ol v.O).length∧m=(ol v.O).length-k)
   (fun e st=>e=.exit 0∧(((((ol v.O).take (ol v.O).length).filter (fun b=>decide (x<b.slot)))=[]∧st.env 13=.v (.slice none 0 0))∨((((ol v.O).take (ol v.O).length).filter (fun b=>decide (x<b.slot)))≠[]∧∃g,st.env 13=.own 99 g∧g<st.aT 99∧st.heap 99 g=some (.row 74 238 (((ol v.O).take (ol v.O).length).filter (fun b=>decide (x<b.slot))).length (aG (((ol v.O).take (ol v.O).length).filter (fun b=>decide (x<b.slot)))))))∧st.env 3=.ptr 3 0 0∧st.heap 3 0=some (.cells (aA S1))∧st.env 6=.ptr 6 0 0∧st.heap 6 0=some (.cells (aA gA))∧st.env 11=.v (.int .u64 x)∧st.heap 30 0=some (.row 118 34 (sA (ol v.T) J.aE).length (aI (sA (ol v.T) J.aE)))) ((ol v.O).length) ?step ?start ?rest
  case step =>
   rintro m st ⟨k,hI,h5,hk,hm⟩
   have Gx:(((((ol v.O).take k).filter (fun b=>decide (x<b.slot))).length:Nat):Int)<1000000:=by have:=List.length_filter_le (fun b=>decide (x<b.slot)) ((ol v.O).take k);have h2:=List.length_take_le' k (ol v.O);omega
   by_cases aY:(k:Int)<(ol v.O).length
   ·have q0:(0:Int)≤k:=by omega
    have hw:IntKind.i64.wrap ((k:Int)+1)=((k+1:Nat):Int):=by rw[mT _ (by omega) (by omega)];omega
    have hs:=yV eA (fun b=>decide (x<b.slot)) (ol v.O) k (by omega)
    by_cases hh:x<(gx eA (ol v.O) (k:Int)).slot
    ·rw[if_pos (decide_eq_true hh)] at hs;rcases h5 with ⟨hy,h5⟩|⟨hy,g,h5⟩
     ·rw[hy] at hs;apply Au ((ol v.O).length-(k+1))
      ·simp only[ZG,seval,Bool.false_and,Prod.mk.injEq,hI,h5,aY,hw,q0,tA,HM,hh];rfl
      ·exact⟨k+1,by simp only[E8,seval,hI],.inr ⟨by rw[hs];simp,_,by simp only[E8,seval]<;>rfl,(by simp only[E8,seval]<;>omega),(by rw[hs];simp only[E8,seval]<;>rfl)⟩,by omega,rfl⟩
     ·apply Au ((ol v.O).length-(k+1))
      ·simp only[ZG,seval,Bool.false_and,Prod.mk.injEq,hI,h5,Gx,aY,hw,q0,tA,HM,hh];rfl
      ·exact⟨k+1,by simp only[E8,seval,hI],.inr ⟨by rw[hs];simp,_,by simp only[E8,seval]<;>rfl,(by simp only[E8,seval]<;>omega),(by rw[hs];simp only[E8,seval]<;>rfl)⟩,by omega,rfl⟩
    ·rw[if_neg (by simpa using hh),List.append_nil] at hs
     apply Au ((ol v.O).length-(k+1))
     ·simp only[ZG,seval,Bool.false_and,Prod.mk.injEq,hI,aY,hw,q0,tA,HM,hh];rfl
     ·exact⟨k+1,by simp only[E8,seval,hI],by rw[hs];simpa only[E8,seval] using h5,by omega,rfl⟩
   ·have Aq:k=(ol v.O).length:=by omega
    rw[Aq] at h5;apply BZ (.exit 0)
    ·simp only[ZG,seval,Bool.false_and,Prod.mk.injEq,hI,aY,tA,HM];rfl
    ·exact⟨rfl,by simpa only[E8,seval] using h5,by simp only[E8,seval,hI]⟩
  case start=>exact⟨0,by simp only[E8,seval,eS]<;>rfl,.inl ⟨rfl,by simp only[E8,seval]⟩,by omega,by omega⟩
  case rest =>
   rintro e st ⟨rfl,⟨hy,h5⟩|⟨hy,g,h5,hg,As⟩,hI⟩
   ·rw[List.take_length] at hy;rw[show nz ((ol v.O).filter fun b=>decide (x<b.slot))=none from if_pos hy] at hv
    rw[eS] at hI;simp only[ZG,seval,Bool.false_and,Prod.mk.injEq,tA,h5,hI];exact⟨_,by apply eH;rfl;all_goals simp only[aH,Z8,seval,hI,pJ,bS,gJ,bP,cW,uM,dU,hex]<;>rfl,by rw[hv];rfl⟩
   ·rw[List.take_length] at hy As;rw[show nz ((ol v.O).filter fun b=>decide (x<b.slot))=some ((ol v.O).filter fun b=>decide (x<b.slot)) from if_neg hy] at hv
    rw[eS] at hI;simp only[ZG,seval,Bool.false_and,Prod.mk.injEq,tA,h5,As,hI];exact⟨_,by apply eH;rfl;all_goals simp only[aH,Z8,seval,hI,As,pJ,bS,gJ,bP,cW,uM,dU,hex]<;>rfl,by rw[hv];rfl⟩
theorem k61 {s:aL} {v:SV} (hs:SD s v) (hu:gL v.ns) (hp:s.cFg.jL≠0) (c1 c2:dP) (st:St) (d:Option Nat):aM (aB Tryz.prog) 61 [.agg (aA s),.agg (aW c1),.agg (aW c2)] st d=some { dst:=d,val:=.agg (aA (vB s v c1 c2))}:=bC (lM hs.flat (.agg _ (bM c1)) (.agg _ (bM c2))) (c61 hs hu hp c1 c2) (hs.dS hu c1 c2).flat
theorem Bm {α:Type} (s g:Nat) (cs:List α→List AV) (o:Option (List α)):fL (.own s g) (ov cs o)=True:=by cases o<;>rfl
theorem Bn {α:Type} (s g:Nat) (cs:List α→List AV) (o:Option (List α)):fL (ov cs o) (.own s g)=True:=by cases o<;>rfl
theorem Ho {α:Type} (s g n:Nat) (cs:List α→List AV) (o:Option (List α)):fL (.ptr s g n) (ov cs o)=True:=by cases o<;>rfl
theorem Hp {α:Type} (s g n:Nat) (cs:List α→List AV) (o:Option (List α)):fL (ov cs o) (.ptr s g n)=True:=by cases o<;>rfl
theorem aLs (t:Table) (b:Option (List Int)) (hb:t.iP=ov bK b) (hl:((ol b).length:Int)<1000000):aB Tryz.prog 158 [.agg (cA t)]=some (.agg (cA ⟨t.ck,ov bK (some (ol b))⟩)):=by
 rw[cL Tryz.func158 rfl aLt rfl];refine gX ?_
 simp only[Z8,seval,hb,Ew _ hl];exact⟨_,by apply eH;rfl;all_goals simp only[aH,Z8,seval,bS,tM,bP,uN]<;>rfl,rfl⟩
def aQQ (o:Option (List Table)) (t':Table) (L:List Table):Prop:=L.length=(ol o).length+1∧(∀x∈L,x∈ol o∨x=t')∧∀x∈ol o,x∈L
theorem aQR (o:Option (List Table)) (hn:((ol o).length:Int)<999999) (hT:∀x∈ol o,Flat x.iP) (t:Table) (b:Option (List Int)) (hb:t.iP=ov bK b) (hl:((ol b).length:Int)<1000000) :
 ∃r,aB Tryz.prog 195 [ov aI o,.agg (cA t)]=some r∧∃L,aQQ o ⟨t.ck,ov bK (some (ol b))⟩ L∧r=.uniq 118 34 L.length (aI L):=by
 have hfT:Flat (.agg (cA t)):=(iG t).2 (by rw[hb];exact dY b)
 have hf2:Flat (.agg (cA ⟨t.ck,ov bK (some (ol b))⟩)):=(iG _).2 (dY (some (ol b)))
 have hto:=fZ o hT
 have aGN:=kx (aLs t b hb hl) (cU hfT) hf2
 rw[cG Tryz.func195 rfl aLv (by kernel_rfl) (by cases o<;>rfl)]
 simp only[ZG,seval,Bool.false_and,Prod.mk.injEq,NB];refine jH (fun m st=>∃k:Nat,(st.env 0=ov aI o∧st.env 3=.ptr 3 0 0∧st.heap 3 0=some (.cells (cA t))∧st.env 5=.v (.int .i64 k))∧k≤(ol o).length∧m=(ol o).length-k)
  (fun e st=>e=.exit 0∧∃k:Nat,(st.env 0=ov aI o∧st.env 3=.ptr 3 0 0∧st.heap 3 0=some (.cells (cA t))∧st.env 5=.v (.int .i64 k))∧k≤(ol o).length) (ol o).length ?step ?start ?rest
 case step =>
  rintro m st ⟨k,hI,hk,hm⟩
  by_cases aY:(k:Int)<(ol o).length
  ·have q0:(0:Int)≤k:=by omega
   have hw:IntKind.i64.wrap ((k:Int)+1)=((k+1:Nat):Int):=by rw[mT _ (by omega) (by omega)];omega
   by_cases h1:aLp (gx dZ (ol o) (k:Int)).ck t.ck<0
   ·apply Au ((ol o).length-(k+1))
    ·simp only[ZG,seval,Bool.false_and,Prod.mk.injEq,NB,hI,aY,q0,aLq,h1,hw];rfl
    ·exact⟨k+1,by simp only[E8,seval,hI],by omega,rfl⟩
   ·apply BZ (.exit 0)
    ·simp only[ZG,seval,Bool.false_and,Prod.mk.injEq,NB,hI,aY,q0,aLq,h1];rfl
    ·exact⟨rfl,k,by simp only[E8,seval,hI],hk⟩
  ·apply BZ (.exit 0)
   ·simp only[ZG,seval,Bool.false_and,Prod.mk.injEq,NB,hI,aY];rfl
   ·exact⟨rfl,k,by simp only[E8,seval,hI],hk⟩
 case start=>exact⟨0,by simp only[E8,seval]<;>rfl,by omega,by omega⟩
 case rest =>
  rintro e st ⟨rfl,k,hI,hk⟩
  have e1:ol (o.map (·.take k))=(ol o).take k:=by cases o<;>simp[ol]
  have e2:ol (o.map (·.drop k))=(ol o).drop k:=by cases o<;>simp[ol]
  have n1:(((ol (o.map (·.take k))).length:Nat):Int)<1000000:=by rw[e1,List.length_take];omega
  have n2:(((ol (o.map (·.drop k))).length:Nat):Int)<1000000:=by rw[e2,List.length_drop];omega
  have n3:(((ol (o.map (·.take k))++[(⟨t.ck,ov bK (some (ol b))⟩:Table)]).length:Nat):Int)<1000000:=by rw[List.length_append,e1,List.length_take];simp;omega
  have q0:(0:Int)≤k:=by omega
  have q1:(k:Int)≤((ol o).length:Int):=by omega
  have hr:∀x∈aI (ol (o.map (·.take k))++[(⟨t.ck,ov bK (some (ol b))⟩:Table)]++ol (o.map (·.drop k))),Flat x:=by
   refine jY _ fun x m=>?_
   rw[e1,e2] at m;rcases List.mem_append.1 m with m|m
   ·rcases List.mem_append.1 m with m|m
    ·exact hT x (List.mem_of_mem_take m)
    ·rw[List.mem_singleton.1 m];exact dY (some (ol b))
   ·exact hT x (List.mem_of_mem_drop m)
  simp only[ZG,seval,Bool.false_and,Prod.mk.injEq,NB,Bm,Bn,and_self,hI,q0,q1,Int.toNat_natCast,aGN,FO _ n1,Rk _ _ _ _ n1,FP _ _ _ _ n3 n2];refine⟨_,tU rfl (by simp only[E8,seval]<;>rfl) (by simp only[E8,seval]<;>rfl) hr,_,⟨?_,fun x m=>?_,fun x m=>?_⟩,rfl⟩
  ·rw[e1,e2,List.length_append,List.length_append,List.length_take,List.length_drop];simp;omega
  ·rw[e1,e2] at m;rcases List.mem_append.1 m with m|m
   ·rcases List.mem_append.1 m with m|m
    ·exact .inl (List.mem_of_mem_take m)
    ·exact .inr (List.mem_singleton.1 m)
   ·exact .inl (List.mem_of_mem_drop m)
  ·rw[e1,e2];rw[← List.take_append_drop k (ol o)] at m;rcases List.mem_append.1 m with m|m
   ·exact List.mem_append_left _ (List.mem_append_left _ m)
   ·exact List.mem_append_right _ m
theorem aQT (o:Option (List Table)) (hn:((ol o).length:Int)<999999) (hT:∀x∈ol o,qN x) (t:Table) (ht:qN t) (n lK:Int) :
 ∃r,aB Tryz.prog 172 [ov aI o,.agg (cA t),.v (.int .i64 n),.v (.int .i64 lK)]=some r∧∃o' e,r=.eG [ov aI o',.v (.int .i64 e)]∧e≠21∧((ol o').length:Int)≤max ((ol o).length:Int) lK∧(∀x∈ol o',qN x)∧(ol o ⊆ ol o')∧(e=0→o'≠some []∧∀x∈ol o',x∈ol o∨∃B,x.iP=ov bK (some B)∧(B.length:Int)=n):=by
 obtain⟨b,hb,hl⟩:=id ht
 have hfT:Flat (.agg (cA t)):=(iG t).2 ht.fl
 have hto:=fZ o fun x m=>(hT x m).fl
 obtain⟨r,hr,e,rfl,he,hlen⟩:=aFo t b hb hl n
 have HN:=kx hr (bE hfT (.v _)) (.v _)
 have Gk:((ol o).length:Int)<1000000:=by omega
 have aGO:=TG o Gk hto
 rw[cL Tryz.func172 rfl aLw (by cases o<;>rfl)]
 by_cases g1:e=0
 case neg =>
  simp only[Z8,seval,HN,bf g1,nG _ _ fun x m=>(hT x m).fl]
  exact⟨_,dN rfl rfl rfl (by simp only[E8,seval,nG _ _ fun x m=>(hT x m).fl]<;>rfl) (by simp only[E8,seval,nG _ _ fun x m=>(hT x m).fl]<;>rfl),o,e,rfl,he,by omega,hT,fun x m=>m,fun h=>absurd h g1⟩
 by_cases g2:0≤Jn (ol o) t.ck
 ·simp only[Z8,seval,HN,bt g1,aGO,g2];exact⟨_,dN rfl rfl rfl (by simp only[E8,seval,nG _ _ fun x m=>(hT x m).fl]<;>rfl) (by simp only[E8,seval,nG _ _ fun x m=>(hT x m).fl]<;>rfl),o,9,rfl,by decide,by omega,hT,fun x m=>m,fun h=>by cases h⟩
 by_cases g3:lK≤((ol o).length:Int)
 ·simp only[Z8,seval,HN,bt g1,aGO,g2,g3];exact⟨_,dN rfl rfl rfl (by simp only[E8,seval,nG _ _ fun x m=>(hT x m).fl]<;>rfl) (by simp only[E8,seval,nG _ _ fun x m=>(hT x m).fl]<;>rfl),o,11,rfl,by decide,by omega,hT,fun x m=>m,fun h=>by cases h⟩
 obtain⟨r2,hr2,L,⟨Tu,hL2,hL3⟩,rfl⟩:=aQR o hn (fun x m=>(hT x m).fl) t b hb hl
 have hTL:∀x∈L,qN x:=fun x m=>(hL2 x m).elim (hT x) fun e=>by rw[e];exact⟨some (ol b),rfl,hl⟩
 have k195:∀(st:St),aM (aB Tryz.prog) 195 [ov aI o,.agg (cA t)] st (some 31)=_:=fun st=>jF (st:=st) (d:=31) (bE hto hfT) hr2
 have hex:=Og L.length L fun x m=>(hTL x m).fl
 simp only[Z8,seval,HN,bt g1,aGO,g2,g3,k195];exact⟨_,dN rfl rfl rfl (by simp only[E8,seval,hex]<;>rfl) (by simp only[E8,seval,hex]<;>rfl),some L,0,rfl,by decide,by show ((L.length:Nat):Int)≤_;omega,hTL,hL3,fun _=>⟨fun e=>by injection e with e;rw[e] at Tu;simp at Tu,fun x m=>(hL2 x m).imp id fun e=>by rw[e];exact⟨ol b,rfl,hlen g1⟩⟩⟩
theorem aLx {s:aL} {v:SV} (hs:SD s v) (hn:((ol v.T).length:Int)<999999) (t:Table) (ht:qN t) :
 ∃r,aB Tryz.prog 117 [.agg (aA s),.agg (cA t)]=some r∧∃s' e,r=.eG [.agg (aA s'),.v (.int .i64 e)]∧Flat (.agg (aA s'))∧e≠21∧(e=0→∃o',s'={ s with tables:=ov aI o' }∧((ol o').length:Int)≤max ((ol v.T).length:Int) s.cFg.lK.qF∧(∀x∈ol o',qN x)∧(ol v.T ⊆ ol o')∧o'≠some []∧∀x∈ol o',x∈ol v.T∨∃B,x.iP=ov bK (some B)∧(B.length:Int)=(ol v.B).length):=by
 have hf:=hs.flat
 have pJ:=hs.fl
 have hfT:Flat (.agg (cA t)):=(iG t).2 ht.fl
 have hz:Flat (.agg (aA gA)):=by simp only[dU,gA,mQ,Lv,Ey,Rl,and_self]
 obtain⟨r,hr,e,rfl,he⟩:=aQH t ht (ol v.B).length
 have HN:=kx hr (bE hfT (.v _)) (.v _)
 obtain⟨r2,hr2,o',e2,rfl,he2,Uu,hT2,hsub,hne2⟩:=aQT v.T hn hs.tB t ht (ol v.B).length s.cFg.lK.qF
 have hf2:Flat (ov aI o'):=fZ o' fun x m=>(hT2 x m).fl
 have k172:=kx hr2 (by simp only[List.mem_cons,List.not_mem_nil,or_false,forall_eq_or_imp,forall_eq,aGE,and_true];exact⟨hs.fT,hfT⟩) (.eG _ (bE hf2 (.v _)))
 rw[cL Tryz.func117 rfl aLy rfl];by_cases g1:e=0
 case neg =>
  simp only[Z8,seval,Xv hs,HN,bf g1];exact⟨_,by apply dN;rfl;all_goals simp only[aH,bY,Z8,seval,hz]<;>rfl,gA,e,rfl,hz,he,fun h=>absurd h g1⟩
 by_cases g2:t.ck.aE<s.aU.gD.aE
 ·simp only[Z8,seval,Xv hs,HN,bt g1,g2];exact⟨_,by apply dN;rfl;all_goals simp only[aH,bY,Z8,seval,hz]<;>rfl,gA,13,rfl,hz,by decide,fun h=>by cases h⟩
 by_cases g3:e2=0
 case neg =>
  simp only[Z8,seval,Xv hs,HN,bt g1,g2,hs.tables,k172,dE,bf g3];exact⟨_,by apply dN;rfl;all_goals simp only[aH,bY,Z8,seval,hz]<;>rfl,gA,e2,rfl,hz,he2,fun h=>absurd h g3⟩
 ·have hf3:Flat (.agg (aA { s with tables:=ov aI o' })):=by simp only[dU,pJ,hf2,and_self]
  simp only[Z8,seval,Xv hs,HN,bt g1,g2,hs.tables,k172,dE,bt g3];exact⟨_,by apply dN;rfl;all_goals simp only[aH,bY,Z8,seval,hf3]<;>rfl,_,0,rfl,hf3,by decide,fun _=>⟨o',rfl,Uu,hT2,hsub,hne2 g3⟩⟩
noncomputable def CL (v:SV):Int:=uL (fun k=>0≤aN v.ns (gx eA (ol v.O) k).parent) (ol v.O).length
theorem aLz {s:aL} {v:SV} (hs:SD s v):aB Tryz.prog 218 [.agg (aA s)]=some (.v (.int .i64 (CL v))):=by
 have hn:=hs.nO
 rw[cL Tryz.func218 rfl aLA rfl];refine gX ?_
 simp only[Z8,seval,hs.bN];refine cC (fun m st=>∃k:Nat,(st.env 1=.ptr 1 0 0∧st.heap 1 0=some (.cells (aA s))∧st.env 3=.v (.int .i64 k))∧(∀j:Nat,j<k→¬(0≤aN v.ns (gx eA (ol v.O) (j:Int)).parent))∧k≤(ol v.O).length∧m=(ol v.O).length-k)
  (fun e st=>(e=.ret∧∃k:Nat,k<(ol v.O).length∧(0≤aN v.ns (gx eA (ol v.O) (k:Int)).parent)∧(∀j:Nat,j<k→¬(0≤aN v.ns (gx eA (ol v.O) (j:Int)).parent))∧st.env 2=.v (.int .i64 (k:Nat)))∨(e=.exit 0∧(∀j:Nat,j<(ol v.O).length→¬(0≤aN v.ns (gx eA (ol v.O) (j:Int)).parent))∧st.env 1=.ptr 1 0 0∧st.heap 1 0=some (.cells (aA s)))) ((ol v.O).length) ?step ?start ?rest
 case step =>
  rintro m st ⟨k,hI,hj,hk,hm⟩
  by_cases aY:(k:Int)<(ol v.O).length
  ·have q0:(0:Int)≤k:=by omega
   have hw:IntKind.i64.wrap ((k:Int)+1)=((k+1:Nat):Int):=by rw[mT _ (by omega) (by omega)];omega
   by_cases hh:0≤aN v.ns (gx eA (ol v.O) (k:Int)).parent
   ·apply oT (.ret)
    ·simp only[Z8,seval,hI,aY,q0,hs.bN,hs.tree,mS _ _ hs.nn,hh];rfl
    ·exact .inl ⟨rfl,k,by omega,hh,hj,by simp only[E8,seval,hs.bN,hs.tree,mS _ _ hs.nn]⟩
   ·apply oN ((ol v.O).length-(k+1))
    ·simp only[Z8,seval,hI,aY,q0,hs.bN,hs.tree,mS _ _ hs.nn,hh,hw];rfl
    ·exact⟨k+1,by simp only[E8,seval,hI],fun j h=>(Nat.lt_succ_iff_lt_or_eq.1 h).elim (hj j) fun e=>by subst e;exact hh,by omega,rfl⟩
  ·apply oT (.exit 0)
   ·simp only[Z8,seval,hI,aY,hs.bN,hs.tree,mS _ _ hs.nn];rfl
   ·exact .inr ⟨rfl,fun j h=>hj j (by omega),by simp only[E8,seval,hI]⟩
 case start=>exact⟨0,by simp only[E8,seval]<;>rfl,fun j h=>by omega,by omega,by omega⟩
 case rest =>
  rintro e st (⟨rfl,k,hk,hh,hj,h⟩|⟨rfl,hj,hI⟩)
  ·have hv:CL v=k:=Bk hh hj _ hk
   simp only[Z8,seval];exact⟨_,bQ rfl (by simp only[E8,seval,h]<;>rfl) (by first|exact .v _|simp only[dU,h]),by rw[hv]⟩
  ·have hv:CL v=-1:=tL _ hj
   simp only[Z8,seval];exact⟨_,bQ rfl (by simp only[E8,seval]<;>rfl) (by first|exact .v _|simp only[dU]),by rw[hv]⟩
theorem NC {s:aL} {v:SV} (hs:SD s v) (st:St) (d:Option Nat):aM (aB Tryz.prog) 218 [.agg (aA s)] st d=some { dst:=d,val:=.v (.int .i64 (CL v))}:=bC (cU hs.flat) (aLz hs) (.v _)
noncomputable def FQ (e:Int) (r:cN) (a:List kO × Int) (x:Int):List kO × Int :=
 if (gx tN a.1 x).has=false∨(gx tN a.1 x).aE<e then (a.1.set x.toNat ⟨true,e,r⟩,IntKind.i64.wrap (a.2+1)) else a
noncomputable def uO (L:List kO) (e:Int) (r:cN) (V:List Int):List kO × Int:=V.foldl (FQ e r) (L,0)
theorem F1 (e:Int) (r:cN) (a:List kO × Int) (x:Int):(FQ e r a x).1.length=a.1.length:=by unfold FQ;split<;>simp
theorem Rm (L:List kO) (e:Int) (r:cN) (V:List Int):(uO L e r V).1.length=L.length:=by
 unfold uO;suffices h:∀(V:List Int) (a:List kO × Int),(V.foldl (FQ e r) a).1.length=a.1.length from h V _
 intro V;induction V with
 | nil=>intro a;rfl
 | cons x V ih=>intro a;rw[List.foldl_cons,ih,F1]
theorem UX (L:List kO) (e:Int) (r:cN) (V:List Int) (k:Nat) (h:k<V.length):uO L e r (V.take (k+1))=FQ e r (uO L e r (V.take k)) (gx (0:Int) V k):=by
 unfold uO;rw[List.take_succ_eq_append_getElem h,List.foldl_append];simp[gx,h]
theorem aQU (o:Option (List kO)) (hn:((ol o).length:Int)<1000000) (e:Int) (r:cN) (V:Option (List Int)) (hV:((ol V).length:Int)<1000000) (hr:∀x∈ol V,0≤x∧x<(ol o).length) :
 aB Tryz.prog 110 [ov dD o,.v (.int .u64 e),.agg (bF r),ov aK V]=some (.eG [.sl (ol o).length (dD (uO (ol o) e r (ol V)).1),.v (.int .i64 (uO (ol o) e r (ol V)).2)]):=by
 rw[cL Tryz.func110 rfl aLB (by cases o<;>cases V<;>rfl)]
 refine gX ?_
 simp only[Z8,seval,ND _ hn];refine cC (fun m st=>∃(k:Nat) (l:List kO) (c:Int),(st.env 1=.v (.int .u64 e)∧st.env 6=.ptr 6 0 0∧st.heap 6 0=some (.cells (bF r))∧st.env 3=ov aK V∧st.env 10=.own 15 0∧st.heap 15 0=some (.row 100 34 l.length (dD l))∧st.env 11=.v (.int .i64 c)∧st.env 12=.v (.int .i64 k))∧uO (ol o) e r ((ol V).take k)=(l,c)∧l.length=(ol o).length∧k≤(ol V).length∧m=(ol V).length-k)
  (fun ex st=>ex=.exit 0∧∃(l:List kO) (c:Int),(st.env 10=.own 15 0∧st.heap 15 0=some (.row 100 34 l.length (dD l))∧st.env 11=.v (.int .i64 c))∧uO (ol o) e r (ol V)=(l,c)∧l.length=(ol o).length) (ol V).length ?step ?start ?rest
 case step =>
  rintro m st ⟨k,l,c,hI,hc,hl,hk,hm⟩
  by_cases aY:(k:Int)<(ol V).length
  ·have q0:(0:Int)≤k:=by omega
   have hw:IntKind.i64.wrap ((k:Int)+1)=((k+1:Nat):Int):=by rw[mT _ (by omega) (by omega)];omega
   have rY:=UX (ol o) e r (ol V) k (by omega)
   rw[hc] at rY;unfold FQ at rY;have hx:=hr _ (oO (z:=(0:Int)) q0 aY)
   obtain⟨x,ex⟩:∃x,gx (0:Int) (ol V) (k:Int)=x:=⟨_,rfl⟩
   rw[ex] at hx rY;have x0:0≤x:=hx.1
   have x1:x<(l.length:Int):=by rw[hl];exact hx.2
   have x2:x.toNat<l.length:=by omega
   have x3:x.toNat * 34+34≤l.length * 34:=by omega
   have ld:=l9 (T:=100) (n:=l.length) (k:=34) x0 x1 aFu (by decide) (by decide)
   by_cases h1:(gx tN l x).has=true
   ·by_cases h2:(gx tN l x).aE<e
    ·rw[if_pos (.inr h2)] at rY;apply oN ((ol V).length-(k+1))
     ·simp only[Z8,seval,hI,aY,q0,ex,x0,x1,x2,x3,ld,h1,h2,HO _ _ _ x2,hw];rfl
     ·exact⟨k+1,_,_,by simp only[E8,seval,hI,List.length_set]<;>exact⟨rfl,rfl⟩,rY,by rw[List.length_set,hl],by omega,rfl⟩
    ·rw[if_neg (by simp only[h1,h2,Bool.true_eq_false,or_self,not_false_eq_true])] at rY
     apply oN ((ol V).length-(k+1))
     ·simp only[Z8,seval,hI,aY,q0,ex,x0,x1,x2,x3,ld,h1,h2,hw];rfl
     ·exact⟨k+1,l,c,by simp only[E8,seval,hI],rY,hl,by omega,rfl⟩
   ·have ER:(gx tN l x).has=false:=by simpa using h1
    rw[if_pos (.inl ER)] at rY;apply oN ((ol V).length-(k+1))
    ·simp only[Z8,seval,hI,aY,q0,ex,x0,x1,x2,x3,ld,ER,HO _ _ _ x2,hw];rfl
    ·exact⟨k+1,_,_,by simp only[E8,seval,hI,List.length_set]<;>exact⟨rfl,rfl⟩,rY,by rw[List.length_set,hl],by omega,rfl⟩
  ·have Aq:k=(ol V).length:=by omega
   rw[Aq,List.take_length] at hc;apply oT (.exit 0)
   ·simp only[Z8,seval,hI,aY];rfl
   ·exact⟨rfl,l,c,by simp only[E8,seval,hI],hc,hl⟩
 case start=>exact⟨0,ol o,0,by simp only[E8,seval]<;>rfl,rfl,rfl,by omega,by omega⟩
 case rest =>
  rintro ex st ⟨rfl,l,c,hI,hc,hl⟩
  rw[hc];simp only[Z8,seval,hI];exact⟨_,dN rfl rfl rfl (by simp only[E8,seval,hI,Wc]<;>rfl) (by simp only[E8,seval,hI,Wc]<;>rfl),by rw[hl]⟩
theorem aLC (o:Option (List kO)) (hn:((ol o).length:Int)<1000000) (e:Int) (r:cN) (V:Option (List Int)) (hV:((ol V).length:Int)<1000000) (hr:∀x∈ol V,0≤x∧x<(ol o).length) (st:St) (d:Option Nat) :
 aM (aB Tryz.prog) 110 [ov dD o,.v (.int .u64 e),.agg (bF r),ov aK V] st d=some { dst:=d,val:=.eG [.sl (ol o).length (dD (uO (ol o) e r (ol V)).1),.v (.int .i64 (uO (ol o) e r (ol V)).2)]} :=
 bC (by simp only[List.mem_cons,List.not_mem_nil,or_false,forall_eq_or_imp,forall_eq,dU,and_self,and_true,true_and]) (aQU o hn e r V hV hr) (.eG _ (bE (.sl _ _ (nD _)) (.v _)))
noncomputable def Rn (s:aL) (v:SV) (a:sG) (V:List Int):aL:={ s with gK:={ s.gK with eB:=ov dD (some (uO (ol v.L) a.target.aE a.root V).1)} }
theorem c44 {s:aL} {v:SV} (hs:SD s v) (a:sG) (V:Option (List Int)) (ha:a.eZ=ov aK V) (hV:((ol V).length:Int)<1000000) (hr:∀x∈ol V,0≤x∧x<(ol v.L).length) :
 aB Tryz.prog 44 [.agg (aA s),.agg (iD a)]=some (.agg (aA (Rn s v a (ol V)))):=by
 have pJ:=hs.fl
 rw[cL Tryz.func44 rfl aQV rfl];refine gX ?_
 simp only[Z8,seval,hs.eB,ha,aLC v.L hs.nL _ _ V hV hr,dE];exact⟨_,fJ rfl (by simp only[E8,seval,pJ,and_self]<;>rfl) (by simp only[Z8,seval,pJ,and_self]<;>rfl) (by simp only[dU,and_self,pJ,and_self]),by unfold Rn;simp only[ov,Rm]⟩
theorem Ye (ns:List Node) (r:cN) (h:0≤aN ns r):(nd ns (aN ns r)).block.root=r:=by
 unfold aN at h ⊢
 cases hf:ns.findIdx? (fun n=>decide (n.block.root=r)) with
 | none=>rw[hf] at h;simp only at h;omega
 | some k =>
   obtain⟨hk,hp,_⟩:=List.findIdx?_eq_some_iff_getElem.1 hf
   simp only
   have:nd ns (k:Int)=ns[k]:=by simp[nd,hk]
   rw[this];exact of_decide_eq_true hp
theorem Oh {ns:List Node} {r:cN} {j:Int} (h0:0≤j) (h1:j<ns.length) (hr:(nd ns j).block.root=r):0≤aN ns r:=by
 unfold aN;cases hf:ns.findIdx? (fun n=>decide (n.block.root=r)) with
 | none =>
   obtain⟨hj,e⟩:=Lr h0 h1
   have:=List.findIdx?_eq_none_iff.1 hf ns[j.toNat] (List.getElem_mem hj)
   rw[← e] at this;simp[hr] at this
 | some k=>simp only;omega
structure GI (s:aL) (v:SV) (q:Int):Prop where
 sd:SD s v
 up:gL v.ns
 Xi:(nd v.ns 0).up=-1
 pos:0<v.ns.length
 nl:(v.ns.length:Int)≤s.cFg.lK.sM
 UY:s.cFg.lK.sM≤4096
 jL:1≤s.cFg.jL∧s.cFg.jL≤64
 NF:(ol v.L).length=(ol v.B).length
 nB:((ol v.B).length:Int)≤1024
 nO:((ol v.O).length:Int)≤s.cFg.lK.wU
 NG:s.cFg.lK.wU≤64
 nE:((ol v.E).length:Int)≤s.cFg.lK.qG
 TL:s.cFg.lK.qG≤256
 nT:((ol v.T).length:Int)≤s.cFg.lK.qF
 TM:s.cFg.lK.qF≤64
 nQ:((ol v.Q).length:Int)≤q
 S7:q≤900000
 gD:0≤aN v.ns s.aU.gD.root
theorem GI.sp {s:aL} {v:SV} {q:Int} (h:GI s v q):s.cFg.jL≠0:=by have:=h.jL.1;omega
theorem wV (s:aL) (v:SV) (c1 c2:dP):(vB s v c1 c2).cFg=s.cFg:=by unfold vB;split;rfl;split<;>rfl
theorem Oi (s:aL) (v:SV) (c1 c2:dP):(vB s v c1 c2).now=s.now:=by unfold vB;split;rfl;split<;>rfl
theorem GI.dS {s:aL} {v:SV} {q:Int} (h:GI s v q) (c1 c2:dP):GI (vB s v c1 c2) (Dh s v c1 c2) q:=by
 have hsd:=h.sd.dS h.up c1 c2
 by_cases b:jZ s v (rP s c1) (tW s c2)
 ·rw[show vB s v c1 c2=s from if_pos b,show Dh s v c1 c2=v from if_pos b];exact h
 have hJ:0≤aN v.ns (rP s c1).root:=by rcases Int.lt_or_le (aN v.ns (rP s c1).root) 0 with g|g;exact absurd (.inl g) b;exact g
 have hF:0≤aN v.ns (tW s c2).root:=by rcases Int.lt_or_le (aN v.ns (tW s c2).root) 0 with g|g;exact absurd (.inr (.inl g)) b;exact g
 have hA:tV v.ns (aN v.ns (tW s c2).root) (aN v.ns (rP s c1).root)=true:=by
  cases g:tV v.ns (aN v.ns (tW s c2).root) (aN v.ns (rP s c1).root)
  ·exact absurd (.inr (.inr (.inr (.inr (.inr (.inr (.inl g))))))) b
  ·rfl
 have hT:((ol (nz (sA (ol v.T) (rP s c1).aE))).length:Int)≤s.cFg.lK.qF:=by
  rw[nF];have:=List.length_filter_le (fun t:Table=>decide ((rP s c1).aE≤t.ck.aE)) (ol v.T);have:=h.nT;unfold sA;omega
 by_cases e:tW s c2=s.aU.fin
 ·have hS:vB s v c1 c2=_:=(if_neg b).trans (if_pos e)
  have hW:Dh s v c1 c2=_:=(if_neg b).trans (if_pos e)
  rw[hS,hW] at hsd ⊢;exact⟨hsd,h.up,h.Xi,h.pos,h.nl,h.UY,h.jL,h.NF,h.nB,h.nO,h.NG,h.nE,h.TL,hT,h.TM,h.nQ,h.S7,hJ⟩
 ·have hS:vB s v c1 c2=_:=(if_neg b).trans (if_neg e)
  have hW:Dh s v c1 c2=_:=(if_neg b).trans (if_neg e)
  rw[hS,hW] at hsd ⊢;have rF:=eQ v.ns (tW s c2).root
  have rJ:=eQ v.ns (rP s c1).root
  have Tp:=Nx h.up hF rF.2
  have h1:=MI h.up Tp
  have h2:=MI h.up hA
  have hz:=ZP h.up Tp
  have hlen:=Ya (ns:=v.ns) (aN v.ns (tW s c2).root)
  have TN:=h.nl
  refine⟨hsd,aCC h.up Tp, ?_, ?_, ?_,h.UY,h.jL,h.NF,h.nB, ?_,h.NG,h.nE,h.TL,hT,h.TM,h.nQ,h.S7, ?_⟩
  ·rw[hz] at h1;show (nd (jW v.ns (aN v.ns (tW s c2).root) v.ns.length).1 0).up=-1
   rw[h1.2.2,if_pos rfl]
  ·have:=h1.2.1;have:=h1.1
   show 0<(jW v.ns (aN v.ns (tW s c2).root) v.ns.length).1.length
   omega
  ·show (((jW v.ns (aN v.ns (tW s c2).root) v.ns.length).1.length:Nat):Int)≤s.cFg.lK.sM
   omega
  ·show ((ol (nz _)).length:Int)≤s.cFg.lK.wU
   rw[nF];have:=List.length_filter_le (fun b:Block=>decide ((sH s (tW s c2).aE).1<b.slot)) (ol v.O);have:=h.nO;omega
  ·refine Oh h2.1 h2.2.1 ?_
   rw[h2.2.2];exact Ye _ _ hJ
noncomputable def Di (v:SV) (b:Block):List Node:=v.ns++[⟨b,aN v.ns b.parent,Uv b⟩]
noncomputable def Ro (s:aL) (v:SV) (b:Block):aL:={ s with tree:=⟨.sl (Di v b).length (bZ (Di v b))⟩}
noncomputable def Oj (v:SV) (b:Block):SV:={ v with ns:=Di v b }
noncomputable def S8 (s:aL) (v:SV) (b:Block):aL:=vB (Ro s v b) (Oj v b) b.gD b.fin
noncomputable def S9 (s:aL) (v:SV) (b:Block):SV:=Dh (Ro s v b) (Oj v b) b.gD b.fin
noncomputable def tC (s:aL) (v:SV) (b:Block):aL:=if wH s b.slot<wH s s.now then vB (S8 s v b) (S9 s v b) b.cV.pj b.cV.pf else S8 s v b
noncomputable def lL (s:aL) (v:SV) (b:Block):SV:=if wH s b.slot<wH s s.now then Dh (S8 s v b) (S9 s v b) b.cV.pj b.cV.pf else S9 s v b
theorem F2 (b:Block):UC (Uv b)=true:=by unfold Uv;split<;>rfl
theorem n5 {s:aL} {v:SV} {q:Int} (h:GI s v q) {b:Block} (hb:Ku s v b=0):CE v.ns b (Uv b)=0∧(v.ns.length:Int)<s.cFg.lK.sM∧0≤aN v.ns b.parent:=by
 unfold Ku at hb;by_cases g1:b.root=dV
 ·rw[if_pos g1] at hb;omega
 rw[if_neg g1] at hb;by_cases g2:KnB v b.root
 ·rw[if_pos g2] at hb;omega
 rw[if_neg g2] at hb;by_cases g3:s.now<b.slot
 ·rw[if_pos g3] at hb;omega
 rw[if_neg g3] at hb;by_cases g4:b.slot≤(sH s s.aU.fin.aE).1
 ·rw[if_pos g4] at hb;omega
 rw[if_neg g4] at hb;by_cases g5:aN v.ns b.parent<0
 ·rw[if_pos g5] at hb;omega
 rw[if_neg g5] at hb;by_cases g6:b.slot≤(nd v.ns (aN v.ns b.parent)).block.slot
 ·rw[if_pos g6] at hb;omega
 rw[if_neg g6] at hb;by_cases g7:(nd v.ns (aN v.ns b.parent)).status=2
 ·rw[if_pos g7] at hb;omega
 rw[if_neg g7] at hb;by_cases g8:¬Lt s v b
 ·rw[if_pos g8] at hb;omega
 rw[if_neg g8] at hb;by_cases g9:¬E9 s.cFg.CI (nd v.ns (aN v.ns b.parent)).block b
 ·rw[if_pos g9] at hb;omega
 rw[if_neg g9] at hb;by_cases S6:s.cFg.lK.sM≤(v.ns.length:Int)
 ·rw[if_pos S6] at hb;omega
 have:=h.UY
 refine⟨?_,by omega,by omega⟩
 unfold CE;rw[F2,if_neg (by simp),if_neg (fun h=>g2 (.inr h)),if_neg g5,if_neg g6,if_neg (by omega)]
theorem GI.Ro {s:aL} {v:SV} {q:Int} (h:GI s v q) {b:Block} (hb:(v.ns.length:Int)<s.cFg.lK.sM) (hp:0≤aN v.ns b.parent):GI (Ro s v b) (Oj v b) q:=by
 have hlen:(Di v b).length=v.ns.length+1:=by unfold Di;simp
 have hnB:=h.UY
 have hsd:SD (Tryz.Ro s v b) (Oj v b):=⟨h.sd.iP,h.sd.eB,h.sd.gW,h.sd.early,h.sd.bN,rfl,h.sd.tables,h.sd.eV,h.sd.tB,h.sd.nB,h.sd.nL,h.sd.nQ,h.sd.nE,h.sd.nO,h.sd.nT,by show ((Di v b).length:Int)<1000000;omega⟩
 have rp:=eQ v.ns b.parent
 refine⟨hsd,fun i h0 h1=>?_, ?_, ?_, ?_,h.UY,h.jL,h.NF,h.nB,h.nO,h.NG,h.nE,h.TL,h.nT,h.TM,h.nQ,h.S7, ?_⟩
 ·have h1:i<((Di v b).length:Int):=h1
  show 0≤(nd (Di v b) i).up∧(nd (Di v b) i).up<i
  by_cases hi:i<(v.ns.length:Int)
  ·unfold Di;rw[Jm (by omega) hi];exact h.up i h0 hi
  ·unfold Di;rw[EW (by omega)];exact⟨hp,by show aN v.ns b.parent<i;omega⟩
 ·show (nd (Di v b) 0).up=-1
  unfold Di;rw[Jm (by omega) (by have:=h.pos;omega)];exact h.Xi
 ·show 0<(Di v b).length;omega
 ·show ((Di v b).length:Int)≤s.cFg.lK.sM;omega
 ·show 0≤aN (Di v b) s.aU.gD.root
  have rj:=eQ v.ns s.aU.gD.root
  refine Oh h.gD (by omega) ?_
  unfold Di;rw[Jm h.gD rj.2];exact Ye _ _ h.gD
theorem GI.ins {s:aL} {v:SV} {q:Int} (h:GI s v q) {b:Block} (hb:Ku s v b=0):GI (tC s v b) (lL s v b) q:=by
 obtain⟨_,h2,h3⟩:=n5 h hb
 have g1:=h.Ro h2 h3
 have g2:=g1.dS b.gD b.fin
 unfold tC lL;split
 ·exact g2.dS _ _
 ·exact g2
theorem Bo (s:aL) (v:SV) (b:Block):(tC s v b).cFg=s.cFg∧(tC s v b).now=s.now:=by
 unfold tC;split
 ·rw[wV,Oi];unfold S8;rw[wV,Oi];exact⟨rfl,rfl⟩
 ·unfold S8;rw[wV,Oi];exact⟨rfl,rfl⟩
theorem aLD {s:aL} {v:SV} {q:Int} (h:GI s v q) {b:Block} (hb:Ku s v b=0):aB Tryz.prog 217 [.agg (aA s),.agg (aP b)]=some (.agg (aA (tC s v b))):=by
 obtain⟨h1,h2,h3⟩:=n5 h hb
 have g1:=h.Ro h2 h3
 have g2:=g1.dS b.gD b.fin
 have hi:Hg v.ns b (Uv b)=.eG [.agg (cJ ⟨Di v b⟩),.v (.int .i64 0)]:=if_pos h1
 have T3:=aPN v.ns h.sd.nn b (Uv b)
 rw[hi] at T3
 have k61a:=k61 g1.sd g1.up g1.sp b.gD b.fin
 have k61b:=k61 g2.sd g2.up g2.sp b.cV.pj b.cV.pf
 have hcfg:(vB (Tryz.Ro s v b) (Oj v b) b.gD b.fin).cFg.jL=s.cFg.jL:=by rw[wV];rfl
 have UZ:(vB (Tryz.Ro s v b) (Oj v b) b.gD b.fin).now=s.now:=by rw[Oi];rfl
 have hep:∀x,wH (vB (Tryz.Ro s v b) (Oj v b) b.gD b.fin) x=wH s x:=fun x=>by unfold wH;rw[hcfg]
 have k98':=Nf (vB (Tryz.Ro s v b) (Oj v b) b.gD b.fin) g2.sp g2.sd.flat
 have e1:({ cFg:=s.cFg,gK:=s.gK,aU:=s.aU,cF:=s.cF,tree:=⟨.sl (Di v b).length (bZ (Di v b))⟩,now:=s.now,eW:=s.eW,tables:=s.tables }:aL)=Tryz.Ro s v b:=rfl
 rw[cL Tryz.func217 rfl aLE rfl];refine gX ?_
 by_cases c:wH s b.slot<wH s s.now
 ·have hv:tC s v b=_:=if_pos c
  have HP:=(g2.dS b.cV.pj b.cV.pf).sd.flat
  simp only[Z8,seval,h.sd.tree,aLm,T3,dE,e1,k61a,k98',hep,UZ,c,k61b];exact⟨_,fJ rfl (by simp only[E8,seval,HP]<;>rfl) (by simp only[Z8,seval,HP]<;>rfl) (by simp only[dU,and_self,HP]),by rw[hv];rfl⟩
 ·have hv:tC s v b=_:=if_neg c
  have HP:=g2.sd.flat
  simp only[Z8,seval,h.sd.tree,aLm,T3,dE,e1,k61a,k98',hep,UZ,c];exact⟨_,fJ rfl (by simp only[E8,seval,HP]<;>rfl) (by simp only[Z8,seval,HP]<;>rfl) (by simp only[dU,and_self,HP]),by rw[hv];rfl⟩
theorem Rp {L:List Block} {k:Nat} (hk:k≤L.length) (a g:Nat):∃X,(∀(st:St) (hi:Operand),st.ev hi=.v (.int .i64 k)→st.heap a g=some (.row 74 238 L.length (aG L))→dB Tryz.prog st 45 (.own a g) none (some hi)=some X) ∧
 (∀st:St,st.heap a g=some (.row 74 238 L.length (aG L))→aX st X=some ((L.take k).length,aG (L.take k))):=by
 have hl:(L.take k).length=k:=by simp;omega
 by_cases h0:k=0∧L.length=0
 ·obtain⟨rfl,h1⟩:=h0
  refine⟨.sl 0 [],fun st hi he hh=>?_,fun st hh=>by simp[aX,aG]⟩
  simp[dB,nU,hh,he,h1]
 ·refine⟨.vw a g 0 k,fun st hi he hh=>?_,fun st hh=>?_⟩
  ·have:¬((0:Int)=k∧¬((0:Int)=0∧0<L.length)):=by omega
   have h2:(0:Int)≤k∧(k:Int)≤L.length:=by omega
   simp only[dB,nU,hh,he,if_neg this,h2,Int.le_refl,and_self,if_true];simp
   intro h3 h4;rw[h4] at h0;simp at h0
   omega
  ·have hb:k * 238≤(aG L).length:=by rw[pC];exact Nat.mul_le_mul_right _ hk
   have:=wI (c:=aP) (sz:=238) bT L k
   simp only[aX,hh,Nat.zero_add,hb,if_true,List.drop_zero,hl];exact congrArg (fun z=>some (k,z)) this
theorem Dj {L:List Block} {k:Nat} (hk:k≤L.length) (a g:Nat):∃X,(∀(st:St) (lo:Operand),st.ev lo=.v (.int .i64 k)→st.heap a g=some (.row 74 238 L.length (aG L))→dB Tryz.prog st 45 (.own a g) (some lo) none=some X) ∧
 (∀st:St,st.heap a g=some (.row 74 238 L.length (aG L))→aX st X=some ((L.drop k).length,aG (L.drop k))):=by
 have hl:(L.drop k).length=L.length-k:=by simp
 by_cases h0:k=L.length
 ·by_cases hz:0<k
  ·refine⟨.sl 0 [],fun st lo he hh=>?_,fun st hh=>by rw[h0];simp[aX,aG]⟩
   have:(k:Int)=L.length∧¬((k:Int)=0∧0<L.length):=by omega
   have h2:(0:Int)≤k∧(k:Int)≤L.length:=by omega
   simp only[dB,nU,hh,he,if_pos this,h2,Int.le_refl,and_self,if_true]
  ·refine⟨.sl 0 [],fun st lo he hh=>?_,fun st hh=>by rw[h0];simp[aX,aG]⟩
   have:(k:Int)=L.length∧¬((k:Int)=0∧0<L.length):=by omega
   have h2:(0:Int)≤k∧(k:Int)≤L.length:=by omega
   simp only[dB,nU,hh,he,if_pos this,h2,Int.le_refl,and_self,if_true]
 ·refine⟨.vw a g (k * 238) (L.length-k),fun st lo he hh=>?_,fun st hh=>?_⟩
  ·have h1:¬((k:Int)=L.length∧¬((k:Int)=0∧0<L.length)):=by omega
   have h2:((L.length:Int)-(k:Int)).toNat=L.length-k:=by omega
   have h3:(0:Int)≤k∧(k:Int)≤L.length:=by omega
   simp only[dB,nU,hh,he,if_neg h1,h3,Int.le_refl,and_self,if_true,h2,Int.toNat_natCast]
  ·have hb:k * 238+(L.length-k) * 238≤(aG L).length:=by rw[pC,← Nat.add_mul];exact Nat.mul_le_mul_right _ (by omega)
   have:=Bp (c:=aP) (sz:=238) bT L k
   have h3:((aG L).drop (k * 238)).length=(L.length-k) * 238:=by rw[List.length_drop,pC,Nat.sub_mul]
   simp only[aX,hh,hb,if_true,hl];rw[List.take_of_length_le (by omega)]
   exact congrArg (fun z=>some (L.length-k,z)) this
theorem GI.eW {s:aL} {v:SV} {q:Int} (h:GI s v q) (r:cN):GI { s with eW:=r } v q :=
 ⟨⟨h.sd.iP,h.sd.eB,h.sd.gW,h.sd.early,h.sd.bN,h.sd.tree,h.sd.tables,h.sd.eV,h.sd.tB,h.sd.nB,h.sd.nL,h.sd.nQ,h.sd.nE,h.sd.nO,h.sd.nT,h.sd.nn⟩,h.up,h.Xi,h.pos,h.nl,h.UY,h.jL,h.NF,h.nB,h.nO,h.NG,h.nE,h.TL,h.nT,h.TM,h.nQ,h.S7,h.gD⟩
def mU (s:aL) (x:AV):aL:={ s with cF:={ s.cF with bN:=x }}
theorem GI.VA {s:aL} {v:SV} {q:Int} (h:GI s v q) (O:Option (List Block)) (hO:((ol O).length:Int)≤s.cFg.lK.wU):GI (mU s (ov aG O)) { v with O:=O } q :=
 ⟨⟨h.sd.iP,h.sd.eB,h.sd.gW,h.sd.early,rfl,h.sd.tree,h.sd.tables,h.sd.eV,h.sd.tB,h.sd.nB,h.sd.nL,h.sd.nQ,h.sd.nE,by have:=h.NG;show ((ol O).length:Int)<1000000;omega,h.sd.nT,h.sd.nn⟩,h.up,h.Xi,h.pos,h.nl,h.UY,h.jL,h.NF,h.nB,hO,h.NG,h.nE,h.TL,h.nT,h.TM,h.nQ,h.S7,h.gD⟩
theorem VB (s:aL) (v:SV) (c1 c2:dP):(ol (Dh s v c1 c2).O).length≤(ol v.O).length:=by
 unfold Dh;split
 ·exact Nat.le_refl _
 split
 ·exact Nat.le_refl _
 ·show (ol (nz _)).length≤_
  rw[nF];exact List.length_filter_le _ _
theorem VC (s:aL) (v:SV) (b:Block):(ol (lL s v b).O).length≤(ol v.O).length:=by
 unfold lL;split
 ·exact Nat.le_trans (VB _ _ _ _) (VB _ _ _ _)
 ·exact VB _ _ _ _
theorem zU {s:aL} {v:SV} (h:SD s v) {O:List Block} {a g:Nat} (st:St) (hh:st.heap a g=some (.row 74 238 O.length (aG O))):fO st (.agg (aA (mU s (.own a g))))=some (.agg (aA (mU s (ov aG (some O))))):=by
 have pJ:=h.fl
 unfold mU;simp only[bS,gJ,bP,hh,uM,cW,dU,pJ,cO];rfl
def Rg (x:Int):Prop:=0≤x∧x<18446744073709551616
structure RB (b:Block):Prop where
 sl:Rg b.slot
 j:Rg b.gD.aE
 f:Rg b.fin.aE
 pj:Rg b.cV.pj.aE
 pf:Rg b.cV.pf.aE
def Pr (r:cN):Prop:=r≠dV∧r≠mkRoot 99
theorem Yf {α:Type} (l:List α):nz l≠some []:=by
 unfold nz;split
 ·nofun
 ·rename_i h;intro e;injection e with e;exact h e
structure NEv (v:SV):Prop where
 q:v.Q≠some []
 e:v.E≠some []
 o:v.O≠some []
 t:v.T≠some []
 ea:∀a∈ol v.E,∃V,a.eZ=ov aK (some V)∧V≠[]
 tb:∀t∈ol v.T,∃B,t.iP=ov bK (some B)∧B≠[]
structure RG (s:aL) (v:SV):Prop where
 now:0≤s.now∧s.now≤1099511627776
 j:Rg s.aU.gD.aE
 f:Rg s.aU.fin.aE
 nd:∀n∈v.ns,RB n.block∧n.block.slot≤s.now
 or:∀b∈ol v.O,RB b∧Pr b.root
 rt:∀n∈v.ns,Pr n.block.root
 fe:s.aU.fin.aE≤s.aU.gD.aE∧s.aU.gD.aE≤wH s s.now
 ds:(v.ns.map fun n=>n.block.root).Nodup
 tb:∃t∈ol v.T,t.ck=s.aU.gD
 ne:NEv v
theorem Rq {ns:List Node} {i:Int} (h0:0≤i) (h1:i<ns.length):nd ns i∈ns:=by
 obtain⟨h,e⟩:=Lr h0 h1
 rw[e];exact List.getElem_mem h
theorem Wd (ns:List Node) (i:Int):∀k:Nat,k≤ns.length→∀n∈(jW ns i k).1,∃a∈ns,n.block=a.block∧n.status=a.status
 | 0,_,n,hn=>by simp[jW] at hn
 | k+1,hk,n,hn=>by
   unfold jW at hn;simp only at hn
   split at hn
   ·rcases List.mem_append.1 hn with hn|hn
    ·exact Wd ns i k (by omega) n hn
    ·rw[List.mem_singleton] at hn;subst hn;exact⟨nd ns k,Rq (by omega) (by omega),rfl,rfl⟩
   ·exact Wd ns i k (by omega) n hn
theorem n8 (ns:List Node) (i:Int):∀k:Nat,k≤ns.length→((jW ns i k).1.map (·.block)).Sublist ((ns.take k).map (·.block))
 | 0,_=>by simp[jW]
 | k+1,hk=>by
   have ih:=n8 ns i k (by omega)
   have e:ns.take (k+1)=ns.take k++[nd ns k]:=by
    rw[List.take_succ_eq_append_getElem (by omega)]
    have h:k<ns.length:=by omega
    simp[Go.Ab.nd,h]
   unfold jW;simp only
   rw[e,List.map_append];split
   ·rw[List.map_append];exact ih.append (by simp)
   ·exact ih.trans (List.sublist_append_left ..)
theorem F3 {ns:List Node} (h:(ns.map fun n=>n.block.root).Nodup) (i:Int):((jW ns i ns.length).1.map fun n=>n.block.root).Nodup:=by
 have h1:=(n8 ns i ns.length (Nat.le_refl _)).map (·.root)
 rw[List.take_length] at h1;simp only[List.map_map] at h1;exact h.sublist h1
theorem RG.dS {s:aL} {v:SV} (r:RG s v) {c1 c2:dP} (r1:Rg c1.aE) (r2:Rg c2.aE):RG (vB s v c1 c2) (Dh s v c1 c2):=by
 have hJ:Rg (rP s c1).aE:=by unfold rP;split;exact r1;exact r.j
 have hF:Rg (tW s c2).aE:=by unfold tW;split;exact r2;exact r.f
 by_cases b:jZ s v (rP s c1) (tW s c2)
 ·rw[show vB s v c1 c2=s from if_pos b,show Dh s v c1 c2=v from if_pos b];exact r
 have fe:(tW s c2).aE≤(rP s c1).aE∧(rP s c1).aE≤wH s s.now:=by
  unfold jZ at b;simp only[not_or] at b;obtain⟨_,_,_,_,_,_,_,b8,b9,_⟩:=b
  omega
 have tb:∃t∈ol (nz (sA (ol v.T) (rP s c1).aE)),t.ck=rP s c1:=by
  unfold jZ at b;simp only[not_or] at b;obtain⟨_,_,_,_,_,_,_,_,_,b10⟩:=b
  unfold Jn at b10;rcases rD (fun k=>(gx dZ (ol v.T) k).ck=rP s c1) (ol v.T).length with ⟨e,_⟩|⟨k,h1,h2,_,h3⟩
  ·rw[e] at b10;omega
  ·refine⟨gx dZ (ol v.T) k, ?_,h2⟩
   rw[nF];refine List.mem_filter.2 ⟨oO (by omega) (by omega),decide_eq_true ?_⟩
   rw[h2];exact Int.le_refl _
 by_cases e:tW s c2=s.aU.fin
 ·rw[show vB s v c1 c2=_ from (if_neg b).trans (if_pos e),show Dh s v c1 c2=_ from (if_neg b).trans (if_pos e)];exact⟨r.now,hJ,hF,r.nd,r.or,r.rt,fe,r.ds,tb,⟨r.ne.q,r.ne.e,r.ne.o,Yf _,r.ne.ea,fun t ht=>r.ne.tb t (by have ht:t∈ol (nz (sA (ol v.T) (rP s c1).aE)):=ht;rw[nF] at ht;exact (List.mem_filter.1 ht).1)⟩⟩
 ·rw[show vB s v c1 c2=_ from (if_neg b).trans (if_neg e),show Dh s v c1 c2=_ from (if_neg b).trans (if_neg e)];refine⟨r.now,hJ,hF,fun n hn=>?_,fun o ho=>?_,fun n hn=>?_,fe,F3 r.ds _,tb,⟨r.ne.q,r.ne.e,Yf _,Yf _,r.ne.ea,fun t ht=>r.ne.tb t (by have ht:t∈ol (nz (sA (ol v.T) (rP s c1).aE)):=ht;rw[nF] at ht;exact (List.mem_filter.1 ht).1)⟩⟩
  ·obtain⟨a,ha,e1,_⟩:=Wd _ _ _ (Nat.le_refl _) n hn
   rw[e1];exact r.nd a ha
  ·have ho:o∈ol (nz ((ol v.O).filter fun b=>decide ((sH s (tW s c2).aE).1<b.slot))):=ho
   rw[nF] at ho;exact r.or o (List.mem_filter.1 ho).1
  ·obtain⟨a,ha,e1,_⟩:=Wd _ _ _ (Nat.le_refl _) n hn
   rw[e1];exact r.rt a ha
theorem T4 {s:aL} {v:SV} {b:Block} (hb:Ku s v b=0∨Ku s v b=10):b.slot≤s.now:=by
 unfold Ku at hb;by_cases g1:b.root=dV
 ·rw[if_pos g1] at hb;omega
 rw[if_neg g1] at hb;by_cases g2:KnB v b.root
 ·rw[if_pos g2] at hb;omega
 rw[if_neg g2] at hb;by_cases g3:s.now<b.slot
 ·rw[if_pos g3] at hb;omega
 ·omega
theorem aCP {s:aL} {v:SV} {b:Block} (hb:Ku s v b=0):aN v.ns b.root<0:=by
 rcases Int.lt_or_le (aN v.ns b.root) 0 with h|h
 ·exact h
 ·unfold Ku at hb;by_cases g1:b.root=dV
  ·rw[if_pos g1] at hb;omega
  ·rw[if_neg g1,if_pos (.inr h)] at hb;omega
theorem F4 {ns:List Node} {r:cN} (h:aN ns r<0):r ∉ ns.map fun n=>n.block.root:=by
 intro hm;obtain⟨n,hn,e⟩:=List.mem_map.1 hm
 obtain⟨k,hk,rfl⟩:=List.getElem_of_mem hn
 have:0≤aN ns r:=Oh (j:=(k:Int)) (by omega) (by omega) (by
  have:Go.Ab.nd ns (k:Int)=ns[k]:=by simp[Go.Ab.nd,hk]
  rw[this];exact e)
 omega
theorem RG.ins {s:aL} {v:SV} (r:RG s v) {b:Block} (rb:RB b∧Pr b.root) (hc:Ku s v b=0):RG (tC s v b) (lL s v b):=by
 have hs:=T4 (.inl hc)
 have g1:RG (Tryz.Ro s v b) (Oj v b):=⟨r.now,r.j,r.f,fun n hn=>by
  rcases List.mem_append.1 (show n∈v.ns++[⟨b,aN v.ns b.parent,Uv b⟩] from hn) with hn|hn
  ·exact r.nd n hn
  ·rw[List.mem_singleton] at hn;subst hn;exact⟨rb.1,hs⟩,r.or,fun n hn=>by
  rcases List.mem_append.1 (show n∈v.ns++[⟨b,aN v.ns b.parent,Uv b⟩] from hn) with hn|hn
  ·exact r.rt n hn
  ·rw[List.mem_singleton] at hn;subst hn;exact rb.2,r.fe,by
  show ((v.ns++[(⟨b,aN v.ns b.parent,Uv b⟩:Node)]).map fun n:Node=>n.block.root).Nodup
  rw[List.map_append];refine List.nodup_append.2 ⟨r.ds,by simp,fun x hx y hy=>?_⟩
  simp only[List.map_cons,List.map_nil,List.mem_singleton] at hy;rintro rfl
  exact F4 (aCP hc) (hy ▸ hx),r.tb,⟨r.ne.q,r.ne.e,r.ne.o,r.ne.t,r.ne.ea,r.ne.tb⟩⟩
 have g2:=g1.dS rb.1.j rb.1.f
 unfold tC lL;split
 ·exact RG.dS g2 rb.1.pj rb.1.pf
 ·exact g2
theorem RG.VA {s:aL} {v:SV} (r:RG s v) (O:Option (List Block)) (x:AV) (h:∀b∈ol O,RB b∧Pr b.root) (hO:O≠some []):RG (mU s x) { v with O:=O }:=⟨r.now,r.j,r.f,r.nd,h,r.rt,r.fe,r.ds,r.tb,⟨r.ne.q,r.ne.e,hO,r.ne.t,r.ne.ea,r.ne.tb⟩⟩
theorem RG.eW {s:aL} {v:SV} (r:RG s v) (x:cN):RG { s with eW:=x } v:=⟨r.now,r.j,r.f,r.nd,r.or,r.rt,r.fe,r.ds,r.tb,r.ne⟩
theorem GI.mono {s:aL} {v:SV} {q q':Int} (h:GI s v q) (h1:q≤q') (h2:q'≤900000):GI s v q' :=
 ⟨h.sd,h.up,h.Xi,h.pos,h.nl,h.UY,h.jL,h.NF,h.nB,h.nO,h.NG,h.nE,h.TL,h.nT,h.TM,by have:=h.nQ;omega,h2,h.gD⟩
theorem Jo:Flat (.agg (aA gA)):=by simp only[dU,gA,mQ,Lv,Ey,Rl,and_self]
def StR (s:aL) (q:Int) (r:AV):Prop:=∃(s':aL) (e:Int),r=.eG [.agg (aA s'),.v (.int .i64 e)]∧Flat (.agg (aA s'))∧e≠21∧(e=0→∃v',GI s' v' q∧RG s' v'∧s'.cFg=s.cFg)
def StN (s:aL) (v:SV) (q:Int) (r:AV):Prop:=∃(s':aL) (e:Int),r=.eG [.agg (aA s'),.v (.int .i64 e)]∧Flat (.agg (aA s'))∧e≠21∧(e=0→∃v',GI s' v' q∧RG s' v'∧s'.cFg=s.cFg∧v'.ns=v.ns)
theorem aGP (s:aL) (v:SV) (b:Block):Ku s v b≠21:=by
 unfold Ku;repeat (split;simp)
 simp
theorem CM (x:Int) (h1:0≤x) (h2:x<18446744073709551616):IntKind.u64.wrap x=x:=by
 unfold IntKind.wrap;simp[IntKind.signed,IntKind.bits]
 omega
theorem T5 {x:Int} (h0:0≤x) (h1:x<18446744073709551616):IntKind.u64.wrap ((BitVec.ofInt IntKind.u64.bits x &&& BitVec.ofInt IntKind.u64.bits 4294967295).toNat:Int)=x % 4294967296:=by
 obtain⟨n,rfl⟩:=Int.eq_ofNat_of_zero_le h0
 have hn:n<18446744073709551616:=by omega
 have e:(BitVec.ofInt IntKind.u64.bits (n:Int) &&& BitVec.ofInt IntKind.u64.bits 4294967295).toNat=n % 4294967296:=by
  rw[BitVec.toNat_and];have e1:(BitVec.ofInt IntKind.u64.bits (n:Int)).toNat=n:=by
   rw[BitVec.toNat_ofInt];show ((n:Int) % ((2 ^ 64:Nat):Int)).toNat=n
   omega
  have e2:(BitVec.ofInt IntKind.u64.bits 4294967295).toNat=2 ^ 32-1:=by decide
  rw[e1,e2,Nat.and_two_pow_sub_one_eq_mod]
 rw[e,CM _ (by omega) (by omega)]
 omega
theorem NH (x:Int) (h0:0≤x):x.fdiv (2 ^ min 32 IntKind.u64.bits)=x / 4294967296:=by
 have e:(2:Int) ^ min 32 IntKind.u64.bits=4294967296:=by decide
 rw[e,Int.fdiv_eq_ediv_of_nonneg _ (by omega)]
theorem aLF:bI Tryz.f187=true:=by kernel_rfl
theorem aQX {x y:Int} (x0:0≤x) (x1:x<18446744073709551616) (y0:0≤y) (y1:y≤64):aB Tryz.prog 187 [.v (.int .u64 x),.v (.int .u64 y)]=some (.eG [.v (.int .u64 (x * y / 18446744073709551616)),.v (.int .u64 (IntKind.u64.wrap (x * y)))]):=by
 have a1:=T5 x0 x1
 have a2:=T5 y0 (by omega)
 have s1:=NH x x0
 have s2:=NH y y0
 have hy:y % 4294967296=y:=by omega
 have hy1:y / 4294967296=0:=by omega
 rw[hy] at a2;rw[hy1] at s2;obtain⟨p,hp⟩:∃p,p=x % 4294967296:=⟨_,rfl⟩
 obtain⟨r,hr⟩:∃r,r=x / 4294967296:=⟨_,rfl⟩
 have hx:x=r * 4294967296+p:=by omega
 have p0:0≤p∧p<4294967296:=by omega
 have r0:0≤r∧r<4294967296:=by omega
 rw[← hp] at a1;rw[← hr] at s1;have py:0≤p * y∧p * y≤4294967296 * 64:=⟨Int.mul_nonneg p0.1 y0,Int.mul_le_mul (by omega) y1 y0 (by omega)⟩
 have ry:0≤r * y∧r * y≤4294967295 * 64:=⟨Int.mul_nonneg r0.1 y0,Int.mul_le_mul (by omega) y1 y0 (by omega)⟩
 obtain⟨A,hA⟩:∃A,A=p * y:=⟨_,rfl⟩
 obtain⟨B,hB⟩:∃B,B=r * y:=⟨_,rfl⟩
 have hxy:x * y=B * 4294967296+A:=by rw[hx,Int.add_mul,Int.mul_right_comm,← hA,← hB]
 rw[← hA] at py;rw[← hB] at ry;have w1:IntKind.u64.wrap A=A:=CM _ (by omega) (by omega)
 have w2:IntKind.u64.wrap B=B:=CM _ (by omega) (by omega)
 have s3:=NH A (by omega)
 obtain⟨C,hC⟩:∃C,C=B+A / 4294967296:=⟨_,rfl⟩
 have w3:IntKind.u64.wrap (B+A / 4294967296)=C:=by rw[CM _ (by omega) (by omega),hC]
 have a3:=T5 (x:=C) (by omega) (by omega)
 have s4:=NH C (by omega)
 have s5:=NH (C % 4294967296) (by omega)
 have w4:IntKind.u64.wrap (C % 4294967296)=C % 4294967296:=CM _ (by omega) (by omega)
 have w5:IntKind.u64.wrap 0=0:=rfl
 have z5:C % 4294967296 / 4294967296=0:=by omega
 have w6:IntKind.u64.wrap (C / 4294967296)=C / 4294967296:=CM _ (by omega) (by omega)
 have HP:x * y / 18446744073709551616=C / 4294967296:=by rw[hxy,hC];omega
 rw[HP];rw[cL Tryz.func187 rfl aLF rfl];simp only[Z8,seval,a1,a2,s1,s2,← hA,← hB,w1,w2,s3,w3,a3,s4,Int.mul_zero,w5,Int.add_zero,w4,s5,z5,Int.zero_add,w6];exact dN rfl rfl rfl (by simp only[E8,seval]<;>rfl) (by simp only[E8,seval]<;>rfl)
theorem aQY (n:Int):aB Tryz.prog 152 [.v (.int .u64 n)]=some (.v (.bool (decide (1≤n) && decide (n≤64)))):=by
 rw[cL Tryz.func152 rfl aLH rfl];by_cases h:1≤n
 all_goals
  simp only[Z8,seval,h,decide_true,decide_false,Bool.true_and,Bool.false_and];exact bQ rfl (by simp only[E8,seval,h,decide_true,decide_false,Bool.true_and,Bool.false_and]<;>rfl) (.v _)
theorem aGQ (n:Int) (st:St) (d:Option Nat):aM (aB Tryz.prog) 152 [.v (.int .u64 n)] st d=some { dst:=d,val:=.v (.bool (decide (1≤n) && decide (n≤64)))}:=bC (cU (.v _)) (aQY n) (.v _)
theorem c95 {e p:Int} (e0:0≤e) (e1:e<18446744073709551616):aB Tryz.prog 95 [.v (.int .u64 e),.v (.int .u64 p)]=some (.eG [.v (.int .u64 (Nu e p).1),.v (.int .i64 (Nu e p).2)]):=by
 unfold Nu;by_cases h:1≤p∧p≤64
 ·have h1:(decide (1≤p) && decide (p≤64))=true:=by simp[h]
  rw[if_pos h];have k187:=kx (aQX e0 e1 (y:=p) (by omega) h.2) (bE (.v _) (.v _)) (.eG _ (bE (.v _) (.v _)))
  have c153:aB Tryz.prog 153 [.v (.int .u64 e),.v (.int .u64 p)]=some (.eG [.v (.int .u64 (CF e p).1),.v (.int .i64 (CF e p).2)]):=by
   rw[cL Tryz.func153 rfl aLI rfl];have ht:Int.tdiv 18446744073709551615 p=18446744073709551615 / p:=Int.tdiv_eq_ediv_of_nonneg (by omega)
   have hd:(18446744073709551615 / p<e)↔18446744073709551615<e * p:=Int.ediv_lt_iff_lt_mul (by omega)
   have hm:0≤e * p:=Int.mul_nonneg e0 (by omega)
   have hq:=Int.ediv_le_self p (show (0:Int)≤18446744073709551615 by omega)
   have hq0:=Int.ediv_nonneg (show (0:Int)≤18446744073709551615 by omega) (show 0≤p by omega)
   have hw:IntKind.u64.wrap (18446744073709551615 / p)=18446744073709551615 / p:=CM _ hq0 (by omega)
   have hp0:p≠0:=by omega
   unfold CF;rw[ht,hw];by_cases g:e * p / 18446744073709551616=0
   ·rw[if_neg (fun k=>by have:=hd.1 k.2;omega)]
    simp only[Z8,seval,k187,dE,bt g];exact dN rfl rfl rfl (by simp only[E8,seval]<;>rfl) (by simp only[E8,seval]<;>rfl)
   ·rw[if_pos ⟨hp0,hd.2 (by omega)⟩]
    simp only[Z8,seval,k187,dE,bf g];exact dN rfl rfl rfl (by simp only[E8,seval]<;>rfl) (by simp only[E8,seval]<;>rfl)
  have k153:=kx c153 (bE (.v _) (.v _)) (.eG _ (bE (.v _) (.v _)))
  rw[cL Tryz.func95 rfl aLJ rfl];simp only[Z8,seval,aGQ,h1,k153,dE];exact dN rfl rfl rfl (by simp only[E8,seval]<;>rfl) (by simp only[E8,seval]<;>rfl)
 ·have h1:(decide (1≤p) && decide (p≤64))=false:=by
   rw[Bool.eq_false_iff];intro k;simp at k;exact h k
  rw[if_neg h];rw[cL Tryz.func95 rfl aLJ rfl];simp only[Z8,seval,aGQ,h1];exact dN rfl rfl rfl (by simp only[E8,seval]<;>rfl) (by simp only[E8,seval]<;>rfl)
theorem k95 {e p:Int} (h:Rg e) (st:St) (d:Option Nat):aM (aB Tryz.prog) 95 [.v (.int .u64 e),.v (.int .u64 p)] st d=some { dst:=d,val:=.eG [.v (.int .u64 (Nu e p).1),.v (.int .i64 (Nu e p).2)]}:=bC (bE (.v _) (.v _)) (c95 h.1 h.2) (.eG _ (bE (.v _) (.v _)))
theorem c94 {s:aL} (h:1≤s.cFg.jL∧s.cFg.jL≤64) (x:Int):aB Tryz.prog 94 [.v (.int .u64 x),.v (.int .u64 s.cFg.jL)]=some (.eG [.v (.int .u64 (wH s x)),.v (.int .i64 0)]):=by
 have h1:(decide (1≤s.cFg.jL) && decide (s.cFg.jL≤64))=true:=by simp[h]
 have h0:(s.cFg.jL=0)=False:=eq_false (by omega)
 rw[cL Tryz.func94 rfl aQ1 rfl];simp only[Z8,seval,aGQ,h1,h0];exact dN rfl rfl rfl (by simp only[E8,seval,wH]<;>rfl) (by simp only[E8,seval,wH]<;>rfl)
theorem k94 {s:aL} (h:1≤s.cFg.jL∧s.cFg.jL≤64) (x:Int) (st:St) (d:Option Nat):aM (aB Tryz.prog) 94 [.v (.int .u64 x),.v (.int .u64 s.cFg.jL)] st d=some { dst:=d,val:=.eG [.v (.int .u64 (wH s x)),.v (.int .i64 0)]}:=bC (bE (.v _) (.v _)) (c94 h x) (.eG _ (bE (.v _) (.v _)))
theorem aCQ (o:Option (List cN)) (hn:((ol o).length:Int)<1000000) (r:cN):∃x,aB Tryz.prog 250 [ov gZ o,.agg (bF r)]=some x∧∃b:Bool,x=.v (.bool b):=by
 rw[cL Tryz.func250 rfl aLK (by cases o<;>rfl)]
 simp only[Z8,seval];refine cC (fun m st=>∃k:Nat,(st.env 0=ov gZ o∧st.env 3=.ptr 3 0 0∧st.heap 3 0=some (.cells (bF r))∧st.env 5=.v (.int .i64 k))∧(∀j:Nat,j<k→¬(gx dV (ol o) (j:Int)=r))∧k≤(ol o).length∧m=(ol o).length-k)
  (fun e st=>(e=.ret∧∃k:Nat,k<(ol o).length∧(gx dV (ol o) (k:Int)=r)∧(∀j:Nat,j<k→¬(gx dV (ol o) (j:Int)=r))∧st.env 4=.v (.bool true))∨(e=.exit 0∧(∀j:Nat,j<(ol o).length→¬(gx dV (ol o) (j:Int)=r))∧st.env 0=ov gZ o∧st.env 3=.ptr 3 0 0∧st.heap 3 0=some (.cells (bF r)))) ((ol o).length) ?step ?start ?rest
 case step =>
  rintro m st ⟨k,hI,hj,hk,hm⟩
  by_cases aY:(k:Int)<(ol o).length
  ·have q0:(0:Int)≤k:=by omega
   have hw:IntKind.i64.wrap ((k:Int)+1)=((k+1:Nat):Int):=by rw[mT _ (by omega) (by omega)];omega
   by_cases hh:gx dV (ol o) (k:Int)=r
   ·apply oT (.ret)
    ·simp only[Z8,seval,hI,aY,q0,hh];rfl
    ·exact .inl ⟨rfl,k,by omega,hh,hj,by simp only[E8,seval]⟩
   ·apply oN ((ol o).length-(k+1))
    ·simp only[Z8,seval,hI,aY,q0,hh,hw];rfl
    ·exact⟨k+1,by simp only[E8,seval,hI],fun j h=>(Nat.lt_succ_iff_lt_or_eq.1 h).elim (hj j) fun e=>by subst e;exact hh,by omega,rfl⟩
  ·apply oT (.exit 0)
   ·simp only[Z8,seval,hI,aY];rfl
   ·exact .inr ⟨rfl,fun j h=>hj j (by omega),by simp only[E8,seval,hI]⟩
 case start=>exact⟨0,by simp only[E8,seval]<;>rfl,fun j h=>by omega,by omega,by omega⟩
 case rest =>
  rintro e st (⟨rfl,k,hk,hh,hj,h⟩|⟨rfl,hj,hI⟩)
  ·simp only[Z8,seval];exact⟨_,bQ rfl (by simp only[E8,seval,h]<;>rfl) (by first|exact .v _|simp only[dU,h]),_,rfl⟩
  ·simp only[Z8,seval];exact⟨_,bQ rfl (by simp only[E8,seval]<;>rfl) (by first|exact .v _|simp only[dU]),_,rfl⟩
theorem F5 (l:List Table) (c:dP):-1≤Jn l c∧Jn l c<l.length:=UQ _ _
theorem aQ2 {s:aL} {v:SV} (hs:SD s v):∃x,aB Tryz.prog 239 [.agg (aA s)]=some x∧∃o:Option (List Int),x=ov bK o∧((ol o).length:Int)<1000000:=by
 have TH:=hs.fT
 rw[cL Tryz.func239 rfl aLL rfl];have r1:=F5 (ol v.T) s.aU.gD
 by_cases g1:Jn (ol v.T) s.aU.gD<0
 ·simp only[Z8,seval,hs.tables,TG _ hs.nT TH,g1];exact⟨_,bQ rfl (by simp only[E8,seval]<;>rfl) (by first|exact .v _|simp only[dU]),none,rfl,by simp[ol]⟩
 have q0:0≤Jn (ol v.T) s.aU.gD:=by omega
 obtain⟨b,hb,hl⟩:=hs.tB _ (oO (z:=dZ) q0 r1.2)
 simp only[Z8,seval,hs.tables,TG _ hs.nT TH,g1,q0,r1,hb];exact⟨_,bQ rfl (by simp only[E8,seval,hb]<;>rfl) (dY b),b,rfl,hl⟩
theorem aQ3 (a b:Claim) (ha:Flat a.eZ) (hb:Flat b.eZ):∃x,aB Tryz.prog 234 [.agg (gU a),.agg (gU b)]=some x∧∃c:Bool,x=.v (.bool c):=by
 rw[cL Tryz.func234 rfl aLM rfl];by_cases g1:a.target=b.target
 ·by_cases g2:a.source=b.source
  ·by_cases g3:a.root=b.root
   all_goals
    have g4:¬a.source<b.source:=by omega
    have g5:¬b.source<a.source:=by omega
    simp only[Z8,seval,bt g1,bt g2,g3,g4,g5];exact⟨_,bQ rfl (by simp only[E8,seval]<;>rfl) (by first|exact .v _|simp only[dU]),_,rfl⟩
  ·by_cases g4:a.source<b.source
   all_goals
    by_cases g5:b.source<a.source
    all_goals
     by_cases g6:b.target<a.target
     all_goals
      by_cases g7:a.target<b.target
      all_goals
       simp only[Z8,seval,bt g1,bf g2,g4,g5,g6,g7];exact⟨_,bQ rfl (by simp only[E8,seval]<;>rfl) (by first|exact .v _|simp only[dU]),_,rfl⟩
 ·by_cases g4:a.source<b.source
  all_goals
   by_cases g5:b.source<a.source
   all_goals
    by_cases g6:b.target<a.target
    all_goals
     by_cases g7:a.target<b.target
     all_goals
      simp only[Z8,seval,bf g1,g4,g5,g6,g7];exact⟨_,bQ rfl (by simp only[E8,seval]<;>rfl) (by first|exact .v _|simp only[dU]),_,rfl⟩
theorem aQ4 {s:aL} {v:SV} (hs:SD s v):∃x,aB Tryz.prog 209 [.agg (aA s)]=some x∧∃r:cN,x=.agg (bF r):=by
 rw[cL Tryz.func209 rfl aLN rfl];have r1:=eQ v.ns s.aU.gD.root
 by_cases g1:0≤aN v.ns s.aU.gD.root
 ·by_cases g2:(nd v.ns (aN v.ns s.aU.gD.root)).status=1
  ·simp only[Z8,seval,hs.tree,mS _ _ hs.nn,g1,r1,bt g2];exact⟨_,fJ rfl (by simp only[E8,seval]<;>rfl) (by simp only[Z8,seval]<;>rfl) (by simp only[dU,and_self]),_,rfl⟩
  ·simp only[Z8,seval,hs.tree,mS _ _ hs.nn,g1,r1,bf g2];exact⟨_,fJ rfl (by simp only[E8,seval]<;>rfl) (by simp only[Z8,seval]<;>rfl) (by simp only[dU,and_self]),_,rfl⟩
 ·simp only[Z8,seval,hs.tree,mS _ _ hs.nn,g1];exact⟨_,fJ rfl (by simp only[E8,seval]<;>rfl) (by simp only[Z8,seval]<;>rfl) (by simp only[dU,and_self]),_,rfl⟩
theorem aQ5 (c:Config) (hc:Flat c.iP) (x:Int):∃r,aB Tryz.prog 240 [.agg (bW c),.v (.int .u64 x)]=some r∧∃a e:Int,r=.eG [.v (.int .u64 a),.v (.int .i64 e)]:=by
 rw[cL Tryz.func240 rfl aLO rfl];by_cases g1:c.jL<1
 ·simp only[Z8,seval,g1];exact⟨_,dN rfl rfl rfl (by simp only[E8,seval]<;>rfl) (by simp only[E8,seval]<;>rfl),_,_,rfl⟩
 by_cases g2:64<c.jL
 ·simp only[Z8,seval,g1,g2];exact⟨_,dN rfl rfl rfl (by simp only[E8,seval]<;>rfl) (by simp only[E8,seval]<;>rfl),_,_,rfl⟩
 by_cases g3:100<c.Hq
 ·simp only[Z8,seval,g1,g2,g3];exact⟨_,dN rfl rfl rfl (by simp only[E8,seval]<;>rfl) (by simp only[E8,seval]<;>rfl),_,_,rfl⟩
 by_cases g4:4611686018427387904<x
 ·simp only[Z8,seval,g1,g2,g3,g4];exact⟨_,dN rfl rfl rfl (by simp only[E8,seval]<;>rfl) (by simp only[E8,seval]<;>rfl),_,_,rfl⟩
 have g5:(c.jL=0)=False:=eq_false (by omega)
 simp only[Z8,seval,g1,g2,g3,g4,g5];exact⟨_,dN rfl rfl rfl (by simp only[E8,seval]<;>rfl) (by simp only[E8,seval]<;>rfl),_,_,rfl⟩
noncomputable def aGR (o:Option (List cN)) (r:cN):Bool:=if h:((ol o).length:Int)<1000000 then Classical.choose (Classical.choose_spec (aCQ o h r)).2 else false
theorem aQ6 (o:Option (List cN)) (hn:((ol o).length:Int)<1000000) (r:cN) (st:St) (d:Option Nat):aM (aB Tryz.prog) 250 [ov gZ o,.agg (bF r)] st d=some { dst:=d,val:=.v (.bool (aGR o r))}:=by
 have h:=(Classical.choose_spec (aCQ o hn r)).1
 rw[Classical.choose_spec (Classical.choose_spec (aCQ o hn r)).2] at h;rw[show aGR o r=Classical.choose (Classical.choose_spec (aCQ o hn r)).2 from dif_pos hn];exact bC (bE (Hr o) (qU r)) h (.v _)
theorem aQ7 (o:Option (List Int)) (hn:((ol o).length:Int)<999999) (x:Int):∃r,aB Tryz.prog 235 [ov aK o,.v (.int .i64 x)]=some r∧(r=ov aK o∨∃L:List Int,r=.uniq 3 1 L.length (aK L)∧L.length=(ol o).length+1):=by
 rw[cG Tryz.func235 rfl aLP (by kernel_rfl) (by cases o<;>rfl)]
 simp only[ZG,seval,Bool.false_and,Prod.mk.injEq,Yg];refine jH (fun m st=>∃k:Nat,(st.env 0=ov aK o∧st.env 1=.v (.int .i64 x)∧st.env 5=.v (.int .i64 k))∧k≤(ol o).length∧m=(ol o).length-k)
  (fun e st=>e=.exit 0∧∃k:Nat,(st.env 0=ov aK o∧st.env 1=.v (.int .i64 x)∧st.env 5=.v (.int .i64 k))∧k≤(ol o).length) (ol o).length ?step ?start ?rest
 case step =>
  rintro m st ⟨k,hI,hk,hm⟩
  by_cases aY:(k:Int)<(ol o).length
  ·have q0:(0:Int)≤k:=by omega
   have hw:IntKind.i64.wrap ((k:Int)+1)=((k+1:Nat):Int):=by rw[mT _ (by omega) (by omega)];omega
   by_cases h1:gx (0:Int) (ol o) (k:Int)<x
   ·apply Au ((ol o).length-(k+1))
    ·simp only[ZG,seval,Bool.false_and,Prod.mk.injEq,Yg,hI,aY,q0,h1,hw];rfl
    ·exact⟨k+1,by simp only[E8,seval,hI],by omega,rfl⟩
   ·apply BZ (.exit 0)
    ·simp only[ZG,seval,Bool.false_and,Prod.mk.injEq,Yg,hI,aY,q0,h1];rfl
    ·exact⟨rfl,k,by simp only[E8,seval,hI],hk⟩
  ·apply BZ (.exit 0)
   ·simp only[ZG,seval,Bool.false_and,Prod.mk.injEq,Yg,hI,aY];rfl
   ·exact⟨rfl,k,by simp only[E8,seval,hI],hk⟩
 case start=>exact⟨0,by simp only[E8,seval]<;>rfl,by omega,by omega⟩
 case rest =>
  rintro e st ⟨rfl,k,hI,hk⟩
  have e1:ol (o.map (·.take k))=(ol o).take k:=by cases o<;>simp[ol]
  have e2:ol (o.map (·.drop k))=(ol o).drop k:=by cases o<;>simp[ol]
  have n1:((((ol o).take k).length:Nat):Int)<1000000:=by rw[List.length_take];omega
  have n2:((((ol o).drop k).length:Nat):Int)<1000000:=by rw[List.length_drop];omega
  have n3:((((ol o).take k++[x]).length:Nat):Int)<1000000:=by rw[List.length_append,List.length_take];simp;omega
  have q0:(0:Int)≤k:=by omega
  have q1:(k:Int)≤((ol o).length:Int):=by omega
  have go:∃r,some (AV.uniq 3 1 ((ol o).take k++[x]++(ol o).drop k).length (aK ((ol o).take k++[x]++(ol o).drop k)))=some r∧(r=ov aK o∨∃L:List Int,r=.uniq 3 1 L.length (aK L)∧L.length=(ol o).length+1) :=
   ⟨_,rfl,.inr ⟨_,rfl,by simp;omega⟩⟩
  by_cases aY:(k:Int)<(ol o).length
  ·by_cases h2:gx (0:Int) (ol o) (k:Int)=x
   ·simp only[ZG,seval,Bool.false_and,Prod.mk.injEq,Yg,hI,aY,q0,bt h2];exact⟨_,bQ rfl (by simp only[E8,seval,hI]<;>rfl) (bX o),.inl rfl⟩
   ·simp only[ZG,seval,Bool.false_and,Prod.mk.injEq,Yg,Bm,Bn,and_self,hI,aY,q0,q1,bf h2,Int.toNat_natCast,e1,e2,Ok _ n1,Ez _ _ _ _ n1,HQ _ _ _ _ n3 n2];refine⟨_,tU rfl (by simp only[E8,seval]<;>rfl) (by simp only[E8,seval]<;>rfl) (gI _),.inr ⟨_,rfl,by simp;omega⟩⟩
  ·simp only[ZG,seval,Bool.false_and,Prod.mk.injEq,Yg,Bm,Bn,and_self,hI,aY,q0,q1,Int.toNat_natCast,e1,e2,Ok _ n1,Ez _ _ _ _ n1,HQ _ _ _ _ n3 n2];refine⟨_,tU rfl (by simp only[E8,seval]<;>rfl) (by simp only[E8,seval]<;>rfl) (gI _),.inr ⟨_,rfl,by simp;omega⟩⟩
theorem aQ8 (o:Option (List Int)) (hn:((ol o).length:Int)<1000000) (a:Int):aB Tryz.prog 49 [ov aK o,.v (.int .i64 a)]=some (.v (.bool (decide (a∈ol o)))):=by
 cases o with
 | none=>rw[show ol (none:Option (List Int))=[] from rfl];simp only[List.not_mem_nil,decide_false];exact aKq a
 | some l=>exact c49 l a hn
theorem aGS (o:Option (List Int)) (hn:((ol o).length:Int)<1000000) (a:Int) (st:St) (d:Option Nat):aM (aB Tryz.prog) 49 [ov aK o,.v (.int .i64 a)] st d=some { dst:=d,val:=.v (.bool (decide (a∈ol o)))}:=bC (bE (bX o) (.v _)) (aQ8 o hn a) (.v _)
theorem aQ9 (t:vE) (L:Option (List kO)) (Q:Option (List Int)) (hL:t.eB=ov dD L) (hQ:t.gW=ov aK Q) (nL:((ol L).length:Int)<1000000) (nQ:((ol Q).length:Int)<1000000)
 (B:Option (List Int)) (nB:((ol B).length:Int)<1000000) (R:Option (List cN)) (nR:((ol R).length:Int)<1000000) :
 ∃r,aB Tryz.prog 248 [.agg (fF t),ov bK B,ov gZ R]=some r∧∃a:Int,r=.v (.int .u64 a):=by
 rw[cL Tryz.func248 rfl aLQ (by cases B<;>cases R<;>rfl)]
 simp only[Z8,seval];refine cC (fun m st=>∃(k:Nat) (a:Int),(st.env 1=ov bK B∧st.env 2=ov gZ R∧st.env 3=.ptr 3 0 0∧st.heap 3 0=some (.cells (fF t))∧st.env 7=.v (.int .u64 a)∧st.env 8=.v (.int .i64 k))∧k≤(ol B).length∧m=(ol B).length-k)
  (fun e st=>e=.exit 0∧∃a:Int,st.env 7=.v (.int .u64 a)) (ol B).length ?step ?start ?rest
 case step =>
  rintro m st ⟨k,a,hI,hk,hm⟩
  by_cases aY:(k:Int)<(ol B).length
  ·have q0:(0:Int)≤k:=by omega
   have hw:IntKind.i64.wrap ((k:Int)+1)=((k+1:Nat):Int):=by rw[mT _ (by omega) (by omega)];omega
   by_cases h1:(k:Int)<(ol L).length
   ·cases h2:(gx tN (ol L) (k:Int)).has
    ·apply oN ((ol B).length-(k+1))
     ·simp only[Z8,seval,hI,aY,q0,hL,hQ,h1,h2,hw];rfl
     ·exact⟨k+1,_,by simp only[E8,seval,hI]<;>rfl,by omega,rfl⟩
    ·by_cases h3:(k:Int)∈ol Q
     ·apply oN ((ol B).length-(k+1))
      ·simp only[Z8,seval,hI,aY,q0,hL,hQ,h1,h2,aGS Q nQ,h3,decide_true,hw];rfl
      ·exact⟨k+1,_,by simp only[E8,seval,hI]<;>rfl,by omega,rfl⟩
     ·cases h4:aGR R (gx tN (ol L) (k:Int)).root
      all_goals
       refine pD (st':=?_) ?_ ((ol B).length-(k+1)) (by omega) ?_
       rotate_left
       ·simp only[Z8,seval,hI,aY,q0,hL,hQ,h1,h2,aGS Q nQ,h3,decide_false,aQ6 R nR,h4,hw];rfl
       ·exact⟨k+1,_,by simp only[E8,seval,hI]<;>rfl,by omega,rfl⟩
   ·apply oT (.exit 0)
    ·simp only[Z8,seval,hI,aY,q0,hL,h1];rfl
    ·exact⟨rfl,a,by simp only[E8,seval,hI]⟩
  ·apply oT (.exit 0)
   ·simp only[Z8,seval,hI,aY];rfl
   ·exact⟨rfl,a,by simp only[E8,seval,hI]⟩
 case start=>exact⟨0,0,by simp only[E8,seval]<;>rfl,by omega,by omega⟩
 case rest =>
  rintro e st ⟨rfl,a,h⟩
  simp only[Z8,seval,h];exact⟨_,bQ rfl (by simp only[E8,seval,h]<;>rfl) (by first|exact .v _|simp only[dU,h]),_,rfl⟩
theorem aRa (ns:List Node) (hn:(ns.length:Int)<1000000) (l:List Int) (hl:l.length=ns.length) (r:cN) (a:Int):∃x,aB Tryz.prog 243 [.agg (cJ ⟨ns⟩),.sl l.length (bK l),.agg (bF r),.v (.int .u64 a)]=some x∧∃m:List Int,x=.uniq 23 1 m.length (bK m)∧m.length=ns.length:=by
 have Gx:(l.length:Int)<1000000:=by omega
 have rr:=eQ ns r
 rw[cL Tryz.func243 rfl aLR rfl];by_cases g1:0≤aN ns r
 case neg =>
  simp only[Z8,seval,Ew _ Gx,mS _ _ hn,g1];exact⟨_,tU rfl (by simp only[E8,seval]<;>rfl) (by simp only[E8,seval]<;>rfl) (iH _),l,rfl,hl⟩
 by_cases g2:(nd ns (aN ns r)).status=2
 ·simp only[Z8,seval,Ew _ Gx,mS _ _ hn,g1,rr,bt g2];exact⟨_,tU rfl (by simp only[E8,seval]<;>rfl) (by simp only[E8,seval]<;>rfl) (iH _),l,rfl,hl⟩
 by_cases g3:r=dV
 ·subst g3;simp only[Z8,seval,Ew _ Gx,mS _ _ hn,g1,rr,bf g2];exact⟨_,tU rfl (by simp only[E8,seval]<;>rfl) (by simp only[E8,seval]<;>rfl) (iH _),l,rfl,hl⟩
 have q1:aN ns r<(l.length:Int):=by omega
 have q2:(aN ns r).toNat<l.length:=by omega
 have q3:(aN ns r).toNat+1≤l.length:=by omega
 have hy:=F6 g1 q1
 have Lm:∀z:Int,dS (bK l) (aN ns r).toNat [.v (.int .u64 z)] ((aN ns r).toNat+1)=bK (l.set (aN ns r).toNat z):=fun z=>by
  have:=T6 l (aN ns r) z q2
  simpa using this
 have ld:=T7 (T:=23) (n:=l.length) (k:=1) g1 q1 UW (by decide) (by decide)
 rw[Nat.mul_one] at ld;simp only[Z8,seval,Ew _ Gx,mS ns r hn,g1,rr,bf g2,g3,q1,q2,q3,hy,Lm,ld,Nat.mul_one];exact⟨_,tU rfl (by simp only[E8,seval]<;>rfl) (by simp only[E8,seval]<;>rfl) (iH _),_,by rw[List.length_set],by rw[List.length_set];exact hl⟩
theorem aCR (r:cN):gZ [r]=bF r:=by simp[gZ]
theorem T8 (r:cN):jG (some (.row 27 32 1 (bF r)))=some (.sl 1 (gZ [r])):=by rw[← aCR];exact wJ 1 [r]
noncomputable def aLS (t:vE) (B:Option (List Int)) (r:cN):Int:=if h:∃a:Int,aB Tryz.prog 248 [.agg (fF t),ov bK B,ov gZ (some [r])]=some (.v (.int .u64 a)) then Classical.choose h else 0
theorem aLT (t:vE) (L:Option (List kO)) (Q:Option (List Int)) (hL:t.eB=ov dD L) (hQ:t.gW=ov aK Q) (nL:((ol L).length:Int)<1000000) (nQ:((ol Q).length:Int)<1000000)
 (B:Option (List Int)) (nB:((ol B).length:Int)<1000000) (r:cN) (s g:Nat) (st:St) (d:Option Nat) (hh:st.heap s g=some (.row 27 32 1 (bF r))) :
 aM (aB Tryz.prog) 248 [.agg (fF t),ov bK B,.own s g] st d=some { dst:=d,val:=.v (.int .u64 (aLS t B r))}:=by
 obtain⟨x,hx,a,rfl⟩:=aQ9 t L Q hL hQ nL nQ B nB (some [r]) (by simp[ol])
 have he:∃a:Int,aB Tryz.prog 248 [.agg (fF t),ov bK B,ov gZ (some [r])]=some (.v (.int .u64 a)):=⟨a,hx⟩
 have hf:Flat (.agg (fF t)):=(Oa t).2 ⟨by rw[hL];exact rC L,by rw[hQ];exact bX Q⟩
 rw[show aLS t B r=Classical.choose he from dif_pos he];rw[jU,List.map_cons,List.map_cons,List.map_cons,List.map_nil,eC hf,eC (dY B),vT,hh,T8,bO,bO,bO,fR];exact Tr (Classical.choose_spec he)
theorem aRb (ns:List Node) (hn:(ns.length:Int)<1000000) (h0:0<ns.length) (t:vE) (L:Option (List kO)) (Q:Option (List Int)) (hL:t.eB=ov dD L) (hQ:t.gW=ov aK Q) (nL:((ol L).length:Int)<1000000) (nQ:((ol Q).length:Int)<1000000)
 (B:Option (List Int)) (nB:((ol B).length:Int)<1000000) :
 ∃x,aB Tryz.prog 241 [.agg (cJ ⟨ns⟩),.agg (fF t),ov bK B]=some x∧∃m:List Int,x=.uniq 23 1 m.length (bK m)∧m.length=ns.length:=by
 have kw:=fun r g=>aLT t L Q hL hQ nL nQ B nB r 33 g
 rw[cL Tryz.func241 rfl aLU (by cases B<;>rfl)]
 simp only[Z8,seval];refine cC (fun m st=>∃k:Nat,(st.env 3=.ptr 3 0 0∧st.heap 3 0=some (.cells (cJ ⟨ns⟩))∧st.env 4=.ptr 4 0 0∧st.heap 4 0=some (.cells (fF t))∧st.env 2=ov bK B∧st.env 8=.v (.int .i64 k))∧((k=0∧st.env 7=.v (.slice none 0 0))∨∃(l:List Int) (g:Nat),st.env 7=.own 38 g∧g<st.aT 38∧st.heap 38 g=some (.row 23 1 l.length (bK l))∧l.length=k)∧k≤ns.length∧m=ns.length-k)
  (fun e st=>e=.exit 0∧∃(l:List Int) (g:Nat),st.env 7=.own 38 g∧st.heap 38 g=some (.row 23 1 l.length (bK l))∧l.length=ns.length) ns.length ?step ?start ?rest
 case step =>
  rintro m st ⟨k,hI,h7,hk,hm⟩
  by_cases aY:(k:Int)<ns.length
  ·have q0:(0:Int)≤k:=by omega
   have hw:IntKind.i64.wrap ((k:Int)+1)=((k+1:Nat):Int):=by rw[mT _ (by omega) (by omega)];omega
   by_cases h1:(nd ns k).status=2
   ·rcases h7 with ⟨qC,h7⟩|⟨l,g,h7,hg,Gm,hl⟩
    ·apply oN (ns.length-(k+1))
     ·simp only[Z8,seval,hI,h7,aY,q0,bt h1,hw];rfl
     ·exact⟨k+1,by simp only[E8,seval,hI],.inr ⟨[0],st.aT 38,by simp only[E8,seval]<;>rfl,by simp only[E8,seval]<;>omega,by simp only[E8,seval]<;>rfl,by simp;omega⟩,by omega,rfl⟩
    ·have nl:(l.length:Int)<1000000:=by omega
     apply oN (ns.length-(k+1))
     ·simp only[Z8,seval,hI,h7,Gm,aY,q0,bt h1,hw,wK _ _ _ _ nl];rfl
     ·exact⟨k+1,by simp only[E8,seval,hI],.inr ⟨_,st.aT 38,by simp only[E8,seval]<;>rfl,by simp only[E8,seval]<;>omega,by simp only[E8,seval]<;>rfl,by rw[List.length_append];simp;omega⟩,by omega,rfl⟩
   ·rcases h7 with ⟨qC,h7⟩|⟨l,g,h7,hg,Gm,hl⟩
    ·apply oN (ns.length-(k+1))
     ·simp only[Z8,seval,hI,h7,aY,q0,bf h1,kw (nd ns k).block.root,hw];rfl
     ·exact⟨k+1,by simp only[E8,seval,hI],.inr ⟨[_],st.aT 38,by simp only[E8,seval]<;>rfl,by simp only[E8,seval]<;>omega,by simp only[E8,seval]<;>rfl,by simp;omega⟩,by omega,rfl⟩
    ·have nl:(l.length:Int)<1000000:=by omega
     apply oN (ns.length-(k+1))
     ·simp only[Z8,seval,hI,h7,Gm,aY,q0,bf h1,kw (nd ns k).block.root,hw,wK _ _ _ _ nl];rfl
     ·exact⟨k+1,by simp only[E8,seval,hI],.inr ⟨_,st.aT 38,by simp only[E8,seval]<;>rfl,by simp only[E8,seval]<;>omega,by simp only[E8,seval]<;>rfl,by rw[List.length_append];simp;omega⟩,by omega,rfl⟩
  ·have Aq:k=ns.length:=by omega
   rcases h7 with ⟨qC,h7⟩|⟨l,g,h7,hg,Gm,hl⟩
   ·omega
   ·apply oT (.exit 0)
    ·simp only[Z8,seval,hI,aY];rfl
    ·exact⟨rfl,l,g,by simp only[E8,seval,h7],by simp only[E8,seval,Gm],by omega⟩
 case start=>exact⟨0,by simp only[E8,seval]<;>rfl,.inl ⟨rfl,by simp only[E8,seval]⟩,by omega,by omega⟩
 case rest =>
  rintro e st ⟨rfl,l,g,h7,Gm,hl⟩
  simp only[Z8,seval,h7];exact⟨_,tU rfl (by simp only[E8,seval,h7]<;>rfl) (by simp only[E8,seval,Gm]<;>rfl) (iH _),l,rfl,hl⟩
theorem aRc (ns:List Node) (hu:gL ns) (hn:(ns.length:Int)<1000000) (h0:0<ns.length) (l:List Int) (hl:l.length=ns.length) :
 ∃x,aB Tryz.prog 242 [.agg (cJ ⟨ns⟩),.sl l.length (bK l)]=some x∧∃m:List Int,x=.uniq 23 1 m.length (bK m)∧m.length=ns.length:=by
 rw[cL Tryz.func242 rfl aLV rfl];simp only[Z8,seval];refine cC (fun m st=>∃k:Nat,(st.env 2=.ptr 2 0 0∧st.heap 2 0=some (.cells (cJ ⟨ns⟩))∧st.env 1=.sl l.length (bK l)∧st.env 6=.v (.int .i64 k))∧((k=0∧st.env 5=.v (.slice none 0 0))∨∃(l:List Int) (g:Nat),st.env 5=.own 38 g∧g<st.aT 38∧st.heap 38 g=some (.row 23 1 l.length (bK l))∧l.length=k)∧k≤ns.length∧m=ns.length-k)
  (fun e st=>e=.exit 0∧∃(l:List Int) (g:Nat),st.env 5=.own 38 g∧st.heap 38 g=some (.row 23 1 l.length (bK l))∧l.length=ns.length) ns.length ?step ?start ?rest
 case step =>
  rintro m st ⟨k,hI,h5,hk,hm⟩
  by_cases aY:(k:Int)<ns.length
  ·have q0:(0:Int)≤k:=by omega
   have hw:IntKind.i64.wrap ((k:Int)+1)=((k+1:Nat):Int):=by rw[mT _ (by omega) (by omega)];omega
   have kd:=k64 ns hu hn k (UF hu q0 aY ns.length aY)
   have hrg:=ZV ns k
   have hdl:=Vx ns k ns.length
   obtain⟨D,hD⟩:∃D,Gn ns k ns.length=D:=⟨_,rfl⟩
   rw[hD] at kd hrg hdl;simp only[Z8,seval,hI,aY,q0,kd];refine C9 (fun mm st'=>∃(j:Nat) (a:Int),(st'.env 2=.ptr 2 0 0∧st'.heap 2 0=some (.cells (cJ ⟨ns⟩))∧st'.env 1=.sl l.length (bK l)∧st'.env 6=.v (.int .i64 k)∧st'.env 5=st.env 5∧st'.aT 38=st.aT 38∧(∀g,st'.heap 38 g=st.heap 38 g)∧st'.env 7=.v (.int .u64 a)∧st'.env 8=.own 19 (st.aT 19)∧st'.heap 19 (st.aT 19)=some (.row 3 1 D.length (aK D))∧st'.env 9=.v (.int .i64 j))∧j≤D.length∧mm=D.length-j)
    (fun e st'=>e=.exit 2∧∃a:Int,(st'.env 2=.ptr 2 0 0∧st'.heap 2 0=some (.cells (cJ ⟨ns⟩))∧st'.env 1=.sl l.length (bK l)∧st'.env 6=.v (.int .i64 k)∧st'.env 5=st.env 5∧st'.aT 38=st.aT 38∧(∀g,st'.heap 38 g=st.heap 38 g)∧st'.env 7=.v (.int .u64 a))) D.length ?NI ?Yh ?Yi
   case NI =>
    rintro mm st' ⟨j,a,hJ,hj,hmm⟩
    by_cases hjl:(j:Int)<D.length
    ·have p0:(0:Int)≤j:=by omega
     have hw2:IntKind.i64.wrap ((j:Int)+1)=((j+1:Nat):Int):=by rw[mT _ (by omega) (by omega)];omega
     obtain⟨hjt,hje⟩:=xP p0 hjl
     have hx:=hrg _ (List.getElem_mem hjt)
     rw[← hje] at hx;have x0:=hx.1
     have x1:it D j<(l.length:Int):=by omega
     have gi:=nX p0 hjl
     apply oN (D.length-(j+1))
     ·simp only[Z8,seval,hJ,hjl,p0,x0,x1,gi,hw2];rfl
     ·exact⟨j+1,IntKind.u64.wrap (a+gx (0:Int) l (it D j)),by simp only[E8,seval,hJ,implies_true,and_self],by omega,rfl⟩
    ·apply oT (.exit 2)
     ·simp only[Z8,seval,hJ,hjl];rfl
     ·exact⟨rfl,a,by simp only[E8,seval,hJ,implies_true,and_self]⟩
   case Yh=>exact⟨0,0,by simp only[E8,seval,hI,implies_true,and_self]<;>rfl,by omega,by omega⟩
   case Yi =>
    rintro e st' ⟨rfl,a,hJ⟩
    obtain⟨j2,j2',j1,j6,j5,jc,jh,j7⟩:=hJ
    rcases h5 with ⟨qC,h5⟩|⟨l',g,h5,hg,As,Gx⟩
    ·rw[h5] at j5;refine R3 (st':=?s3) ?h3 (ns.length-(k+1)) (by omega) ?q3
     case h3 =>
      simp only[Z8,seval,j2,j2',j1,j6,j5,jc,j7,hw];rfl
     case q3=>exact⟨k+1,by simp only[E8,seval,j2,j2',j1],.inr ⟨[a],st.aT 38,by simp only[E8,seval,jc]<;>rfl,by simp only[E8,seval,jc]<;>omega,by simp only[E8,seval,jc]<;>rfl,by simp;omega⟩,by omega,rfl⟩
    ·rw[h5] at j5;have nl:(l'.length:Int)<1000000:=by omega
     have jhh:=jh g
     rw[As] at jhh;refine R3 (st':=?s4) ?h4 (ns.length-(k+1)) (by omega) ?q4
     case h4 =>
      simp only[Z8,seval,j2,j2',j1,j6,j5,jc,jhh,j7,hw,wK _ _ _ _ nl];rfl
     case q4=>exact⟨k+1,by simp only[E8,seval,j2,j2',j1],.inr ⟨l'++[a],st.aT 38,by simp only[E8,seval,jc]<;>rfl,by simp only[E8,seval,jc]<;>omega,by simp only[E8,seval,jc]<;>rfl,by rw[List.length_append];simp;omega⟩,by omega,rfl⟩
  ·have Aq:k=ns.length:=by omega
   rcases h5 with ⟨qC,h5⟩|⟨l,g,h5,hg,As,hl⟩
   ·omega
   ·apply oT (.exit 0)
    ·simp only[Z8,seval,hI,aY];rfl
    ·exact⟨rfl,l,g,by simp only[E8,seval,h5],by simp only[E8,seval,As],by omega⟩
 case start=>exact⟨0,by simp only[E8,seval]<;>rfl,.inl ⟨rfl,by simp only[E8,seval]⟩,by omega,by omega⟩
 case rest =>
  rintro e st ⟨rfl,l,g,h5,As,hl⟩
  simp only[Z8,seval,h5];exact⟨_,tU rfl (by simp only[E8,seval,h5]<;>rfl) (by simp only[E8,seval,As]<;>rfl) (iH _),l,rfl,hl⟩
end Go.Ab.Tryz
