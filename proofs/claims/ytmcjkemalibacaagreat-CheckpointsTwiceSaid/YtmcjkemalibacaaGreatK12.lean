/-
  Part 12 of the proof: an evaluator of programs, its soundness, and what functions of this program compute.
-/
import Derived.Test.YtmcjkemalibacaaGreatK11
import Derived.Test.YtmcjkemalibacaaGreatK10
set_option linter.all false
set_option maxRecDepth 20000
set_option maxHeartbeats 40000000
section
namespace Go.Ab.Tryz
open Classical Go.Proofs Go.Ab
end Go.Ab.Tryz
namespace Go.Ab
theorem Xw {α β:Type} {x:Option α} {k:α→Option β} {R:β→Prop} (Q:α→Prop) (h:∃a,x=some a∧Q a) (rest:∀a,Q a→∃r,k a=some r∧R r):∃r,cT x k=some r∧R r:=by
 obtain⟨a,h1,h2⟩:=h
 rw[h1];exact rest a h2
end Go.Ab
namespace Go.Ab.Tryz
open Classical Go.Proofs Go.Ab
theorem Dy:aC 7 73 (some 41)=[]∧aC 7 72 (some 41)=[]:=⟨rfl,rfl⟩
theorem mG {α:Type} (a:α) (l m:List α):List.append (a :: l) m=a :: List.append l m:=rfl
theorem mH {α:Type} (m:List α):List.append ([]:List α) m=m:=rfl
theorem c59 {s:aM} {v:SV} (hs:SD s v) (hu:gK v.ns) (hp:s.cFg.jH≠0) (c1 c2:dQ):aB Tryz.prog 59 [.agg (aA s),.agg (bB c1),.agg (bB c2)]=some (Nj s v c1 c2):=by
 have hf:=hs.flat
 have UT:=hs.fT
 rw[cG Tryz.func59 rfl aQp (by kernel_rfl) rfl]
 refine iT ?_
 unfold Nj;obtain⟨J,eJ⟩:∃J,tL s c1=J:=⟨_,rfl⟩
 obtain⟨F,eF⟩:∃F,rD s c2=F:=⟨_,rfl⟩
 rw[eJ,eF];simp only[ZG,seval,Bool.false_and,Prod.mk.injEq,Ta,Dy,mG,mH];refine Xw (fun a=>a.1=.normal∧a.2.env 3=.ptr 3 0 0∧a.2.heap 3 0=some (.cells (aA s))∧a.2.env 5=.ptr 5 0 0∧a.2.heap 5 0=some (.cells (bB c2))∧a.2.env 6=.ptr 6 0 0∧a.2.heap 6 0=some (.cells (bB gP))∧a.2.env 7=.ptr 7 0 0∧a.2.heap 7 0=some (.cells (bB gP))∧a.2.env 9=.ptr 9 0 0∧a.2.heap 9 0=some (.cells (bB J))∧a.2.env 10=.ptr 10 0 0∧a.2.heap 10 0=some (.cells (bB s.aL.fin))) ?m1 ?r1
 case m1 =>
  unfold tL at eJ;by_cases a1:s.aL.gI.aG<c1.aG
  ·rw[if_pos a1] at eJ;simp only[a1,decide_true,if_true];exact⟨_,rfl,rfl,by simp only[E8,seval,eJ]<;>exact⟨rfl,rfl⟩⟩
  ·rw[if_neg a1] at eJ;simp only[a1,decide_false,Bool.false_eq_true,if_false];exact⟨_,rfl,rfl,by simp only[E8,seval,eJ]<;>exact⟨rfl,rfl⟩⟩
 case r1 =>
  rintro⟨_,st⟩ ⟨rfl,hI⟩
  dsimp only at hI
  simp only[ZG,seval,Bool.false_and,Prod.mk.injEq,Ta,Dy,mG,mH,hI];refine Xw (fun a=>a.1=.normal∧a.2.env 3=.ptr 3 0 0∧a.2.heap 3 0=some (.cells (aA s))∧a.2.env 6=.ptr 6 0 0∧a.2.heap 6 0=some (.cells (bB gP))∧a.2.env 7=.ptr 7 0 0∧a.2.heap 7 0=some (.cells (bB gP))∧a.2.env 9=.ptr 9 0 0∧a.2.heap 9 0=some (.cells (bB J))∧a.2.env 10=.ptr 10 0 0∧a.2.heap 10 0=some (.cells (bB F))) ?m2 ?r2
  case m2 =>
   unfold rD at eF;by_cases a2:s.aL.fin.aG<c2.aG
   ·rw[if_pos a2] at eF;simp only[a2,decide_true,if_true];exact⟨_,rfl,rfl,by simp only[E8,seval,hI,eF]⟩
   ·rw[if_neg a2] at eF;simp only[a2,decide_false,Bool.false_eq_true,if_false];exact⟨_,rfl,rfl,by simp only[E8,seval,hI,eF]⟩
  case r2 =>
   rintro⟨_,st⟩ ⟨rfl,hK⟩
   dsimp only at hK
   have r1:=eQ v.ns J.root
   have r2:=eQ v.ns F.root
   by_cases g1:aN v.ns J.root<0
   ·simp only[ZG,seval,Bool.false_and,Prod.mk.injEq,Ta,Dy,mG,mH,hK,hs.tree,mU _ _ hs.nn,Pq _ hu hs.nn,Pc s hp hf,hs.tables,v7 _ hs.nT UT,decide_true,decide_false,g1];exact⟨_,by apply fN;rfl;all_goals simp only[aH,bY,Z8,seval,hK]<;>rfl,by rw[if_pos (show jX s v J F by simp only[jX,g1,not_true_eq_false,not_false_eq_true,true_or,or_true])]⟩
   by_cases g2:aN v.ns F.root<0
   ·simp only[ZG,seval,Bool.false_and,Prod.mk.injEq,Ta,Dy,mG,mH,hK,hs.tree,mU _ _ hs.nn,Pq _ hu hs.nn,Pc s hp hf,hs.tables,v7 _ hs.nT UT,decide_true,decide_false,g1,g2];exact⟨_,by apply fN;rfl;all_goals simp only[aH,bY,Z8,seval,hK]<;>rfl,by rw[if_pos (show jX s v J F by simp only[jX,g1,g2,not_true_eq_false,not_false_eq_true,true_or,or_true])]⟩
   have q1:0≤aN v.ns J.root:=by omega
   have q2:0≤aN v.ns F.root:=by omega
   by_cases g3:(nd v.ns (aN v.ns J.root)).status=2
   ·simp only[ZG,seval,Bool.false_and,Prod.mk.injEq,Ta,Dy,mG,mH,hK,hs.tree,mU _ _ hs.nn,Pq _ hu hs.nn,Pc s hp hf,hs.tables,v7 _ hs.nT UT,decide_true,decide_false,g1,g2,q1,q2,r1,r2,bt g3];exact⟨_,by apply fN;rfl;all_goals simp only[aH,bY,Z8,seval,hK]<;>rfl,by rw[if_pos (show jX s v J F by simp only[jX,g1,g2,g3,not_true_eq_false,not_false_eq_true,true_or,or_true])]⟩
   by_cases g4:(nd v.ns (aN v.ns F.root)).status=2
   ·simp only[ZG,seval,Bool.false_and,Prod.mk.injEq,Ta,Dy,mG,mH,hK,hs.tree,mU _ _ hs.nn,Pq _ hu hs.nn,Pc s hp hf,hs.tables,v7 _ hs.nT UT,decide_true,decide_false,g1,g2,q1,q2,r1,r2,bf g3,bt g4];exact⟨_,by apply fN;rfl;all_goals simp only[aH,bY,Z8,seval,hK]<;>rfl,by rw[if_pos (show jX s v J F by simp only[jX,g1,g2,g3,g4,not_true_eq_false,not_false_eq_true,true_or,or_true])]⟩
   have ke1:=aKG hs (aN v.ns J.root) J.aG q1 r1.2
   have ke2:=aKG hs (aN v.ns F.root) F.aG q2 r2.2
   by_cases g5:¬IZ s v.ns (aN v.ns J.root) J.aG
   ·simp only[ZG,seval,Bool.false_and,Prod.mk.injEq,Ta,Dy,mG,mH,hK,hs.tree,mU _ _ hs.nn,Pq _ hu hs.nn,Pc s hp hf,hs.tables,v7 _ hs.nT UT,decide_true,decide_false,g1,g2,q1,q2,r1,r2,bf g3,bf g4,ke1,ke2,g5];exact⟨_,by apply fN;rfl;all_goals simp only[aH,bY,Z8,seval,hK]<;>rfl,by rw[if_pos (show jX s v J F by simp only[jX,g1,g2,g3,g4,g5,not_true_eq_false,not_false_eq_true,true_or,or_true])]⟩
   replace g5:=Classical.not_not.1 g5
   by_cases g6:¬IZ s v.ns (aN v.ns F.root) F.aG
   ·simp only[ZG,seval,Bool.false_and,Prod.mk.injEq,Ta,Dy,mG,mH,hK,hs.tree,mU _ _ hs.nn,Pq _ hu hs.nn,Pc s hp hf,hs.tables,v7 _ hs.nT UT,decide_true,decide_false,g1,g2,q1,q2,r1,r2,bf g3,bf g4,ke1,ke2,g5,g6];exact⟨_,by apply fN;rfl;all_goals simp only[aH,bY,Z8,seval,hK]<;>rfl,by rw[if_pos (show jX s v J F by simp only[jX,g1,g2,g3,g4,g5,g6,not_true_eq_false,not_false_eq_true,true_or,or_true])]⟩
   replace g6:=Classical.not_not.1 g6
   by_cases g7:tW v.ns (aN v.ns F.root) (aN v.ns J.root)=false
   ·simp only[ZG,seval,Bool.false_and,Prod.mk.injEq,Ta,Dy,mG,mH,hK,hs.tree,mU _ _ hs.nn,Pq _ hu hs.nn,Pc s hp hf,hs.tables,v7 _ hs.nT UT,decide_true,decide_false,g1,g2,q1,q2,r1,r2,bf g3,bf g4,ke1,ke2,g5,g6,g7];exact⟨_,by apply fN;rfl;all_goals simp only[aH,bY,Z8,seval,hK]<;>rfl,by rw[if_pos (show jX s v J F by simp only[jX,g1,g2,g3,g4,g5,g6,g7,not_true_eq_false,not_false_eq_true,true_or,or_true])]⟩
   replace g7:=(by simpa using g7:tW v.ns _ _=true)
   by_cases g8:J.aG<F.aG
   ·simp only[ZG,seval,Bool.false_and,Prod.mk.injEq,Ta,Dy,mG,mH,hK,hs.tree,mU _ _ hs.nn,Pq _ hu hs.nn,Pc s hp hf,hs.tables,v7 _ hs.nT UT,decide_true,decide_false,g1,g2,q1,q2,r1,r2,bf g3,bf g4,ke1,ke2,g5,g6,g7,g7,g8];exact⟨_,by apply fN;rfl;all_goals simp only[aH,bY,Z8,seval,hK]<;>rfl,by rw[if_pos (show jX s v J F by simp only[jX,g1,g2,g3,g4,g5,g6,g7,g8,not_true_eq_false,not_false_eq_true,true_or,or_true])]⟩
   by_cases g9:yD s s.now<J.aG
   ·simp only[ZG,seval,Bool.false_and,Prod.mk.injEq,Ta,Dy,mG,mH,hK,hs.tree,mU _ _ hs.nn,Pq _ hu hs.nn,Pc s hp hf,hs.tables,v7 _ hs.nT UT,decide_true,decide_false,g1,g2,q1,q2,r1,r2,bf g3,bf g4,ke1,ke2,g5,g6,g7,g7,g8,g9];exact⟨_,by apply fN;rfl;all_goals simp only[aH,bY,Z8,seval,hK]<;>rfl,by rw[if_pos (show jX s v J F by simp only[jX,g1,g2,g3,g4,g5,g6,g7,g8,g9,not_true_eq_false,not_false_eq_true,true_or,or_true])]⟩
   by_cases U5:DV (ol v.T) J<0
   ·simp only[ZG,seval,Bool.false_and,Prod.mk.injEq,Ta,Dy,mG,mH,hK,hs.tree,mU _ _ hs.nn,Pq _ hu hs.nn,Pc s hp hf,hs.tables,v7 _ hs.nT UT,decide_true,decide_false,g1,g2,q1,q2,r1,r2,bf g3,bf g4,ke1,ke2,g5,g6,g7,g7,g8,g9,U5];exact⟨_,by apply fN;rfl;all_goals simp only[aH,bY,Z8,seval,hK]<;>rfl,by rw[if_pos (show jX s v J F by simp only[jX,g1,g2,g3,g4,g5,g6,g7,g8,g9,U5,not_true_eq_false,not_false_eq_true,true_or,or_true])]⟩
   simp only[ZG,seval,Bool.false_and,Prod.mk.injEq,Ta,Dy,mG,mH,hK,hs.tree,mU _ _ hs.nn,Pq _ hu hs.nn,Pc s hp hf,hs.tables,v7 _ hs.nT UT,decide_true,decide_false,g1,g2,q1,q2,r1,r2,bf g3,bf g4,ke1,ke2,g5,g6,g7,g7,g8,g9,U5];exact⟨_,by apply fN;rfl;all_goals simp only[aH,bY,Z8,seval,hK]<;>rfl,by rw[if_neg (show ¬jX s v J F by simp only[jX,g1,g2,g3,g4,g5,g6,g7,g8,g9,U5,not_true_eq_false,not_false_eq_true,or_self,Bool.true_eq_false])]⟩
theorem k59 {s:aM} {v:SV} (hs:SD s v) (hu:gK v.ns) (hp:s.cFg.jH≠0) (c1 c2:dQ) (st:St) (d:Option Nat):aO (aB Tryz.prog) 59 [.agg (aA s),.agg (bB c1),.agg (bB c2)] st d=some { dst:=d,val:=Nj s v c1 c2 }:=bG (mE hs.flat (.agg _ (bR c1)) (.agg _ (bR c2))) (c59 hs hu hp c1 c2) (by unfold Nj;split<;>exact .eG _ (mE (.agg _ (bR _)) (.agg _ (bR _)) (.v _)))
end Go.Ab.Tryz
end
namespace Go.Ab.Tryz
open Classical Go.Proofs Go.Ab
theorem bO (st:St) (s g:Nat):cJ st (.own s g)=jI (st.heap s g):=by
 unfold cJ jI;rw[if_neg (nA s g)];cases h:st.heap s g with
 | none=>simp only[h]
 | some e=>cases e<;>simp only[h]
theorem SD.fl {s:aM} {v:SV} (h:SD s v):Flat s.cFg.iP∧Flat s.gH.dU∧Flat s.gH.gN∧Flat s.cC.early∧Flat s.cC.bL∧Flat s.tree.nodes∧Flat s.tables:=(Il s).1 h.flat
noncomputable def Ir (s:aM) (v:SV) (c1 c2:dQ):SV :=
 if jX s v (tL s c1) (rD s c2) then v else
 if rD s c2=s.aL.fin then { v with T:=nz (qN (ol v.T) (tL s c1).aG)} else
 { v with T:=nz (qN (ol v.T) (tL s c1).aG),ns:=(jQ v.ns (aN v.ns (rD s c2).root) v.ns.length).1,O:=nz ((ol v.O).filter fun b=>decide ((vC s (rD s c2).aG).1<b.slot))}
noncomputable def yE (s:aM) (v:SV) (c1 c2:dQ):aM :=
 if jX s v (tL s c1) (rD s c2) then s else
 if rD s c2=s.aL.fin then { s with aL:=⟨tL s c1,rD s c2⟩,tables:=ov aI (nz (qN (ol v.T) (tL s c1).aG))} else
 { s with aL:=⟨tL s c1,rD s c2⟩,tables:=ov aI (nz (qN (ol v.T) (tL s c1).aG)),
          tree:=⟨.sl (jQ v.ns (aN v.ns (rD s c2).root) v.ns.length).1.length (bU (jQ v.ns (aN v.ns (rD s c2).root) v.ns.length).1)⟩,
          eE:=if aN (jQ v.ns (aN v.ns (rD s c2).root) v.ns.length).1 s.eE<0 then dR else s.eE,
          cC:={ s.cC with bL:=ov aF (nz ((ol v.O).filter fun b=>decide ((vC s (rD s c2).aG).1<b.slot)))} }
theorem Tb {ns:List Node} (i:Int):(jQ ns i ns.length).1.length≤ns.length:=Ki ns i ns.length
theorem SD.dS {s:aM} {v:SV} (h:SD s v) (hu:gK v.ns) (c1 c2:dQ):SD (yE s v c1 c2) (Ir s v c1 c2):=by
 have hT:((ol (nz (qN (ol v.T) (tL s c1).aG))).length:Int)<1000000:=by rw[oW];have:=List.length_filter_le (fun t:Table=>decide ((tL s c1).aG≤t.ck.aG)) (ol v.T);have:=h.nT;unfold qN;omega
 have hB:∀t∈ol (nz (qN (ol v.T) (tL s c1).aG)),rZ t:=by rw[oW];exact fun t m=>h.tB t (List.mem_filter.1 m).1
 unfold yE Ir;split
 ·exact h
 split
 ·exact⟨h.iP,h.dU,h.gN,h.early,h.bL,h.tree,rfl,h.eV,hB,h.nB,h.nL,h.nQ,h.nE,h.nO,hT,h.nn⟩
 ·refine⟨h.iP,h.dU,h.gN,h.early,rfl,rfl,rfl,h.eV,hB,h.nB,h.nL,h.nQ,h.nE, ?_,hT, ?_⟩
  ·rw[oW];have:=List.length_filter_le (fun b:Block=>decide ((vC s (rD s c2).aG).1<b.slot)) (ol v.O);have:=h.nO;omega
  ·have:=Tb (ns:=v.ns) (aN v.ns (rD s c2).root);have:=h.nn;show ((jQ v.ns (aN v.ns (rD s c2).root) v.ns.length).1.length:Int)<1000000;omega
theorem c61 {s:aM} {v:SV} (hs:SD s v) (hu:gK v.ns) (hp:s.cFg.jH≠0) (c1 c2:dQ):aB Tryz.prog 61 [.agg (aA s),.agg (bB c1),.agg (bB c2)]=some (.agg (aA (yE s v c1 c2))):=by
 have hf:=hs.flat
 have hn:=hs.nO
 have pG:=hs.fl
 have JE:=k59 hs hu hp c1 c2
 rw[cG Tryz.func61 rfl aQq (by kernel_rfl) rfl]
 refine iT ?_
 by_cases b1:jX s v (tL s c1) (rD s c2)
 ·have hv:yE s v c1 c2=s:=if_pos b1
  have hc:Nj s v c1 c2=.eG [.agg (bB gP),.agg (bB gP),.v (.bool false)]:=if_pos b1
  rw[hc] at JE
  simp only[ZG,seval,Bool.false_and,Prod.mk.injEq,sZ,JE,dN];exact⟨_,fL rfl (by simp only[E8,seval,hf]<;>rfl) (by simp only[Z8,seval,hf]<;>rfl) (by simp only[eC,and_self,hf]),by rw[hv]⟩
 have hc:Nj s v c1 c2=.eG [.agg (bB (tL s c1)),.agg (bB (rD s c2)),.v (.bool true)]:=if_neg b1
 rw[hc] at JE
 have hv:yE s v c1 c2=_:=if_neg b1
 generalize hJ:tL s c1=J at *
 generalize hF:rD s c2=F at *
 have p5:=eQ v.ns F.root
 have hF0:0≤aN v.ns F.root:=by rcases Int.lt_or_le (aN v.ns F.root) 0 with h|h;exact absurd (.inr (.inl h)) b1;exact h
 have aCO:=aQd v.T hs.nT (fun t m=>(hs.tB t m).fl) J.aG
 have kp:=k34 v.ns hu hs.nn (aN v.ns F.root) ⟨hF0,p5.2⟩
 by_cases e1:qN (ol v.T) J.aG=[]
 ·have hz:(nz (qN (ol v.T) J.aG))=none:=if_pos e1
  rw[show Qb 118 34 aI (qN (ol v.T) J.aG)=.v (.slice none 0 0) from if_pos e1] at aCO;have Zq:=kx aCO (bF hs.fT (.v _)) (.v _)
  by_cases e2:F=s.aL.fin
  ·rw[if_pos e2,hz] at hv;subst e2;simp only[ZG,seval,Bool.false_and,Prod.mk.injEq,sZ,JE,dN,hs.tables,Zq,decide_true,decide_false];exact⟨_,fL rfl (by simp only[E8,seval,hf,pG,and_self]<;>rfl) (by simp only[Z8,seval,hf,pG,and_self]<;>rfl) (by simp only[eC,and_self,hf,pG,and_self]),by rw[hv];rfl⟩
  rw[if_neg e2,hz] at hv;obtain⟨Zr,en⟩:∃Zr,(jQ v.ns (aN v.ns F.root) v.ns.length).1=Zr:=⟨_,rfl⟩
  have Hu:(Zr.length:Int)<1000000:=by have:=Tb (ns:=v.ns) (aN v.ns F.root);have:=hs.nn;rw[← en];omega
  unfold F0 at kp;rw[en] at kp hv;obtain⟨x,ex⟩:∃x,(Pt F.aG s.cFg.jH).1=x:=⟨_,rfl⟩
  rw[show (vC s F.aG).1=x from ex] at hv;by_cases e3:aN Zr s.eE<0
  ·rw[if_pos e3] at hv;obtain⟨S1,eS⟩:∃S1:aM,S1={ cFg:=s.cFg,gH:=s.gH,aL:=⟨J,F⟩,cC:=s.cC,tree:=⟨.sl Zr.length (bU Zr)⟩,now:=s.now,eE:=dR,tables:=.v (.slice none 0 0)}:=⟨_,rfl⟩
   have hS:Flat (.agg (aA S1)):=by rw[eS];simp only[eC,pG,and_self]
   have Zs:=fun st d=>Xv S1 hS F.aG st d
   simp only[vC,eS,ex] at Zs
   simp only[ZG,seval,Bool.false_and,Prod.mk.injEq,sZ,JE,dN,hs.tables,Zq,decide_true,decide_false,e2,hs.tree,mU _ _ hs.nn,kp,mU _ _ Hu,e3,Zs,hs.bL];have JF:S1.cC.bL=ov aF v.O:=by rw[eS];exact hs.bL
   refine kS (fun m st=>∃k:Nat,(st.env 3=.ptr 3 0 0∧st.heap 3 0=some (.cells (aA S1))∧st.env 6=.ptr 6 0 0∧st.heap 6 0=some (.cells (aA fW))∧st.env 11=.v (.int .u64 x)∧st.env 14=.v (.int .i64 k))∧(((((ol v.O).take k).filter (fun b=>decide (x<b.slot)))=[]∧st.env 13=.v (.slice none 0 0))∨((((ol v.O).take k).filter (fun b=>decide (x<b.slot)))≠[]∧∃g,st.env 13=.own 99 g∧g<st.aU 99∧st.heap 99 g=some (.row 74 238 (((ol v.O).take k).filter (fun b=>decide (x<b.slot))).length (aF (((ol v.O).take k).filter (fun b=>decide (x<b.slot)))))))∧k≤(ol v.O).length∧m=(ol v.O).length-k)
    (fun e st=>e=.exit 0∧(((((ol v.O).take (ol v.O).length).filter (fun b=>decide (x<b.slot)))=[]∧st.env 13=.v (.slice none 0 0))∨((((ol v.O).take (ol v.O).length).filter (fun b=>decide (x<b.slot)))≠[]∧∃g,st.env 13=.own 99 g∧g<st.aU 99∧st.heap 99 g=some (.row 74 238 (((ol v.O).take (ol v.O).length).filter (fun b=>decide (x<b.slot))).length (aF (((ol v.O).take (ol v.O).length).filter (fun b=>decide (x<b.slot)))))))∧st.env 3=.ptr 3 0 0∧st.heap 3 0=some (.cells (aA S1))∧st.env 6=.ptr 6 0 0∧st.heap 6 0=some (.cells (aA fW))∧st.env 11=.v (.int .u64 x)) ((ol v.O).length) ?step ?start ?rest
   case step =>
    rintro m st ⟨k,hI,h5,hk,hm⟩
    have Hv:(((((ol v.O).take k).filter (fun b=>decide (x<b.slot))).length:Nat):Int)<1000000:=by have:=List.length_filter_le (fun b=>decide (x<b.slot)) ((ol v.O).take k);have h2:=List.length_take_le' k (ol v.O);omega
    by_cases bA:(k:Int)<(ol v.O).length
    ·have q0:(0:Int)≤k:=by omega
     have hw:IntKind.i64.wrap ((k:Int)+1)=((k+1:Nat):Int):=by rw[nU _ (by omega) (by omega)];omega
     have hs:=zI dX (fun b=>decide (x<b.slot)) (ol v.O) k (by omega)
     by_cases hh:x<(gx dX (ol v.O) (k:Int)).slot
     ·rw[if_pos (decide_eq_true hh)] at hs;rcases h5 with ⟨hy,h5⟩|⟨hy,g,h5⟩
      ·rw[hy] at hs;apply Cx ((ol v.O).length-(k+1))
       ·simp only[ZG,seval,Bool.false_and,Prod.mk.injEq,hI,h5,bA,hw,q0,sZ,JF,hh];rfl
       ·exact⟨k+1,by simp only[E8,seval,hI],.inr ⟨by rw[hs];simp,_,by simp only[E8,seval]<;>rfl,(by simp only[E8,seval]<;>omega),(by rw[hs];simp only[E8,seval]<;>rfl)⟩,by omega,rfl⟩
      ·apply Cx ((ol v.O).length-(k+1))
       ·simp only[ZG,seval,Bool.false_and,Prod.mk.injEq,hI,h5,Hv,bA,hw,q0,sZ,JF,hh];rfl
       ·exact⟨k+1,by simp only[E8,seval,hI],.inr ⟨by rw[hs];simp,_,by simp only[E8,seval]<;>rfl,(by simp only[E8,seval]<;>omega),(by rw[hs];simp only[E8,seval]<;>rfl)⟩,by omega,rfl⟩
     ·rw[if_neg (by simpa using hh),List.append_nil] at hs
      apply Cx ((ol v.O).length-(k+1))
      ·simp only[ZG,seval,Bool.false_and,Prod.mk.injEq,hI,bA,hw,q0,sZ,JF,hh];rfl
      ·exact⟨k+1,by simp only[E8,seval,hI],by rw[hs];simpa only[E8,seval] using h5,by omega,rfl⟩
    ·have Bu:k=(ol v.O).length:=by omega
     rw[Bu] at h5;apply HF (.exit 0)
     ·simp only[ZG,seval,Bool.false_and,Prod.mk.injEq,hI,bA,sZ,JF];rfl
     ·exact⟨rfl,by simpa only[E8,seval] using h5,by simp only[E8,seval,hI]⟩
   case start=>exact⟨0,by simp only[E8,seval,eS]<;>rfl,.inl ⟨rfl,by simp only[E8,seval]⟩,by omega,by omega⟩
   case rest =>
    rintro e st ⟨rfl,⟨hy,h5⟩|⟨hy,g,h5,hg,Bh⟩,hI⟩
    ·rw[List.take_length] at hy;rw[show nz ((ol v.O).filter fun b=>decide (x<b.slot))=none from if_pos hy] at hv
     rw[eS] at hI;simp only[ZG,seval,Bool.false_and,Prod.mk.injEq,sZ,h5,hI];exact⟨_,fL rfl (by simp only[E8,seval,hI,pG,and_self]<;>rfl) (by simp only[Z8,seval,hI,pG,and_self]<;>rfl) (by simp only[eC,and_self,hI,pG,and_self]),by rw[hv];rfl⟩
    ·rw[List.take_length] at hy Bh;rw[show nz ((ol v.O).filter fun b=>decide (x<b.slot))=some ((ol v.O).filter fun b=>decide (x<b.slot)) from if_neg hy] at hv
     rw[eS] at hI;simp only[ZG,seval,Bool.false_and,Prod.mk.injEq,sZ,h5,Bh,hI];exact⟨_,by apply eA;rfl;all_goals simp only[aH,Z8,seval,hI,Bh,pG,bP,gG,bO,cS,uM,eC]<;>rfl,by rw[hv];rfl⟩
  rw[if_neg e3] at hv;obtain⟨S1,eS⟩:∃S1:aM,S1={ cFg:=s.cFg,gH:=s.gH,aL:=⟨J,F⟩,cC:=s.cC,tree:=⟨.sl Zr.length (bU Zr)⟩,now:=s.now,eE:=s.eE,tables:=.v (.slice none 0 0)}:=⟨_,rfl⟩
  have hS:Flat (.agg (aA S1)):=by rw[eS];simp only[eC,pG,and_self]
  have Zs:=fun st d=>Xv S1 hS F.aG st d
  simp only[vC,eS,ex] at Zs
  simp only[ZG,seval,Bool.false_and,Prod.mk.injEq,sZ,JE,dN,hs.tables,Zq,decide_true,decide_false,e2,hs.tree,mU _ _ hs.nn,kp,mU _ _ Hu,e3,Zs,hs.bL];have JF:S1.cC.bL=ov aF v.O:=by rw[eS];exact hs.bL
  refine kS (fun m st=>∃k:Nat,(st.env 3=.ptr 3 0 0∧st.heap 3 0=some (.cells (aA S1))∧st.env 6=.ptr 6 0 0∧st.heap 6 0=some (.cells (aA fW))∧st.env 11=.v (.int .u64 x)∧st.env 14=.v (.int .i64 k))∧(((((ol v.O).take k).filter (fun b=>decide (x<b.slot)))=[]∧st.env 13=.v (.slice none 0 0))∨((((ol v.O).take k).filter (fun b=>decide (x<b.slot)))≠[]∧∃g,st.env 13=.own 99 g∧g<st.aU 99∧st.heap 99 g=some (.row 74 238 (((ol v.O).take k).filter (fun b=>decide (x<b.slot))).length (aF (((ol v.O).take k).filter (fun b=>decide (x<b.slot)))))))∧k≤(ol v.O).length∧m=(ol v.O).length-k)
   (fun e st=>e=.exit 0∧(((((ol v.O).take (ol v.O).length).filter (fun b=>decide (x<b.slot)))=[]∧st.env 13=.v (.slice none 0 0))∨((((ol v.O).take (ol v.O).length).filter (fun b=>decide (x<b.slot)))≠[]∧∃g,st.env 13=.own 99 g∧g<st.aU 99∧st.heap 99 g=some (.row 74 238 (((ol v.O).take (ol v.O).length).filter (fun b=>decide (x<b.slot))).length (aF (((ol v.O).take (ol v.O).length).filter (fun b=>decide (x<b.slot)))))))∧st.env 3=.ptr 3 0 0∧st.heap 3 0=some (.cells (aA S1))∧st.env 6=.ptr 6 0 0∧st.heap 6 0=some (.cells (aA fW))∧st.env 11=.v (.int .u64 x)) ((ol v.O).length) ?step ?start ?rest
  case step =>
   rintro m st ⟨k,hI,h5,hk,hm⟩
   have Hv:(((((ol v.O).take k).filter (fun b=>decide (x<b.slot))).length:Nat):Int)<1000000:=by have:=List.length_filter_le (fun b=>decide (x<b.slot)) ((ol v.O).take k);have h2:=List.length_take_le' k (ol v.O);omega
   by_cases bA:(k:Int)<(ol v.O).length
   ·have q0:(0:Int)≤k:=by omega
    have hw:IntKind.i64.wrap ((k:Int)+1)=((k+1:Nat):Int):=by rw[nU _ (by omega) (by omega)];omega
    have hs:=zI dX (fun b=>decide (x<b.slot)) (ol v.O) k (by omega)
    by_cases hh:x<(gx dX (ol v.O) (k:Int)).slot
    ·rw[if_pos (decide_eq_true hh)] at hs;rcases h5 with ⟨hy,h5⟩|⟨hy,g,h5⟩
     ·rw[hy] at hs;apply Cx ((ol v.O).length-(k+1))
      ·simp only[ZG,seval,Bool.false_and,Prod.mk.injEq,hI,h5,bA,hw,q0,sZ,JF,hh];rfl
      ·exact⟨k+1,by simp only[E8,seval,hI],.inr ⟨by rw[hs];simp,_,by simp only[E8,seval]<;>rfl,(by simp only[E8,seval]<;>omega),(by rw[hs];simp only[E8,seval]<;>rfl)⟩,by omega,rfl⟩
     ·apply Cx ((ol v.O).length-(k+1))
      ·simp only[ZG,seval,Bool.false_and,Prod.mk.injEq,hI,h5,Hv,bA,hw,q0,sZ,JF,hh];rfl
      ·exact⟨k+1,by simp only[E8,seval,hI],.inr ⟨by rw[hs];simp,_,by simp only[E8,seval]<;>rfl,(by simp only[E8,seval]<;>omega),(by rw[hs];simp only[E8,seval]<;>rfl)⟩,by omega,rfl⟩
    ·rw[if_neg (by simpa using hh),List.append_nil] at hs
     apply Cx ((ol v.O).length-(k+1))
     ·simp only[ZG,seval,Bool.false_and,Prod.mk.injEq,hI,bA,hw,q0,sZ,JF,hh];rfl
     ·exact⟨k+1,by simp only[E8,seval,hI],by rw[hs];simpa only[E8,seval] using h5,by omega,rfl⟩
   ·have Bu:k=(ol v.O).length:=by omega
    rw[Bu] at h5;apply HF (.exit 0)
    ·simp only[ZG,seval,Bool.false_and,Prod.mk.injEq,hI,bA,sZ,JF];rfl
    ·exact⟨rfl,by simpa only[E8,seval] using h5,by simp only[E8,seval,hI]⟩
  case start=>exact⟨0,by simp only[E8,seval,eS]<;>rfl,.inl ⟨rfl,by simp only[E8,seval]⟩,by omega,by omega⟩
  case rest =>
   rintro e st ⟨rfl,⟨hy,h5⟩|⟨hy,g,h5,hg,Bh⟩,hI⟩
   ·rw[List.take_length] at hy;rw[show nz ((ol v.O).filter fun b=>decide (x<b.slot))=none from if_pos hy] at hv
    rw[eS] at hI;simp only[ZG,seval,Bool.false_and,Prod.mk.injEq,sZ,h5,hI];exact⟨_,fL rfl (by simp only[E8,seval,hI,pG,and_self]<;>rfl) (by simp only[Z8,seval,hI,pG,and_self]<;>rfl) (by simp only[eC,and_self,hI,pG,and_self]),by rw[hv];rfl⟩
   ·rw[List.take_length] at hy Bh;rw[show nz ((ol v.O).filter fun b=>decide (x<b.slot))=some ((ol v.O).filter fun b=>decide (x<b.slot)) from if_neg hy] at hv
    rw[eS] at hI;simp only[ZG,seval,Bool.false_and,Prod.mk.injEq,sZ,h5,Bh,hI];exact⟨_,by apply eA;rfl;all_goals simp only[aH,Z8,seval,hI,Bh,pG,bP,gG,bO,cS,uM,eC]<;>rfl,by rw[hv];rfl⟩
 ·have hz:(nz (qN (ol v.T) J.aG))=some (qN (ol v.T) J.aG):=if_neg e1
  rw[show Qb 118 34 aI (qN (ol v.T) J.aG)=.uniq 118 34 (qN (ol v.T) J.aG).length (aI (qN (ol v.T) J.aG)) from if_neg e1] at aCO;have Zq:∀(st:St),aO (aB Tryz.prog) 128 [ov aI v.T,.v (.int .u64 J.aG)] st (some 30)=_:=fun st=>jG (st:=st) (d:=30) (bF hs.fT (.v _)) aCO
  have UU:∀t∈qN (ol v.T) J.aG,Flat t.iP:=fun t m=>(hs.tB t (List.mem_filter.1 m).1).fl
  have hex:=Qe (qN (ol v.T) J.aG).length (qN (ol v.T) J.aG) UU
  by_cases e2:F=s.aL.fin
  ·rw[if_pos e2,hz] at hv;subst e2;simp only[ZG,seval,Bool.false_and,Prod.mk.injEq,sZ,JE,dN,hs.tables,Zq,decide_true,decide_false];exact⟨_,by apply eA;rfl;all_goals simp only[aH,Z8,seval,pG,bP,gG,bO,cS,hex]<;>rfl,by rw[hv];rfl⟩
  rw[if_neg e2,hz] at hv;obtain⟨Zr,en⟩:∃Zr,(jQ v.ns (aN v.ns F.root) v.ns.length).1=Zr:=⟨_,rfl⟩
  have Hu:(Zr.length:Int)<1000000:=by have:=Tb (ns:=v.ns) (aN v.ns F.root);have:=hs.nn;rw[← en];omega
  unfold F0 at kp;rw[en] at kp hv;obtain⟨x,ex⟩:∃x,(Pt F.aG s.cFg.jH).1=x:=⟨_,rfl⟩
  rw[show (vC s F.aG).1=x from ex] at hv;by_cases e3:aN Zr s.eE<0
  ·rw[if_pos e3] at hv;obtain⟨S1,eS⟩:∃S1:aM,S1={ cFg:=s.cFg,gH:=s.gH,aL:=⟨J,F⟩,cC:=s.cC,tree:=⟨.sl Zr.length (bU Zr)⟩,now:=s.now,eE:=dR,tables:=.own 30 0 }:=⟨_,rfl⟩
   have hS:∀st:St,st.heap 30 0=some (.row 118 34 (qN (ol v.T) J.aG).length (aI (qN (ol v.T) J.aG)))→fP st (.agg (aA S1))=some (.agg (aA { S1 with tables:=.sl (qN (ol v.T) J.aG).length (aI (qN (ol v.T) J.aG))})):=by
    intro st h;rw[eS];simp only[bP,gG,bO,h,hex,cS,eC,pG,cF]
   have Zs:∀(st:St) (d:Option Nat),st.heap 30 0=some (.row 118 34 (qN (ol v.T) J.aG).length (aI (qN (ol v.T) J.aG)))→aO (aB Tryz.prog) 99 [.agg (aA S1),.v (.int .u64 F.aG)] st d=some { dst:=d,val:=.eG [.v (.int .u64 (vC S1 F.aG).1),.v (.bool ((vC S1 F.aG).2 == 0))]}:=by
    intro st d h;rw[jV,List.map_cons,List.map_cons,List.map_nil,hS st h,Nk,bM,bM,fY];exact F6 (c99 _ F.aG) (by intro x hx;simp only[List.mem_cons,List.not_mem_nil,or_false] at hx;rcases hx with rfl|rfl<;>exact .v _) (.eG _ (bF (.v _) (.v _)))
   simp only[vC,eS,ex] at Zs
   simp only[ZG,seval,Bool.false_and,Prod.mk.injEq,sZ,JE,dN,hs.tables,Zq,decide_true,decide_false,e2,hs.tree,mU _ _ hs.nn,kp,mU _ _ Hu,e3,Zs,hs.bL];have JF:S1.cC.bL=ov aF v.O:=by rw[eS];exact hs.bL
   refine kS (fun m st=>∃k:Nat,(st.env 3=.ptr 3 0 0∧st.heap 3 0=some (.cells (aA S1))∧st.env 6=.ptr 6 0 0∧st.heap 6 0=some (.cells (aA fW))∧st.env 11=.v (.int .u64 x)∧st.heap 30 0=some (.row 118 34 (qN (ol v.T) J.aG).length (aI (qN (ol v.T) J.aG)))∧st.env 14=.v (.int .i64 k))∧(((((ol v.O).take k).filter (fun b=>decide (x<b.slot)))=[]∧st.env 13=.v (.slice none 0 0))∨((((ol v.O).take k).filter (fun b=>decide (x<b.slot)))≠[]∧∃g,st.env 13=.own 99 g∧g<st.aU 99∧st.heap 99 g=some (.row 74 238 (((ol v.O).take k).filter (fun b=>decide (x<b.slot))).length (aF (((ol v.O).take k).filter (fun b=>decide (x<b.slot)))))))∧k≤(ol v.O).length∧m=(ol v.O).length-k)
    (fun e st=>e=.exit 0∧(((((ol v.O).take (ol v.O).length).filter (fun b=>decide (x<b.slot)))=[]∧st.env 13=.v (.slice none 0 0))∨((((ol v.O).take (ol v.O).length).filter (fun b=>decide (x<b.slot)))≠[]∧∃g,st.env 13=.own 99 g∧g<st.aU 99∧st.heap 99 g=some (.row 74 238 (((ol v.O).take (ol v.O).length).filter (fun b=>decide (x<b.slot))).length (aF (((ol v.O).take (ol v.O).length).filter (fun b=>decide (x<b.slot)))))))∧st.env 3=.ptr 3 0 0∧st.heap 3 0=some (.cells (aA S1))∧st.env 6=.ptr 6 0 0∧st.heap 6 0=some (.cells (aA fW))∧st.env 11=.v (.int .u64 x)∧st.heap 30 0=some (.row 118 34 (qN (ol v.T) J.aG).length (aI (qN (ol v.T) J.aG)))) ((ol v.O).length) ?step ?start ?rest
   case step =>
    rintro m st ⟨k,hI,h5,hk,hm⟩
    have Hv:(((((ol v.O).take k).filter (fun b=>decide (x<b.slot))).length:Nat):Int)<1000000:=by have:=List.length_filter_le (fun b=>decide (x<b.slot)) ((ol v.O).take k);have h2:=List.length_take_le' k (ol v.O);omega
    by_cases bA:(k:Int)<(ol v.O).length
    ·have q0:(0:Int)≤k:=by omega
     have hw:IntKind.i64.wrap ((k:Int)+1)=((k+1:Nat):Int):=by rw[nU _ (by omega) (by omega)];omega
     have hs:=zI dX (fun b=>decide (x<b.slot)) (ol v.O) k (by omega)
     by_cases hh:x<(gx dX (ol v.O) (k:Int)).slot
     ·rw[if_pos (decide_eq_true hh)] at hs;rcases h5 with ⟨hy,h5⟩|⟨hy,g,h5⟩
      ·rw[hy] at hs;apply Cx ((ol v.O).length-(k+1))
       ·simp only[ZG,seval,Bool.false_and,Prod.mk.injEq,hI,h5,bA,hw,q0,sZ,JF,hh];rfl
       ·exact⟨k+1,by simp only[E8,seval,hI],.inr ⟨by rw[hs];simp,_,by simp only[E8,seval]<;>rfl,(by simp only[E8,seval]<;>omega),(by rw[hs];simp only[E8,seval]<;>rfl)⟩,by omega,rfl⟩
      ·apply Cx ((ol v.O).length-(k+1))
       ·simp only[ZG,seval,Bool.false_and,Prod.mk.injEq,hI,h5,Hv,bA,hw,q0,sZ,JF,hh];rfl
       ·exact⟨k+1,by simp only[E8,seval,hI],.inr ⟨by rw[hs];simp,_,by simp only[E8,seval]<;>rfl,(by simp only[E8,seval]<;>omega),(by rw[hs];simp only[E8,seval]<;>rfl)⟩,by omega,rfl⟩
     ·rw[if_neg (by simpa using hh),List.append_nil] at hs
      apply Cx ((ol v.O).length-(k+1))
      ·simp only[ZG,seval,Bool.false_and,Prod.mk.injEq,hI,bA,hw,q0,sZ,JF,hh];rfl
      ·exact⟨k+1,by simp only[E8,seval,hI],by rw[hs];simpa only[E8,seval] using h5,by omega,rfl⟩
    ·have Bu:k=(ol v.O).length:=by omega
     rw[Bu] at h5;apply HF (.exit 0)
     ·simp only[ZG,seval,Bool.false_and,Prod.mk.injEq,hI,bA,sZ,JF];rfl
     ·exact⟨rfl,by simpa only[E8,seval] using h5,by simp only[E8,seval,hI]⟩
   case start=>exact⟨0,by simp only[E8,seval,eS]<;>rfl,.inl ⟨rfl,by simp only[E8,seval]⟩,by omega,by omega⟩
   case rest =>
    rintro e st ⟨rfl,⟨hy,h5⟩|⟨hy,g,h5,hg,Bh⟩,hI⟩
    ·rw[List.take_length] at hy;rw[show nz ((ol v.O).filter fun b=>decide (x<b.slot))=none from if_pos hy] at hv
     rw[eS] at hI;simp only[ZG,seval,Bool.false_and,Prod.mk.injEq,sZ,h5,hI];exact⟨_,by apply eA;rfl;all_goals simp only[aH,Z8,seval,hI,pG,bP,gG,bO,cS,uM,eC,hex]<;>rfl,by rw[hv];rfl⟩
    ·rw[List.take_length] at hy Bh;rw[show nz ((ol v.O).filter fun b=>decide (x<b.slot))=some ((ol v.O).filter fun b=>decide (x<b.slot)) from if_neg hy] at hv
     rw[eS] at hI;simp only[ZG,seval,Bool.false_and,Prod.mk.injEq,sZ,h5,Bh,hI];exact⟨_,by apply eA;rfl;all_goals simp only[aH,Z8,seval,hI,Bh,pG,bP,gG,bO,cS,uM,eC,hex]<;>rfl,by rw[hv];rfl⟩
  rw[if_neg e3] at hv;obtain⟨S1,eS⟩:∃S1:aM,S1={ cFg:=s.cFg,gH:=s.gH,aL:=⟨J,F⟩,cC:=s.cC,tree:=⟨.sl Zr.length (bU Zr)⟩,now:=s.now,eE:=s.eE,tables:=.own 30 0 }:=⟨_,rfl⟩
  have hS:∀st:St,st.heap 30 0=some (.row 118 34 (qN (ol v.T) J.aG).length (aI (qN (ol v.T) J.aG)))→fP st (.agg (aA S1))=some (.agg (aA { S1 with tables:=.sl (qN (ol v.T) J.aG).length (aI (qN (ol v.T) J.aG))})):=by
   intro st h;rw[eS];simp only[bP,gG,bO,h,hex,cS,eC,pG,cF]
  have Zs:∀(st:St) (d:Option Nat),st.heap 30 0=some (.row 118 34 (qN (ol v.T) J.aG).length (aI (qN (ol v.T) J.aG)))→aO (aB Tryz.prog) 99 [.agg (aA S1),.v (.int .u64 F.aG)] st d=some { dst:=d,val:=.eG [.v (.int .u64 (vC S1 F.aG).1),.v (.bool ((vC S1 F.aG).2 == 0))]}:=by
   intro st d h;rw[jV,List.map_cons,List.map_cons,List.map_nil,hS st h,Nk,bM,bM,fY];exact F6 (c99 _ F.aG) (by intro x hx;simp only[List.mem_cons,List.not_mem_nil,or_false] at hx;rcases hx with rfl|rfl<;>exact .v _) (.eG _ (bF (.v _) (.v _)))
  simp only[vC,eS,ex] at Zs
  simp only[ZG,seval,Bool.false_and,Prod.mk.injEq,sZ,JE,dN,hs.tables,Zq,decide_true,decide_false,e2,hs.tree,mU _ _ hs.nn,kp,mU _ _ Hu,e3,Zs,hs.bL];have JF:S1.cC.bL=ov aF v.O:=by rw[eS];exact hs.bL
  refine kS (fun m st=>∃k:Nat,(st.env 3=.ptr 3 0 0∧st.heap 3 0=some (.cells (aA S1))∧st.env 6=.ptr 6 0 0∧st.heap 6 0=some (.cells (aA fW))∧st.env 11=.v (.int .u64 x)∧st.heap 30 0=some (.row 118 34 (qN (ol v.T) J.aG).length (aI (qN (ol v.T) J.aG)))∧st.env 14=.v (.int .i64 k))∧(((((ol v.O).take k).filter (fun b=>decide (x<b.slot)))=[]∧st.env 13=.v (.slice none 0 0))∨((((ol v.O).take k).filter (fun b=>decide (x<b.slot)))≠[]∧∃g,st.env 13=.own 99 g∧g<st.aU 99∧st.heap 99 g=some (.row 74 238 (((ol v.O).take k).filter (fun b=>decide (x<b.slot))).length (aF (((ol v.O).take k).filter (fun b=>decide (x<b.slot)))))))∧k≤(ol v.O).length∧m=(ol v.O).length-k)
   (fun e st=>e=.exit 0∧(((((ol v.O).take (ol v.O).length).filter (fun b=>decide (x<b.slot)))=[]∧st.env 13=.v (.slice none 0 0))∨((((ol v.O).take (ol v.O).length).filter (fun b=>decide (x<b.slot)))≠[]∧∃g,st.env 13=.own 99 g∧g<st.aU 99∧st.heap 99 g=some (.row 74 238 (((ol v.O).take (ol v.O).length).filter (fun b=>decide (x<b.slot))).length (aF (((ol v.O).take (ol v.O).length).filter (fun b=>decide (x<b.slot)))))))∧st.env 3=.ptr 3 0 0∧st.heap 3 0=some (.cells (aA S1))∧st.env 6=.ptr 6 0 0∧st.heap 6 0=some (.cells (aA fW))∧st.env 11=.v (.int .u64 x)∧st.heap 30 0=some (.row 118 34 (qN (ol v.T) J.aG).length (aI (qN (ol v.T) J.aG)))) ((ol v.O).length) ?step ?start ?rest
  case step =>
   rintro m st ⟨k,hI,h5,hk,hm⟩
   have Hv:(((((ol v.O).take k).filter (fun b=>decide (x<b.slot))).length:Nat):Int)<1000000:=by have:=List.length_filter_le (fun b=>decide (x<b.slot)) ((ol v.O).take k);have h2:=List.length_take_le' k (ol v.O);omega
   by_cases bA:(k:Int)<(ol v.O).length
   ·have q0:(0:Int)≤k:=by omega
    have hw:IntKind.i64.wrap ((k:Int)+1)=((k+1:Nat):Int):=by rw[nU _ (by omega) (by omega)];omega
    have hs:=zI dX (fun b=>decide (x<b.slot)) (ol v.O) k (by omega)
    by_cases hh:x<(gx dX (ol v.O) (k:Int)).slot
    ·rw[if_pos (decide_eq_true hh)] at hs;rcases h5 with ⟨hy,h5⟩|⟨hy,g,h5⟩
     ·rw[hy] at hs;apply Cx ((ol v.O).length-(k+1))
      ·simp only[ZG,seval,Bool.false_and,Prod.mk.injEq,hI,h5,bA,hw,q0,sZ,JF,hh];rfl
      ·exact⟨k+1,by simp only[E8,seval,hI],.inr ⟨by rw[hs];simp,_,by simp only[E8,seval]<;>rfl,(by simp only[E8,seval]<;>omega),(by rw[hs];simp only[E8,seval]<;>rfl)⟩,by omega,rfl⟩
     ·apply Cx ((ol v.O).length-(k+1))
      ·simp only[ZG,seval,Bool.false_and,Prod.mk.injEq,hI,h5,Hv,bA,hw,q0,sZ,JF,hh];rfl
      ·exact⟨k+1,by simp only[E8,seval,hI],.inr ⟨by rw[hs];simp,_,by simp only[E8,seval]<;>rfl,(by simp only[E8,seval]<;>omega),(by rw[hs];simp only[E8,seval]<;>rfl)⟩,by omega,rfl⟩
    ·rw[if_neg (by simpa using hh),List.append_nil] at hs
     apply Cx ((ol v.O).length-(k+1))
     ·simp only[ZG,seval,Bool.false_and,Prod.mk.injEq,hI,bA,hw,q0,sZ,JF,hh];rfl
     ·exact⟨k+1,by simp only[E8,seval,hI],by rw[hs];simpa only[E8,seval] using h5,by omega,rfl⟩
   ·have Bu:k=(ol v.O).length:=by omega
    rw[Bu] at h5;apply HF (.exit 0)
    ·simp only[ZG,seval,Bool.false_and,Prod.mk.injEq,hI,bA,sZ,JF];rfl
    ·exact⟨rfl,by simpa only[E8,seval] using h5,by simp only[E8,seval,hI]⟩
  case start=>exact⟨0,by simp only[E8,seval,eS]<;>rfl,.inl ⟨rfl,by simp only[E8,seval]⟩,by omega,by omega⟩
  case rest =>
   rintro e st ⟨rfl,⟨hy,h5⟩|⟨hy,g,h5,hg,Bh⟩,hI⟩
   ·rw[List.take_length] at hy;rw[show nz ((ol v.O).filter fun b=>decide (x<b.slot))=none from if_pos hy] at hv
    rw[eS] at hI;simp only[ZG,seval,Bool.false_and,Prod.mk.injEq,sZ,h5,hI];exact⟨_,by apply eA;rfl;all_goals simp only[aH,Z8,seval,hI,pG,bP,gG,bO,cS,uM,eC,hex]<;>rfl,by rw[hv];rfl⟩
   ·rw[List.take_length] at hy Bh;rw[show nz ((ol v.O).filter fun b=>decide (x<b.slot))=some ((ol v.O).filter fun b=>decide (x<b.slot)) from if_neg hy] at hv
    rw[eS] at hI;simp only[ZG,seval,Bool.false_and,Prod.mk.injEq,sZ,h5,Bh,hI];exact⟨_,by apply eA;rfl;all_goals simp only[aH,Z8,seval,hI,Bh,pG,bP,gG,bO,cS,uM,eC,hex]<;>rfl,by rw[hv];rfl⟩
theorem k61 {s:aM} {v:SV} (hs:SD s v) (hu:gK v.ns) (hp:s.cFg.jH≠0) (c1 c2:dQ) (st:St) (d:Option Nat):aO (aB Tryz.prog) 61 [.agg (aA s),.agg (bB c1),.agg (bB c2)] st d=some { dst:=d,val:=.agg (aA (yE s v c1 c2))}:=bG (mE hs.flat (.agg _ (bR c1)) (.agg _ (bR c2))) (c61 hs hu hp c1 c2) (hs.dS hu c1 c2).flat
theorem Ca {α:Type} (s g:Nat) (cs:List α→List AV) (o:Option (List α)):fK (.own s g) (ov cs o)=True:=by cases o<;>rfl
theorem Cb {α:Type} (s g:Nat) (cs:List α→List AV) (o:Option (List α)):fK (ov cs o) (.own s g)=True:=by cases o<;>rfl
theorem Is {α:Type} (s g n:Nat) (cs:List α→List AV) (o:Option (List α)):fK (.ptr s g n) (ov cs o)=True:=by cases o<;>rfl
theorem It {α:Type} (s g n:Nat) (cs:List α→List AV) (o:Option (List α)):fK (ov cs o) (.ptr s g n)=True:=by cases o<;>rfl
theorem aKZ (t:Table) (b:Option (List Int)) (hb:t.iP=ov bI b) (hl:((ol b).length:Int)<1000000):aB Tryz.prog 158 [.agg (cA t)]=some (.agg (cA ⟨t.ck,ov bI (some (ol b))⟩)):=by
 rw[cL Tryz.func158 rfl aK0 rfl];refine iT ?_
 simp only[Z8,seval,hb,Gc _ hl];exact⟨_,by apply eA;rfl;all_goals simp only[aH,Z8,seval,bP,tM,bO,uN]<;>rfl,rfl⟩
def aQs (o:Option (List Table)) (t':Table) (L:List Table):Prop:=L.length=(ol o).length+1∧(∀x∈L,x∈ol o∨x=t')∧∀x∈ol o,x∈L
theorem aQt (o:Option (List Table)) (hn:((ol o).length:Int)<999999) (hT:∀x∈ol o,Flat x.iP) (t:Table) (b:Option (List Int)) (hb:t.iP=ov bI b) (hl:((ol b).length:Int)<1000000) :
 ∃r,aB Tryz.prog 195 [ov aI o,.agg (cA t)]=some r∧∃L,aQs o ⟨t.ck,ov bI (some (ol b))⟩ L∧r=.uniq 118 34 L.length (aI L):=by
 have hfT:Flat (.agg (cA t)):=(iE t).2 (by rw[hb];exact dV b)
 have hf2:Flat (.agg (cA ⟨t.ck,ov bI (some (ol b))⟩)):=(iE _).2 (dV (some (ol b)))
 have hto:=jW o hT
 have aGv:=kx (aKZ t b hb hl) (cV hfT) hf2
 rw[cG Tryz.func195 rfl aK2 (by kernel_rfl) (by cases o<;>rfl)]
 simp only[ZG,seval,Bool.false_and,Prod.mk.injEq,ON];refine kS (fun m st=>∃k:Nat,(st.env 0=ov aI o∧st.env 3=.ptr 3 0 0∧st.heap 3 0=some (.cells (cA t))∧st.env 5=.v (.int .i64 k))∧k≤(ol o).length∧m=(ol o).length-k)
  (fun e st=>e=.exit 0∧∃k:Nat,(st.env 0=ov aI o∧st.env 3=.ptr 3 0 0∧st.heap 3 0=some (.cells (cA t))∧st.env 5=.v (.int .i64 k))∧k≤(ol o).length) (ol o).length ?step ?start ?rest
 case step =>
  rintro m st ⟨k,hI,hk,hm⟩
  by_cases bA:(k:Int)<(ol o).length
  ·have q0:(0:Int)≤k:=by omega
   have hw:IntKind.i64.wrap ((k:Int)+1)=((k+1:Nat):Int):=by rw[nU _ (by omega) (by omega)];omega
   by_cases h1:aKV (gx eI (ol o) (k:Int)).ck t.ck<0
   ·apply Cx ((ol o).length-(k+1))
    ·simp only[ZG,seval,Bool.false_and,Prod.mk.injEq,ON,hI,bA,q0,aKW,h1,hw];rfl
    ·exact⟨k+1,by simp only[E8,seval,hI],by omega,rfl⟩
   ·apply HF (.exit 0)
    ·simp only[ZG,seval,Bool.false_and,Prod.mk.injEq,ON,hI,bA,q0,aKW,h1];rfl
    ·exact⟨rfl,k,by simp only[E8,seval,hI],hk⟩
  ·apply HF (.exit 0)
   ·simp only[ZG,seval,Bool.false_and,Prod.mk.injEq,ON,hI,bA];rfl
   ·exact⟨rfl,k,by simp only[E8,seval,hI],hk⟩
 case start=>exact⟨0,by simp only[E8,seval]<;>rfl,by omega,by omega⟩
 case rest =>
  rintro e st ⟨rfl,k,hI,hk⟩
  have e1:ol (o.map (·.take k))=(ol o).take k:=by cases o<;>simp[ol]
  have e2:ol (o.map (·.drop k))=(ol o).drop k:=by cases o<;>simp[ol]
  have n1:(((ol (o.map (·.take k))).length:Nat):Int)<1000000:=by rw[e1,List.length_take];omega
  have n2:(((ol (o.map (·.drop k))).length:Nat):Int)<1000000:=by rw[e2,List.length_drop];omega
  have n3:(((ol (o.map (·.take k))++[(⟨t.ck,ov bI (some (ol b))⟩:Table)]).length:Nat):Int)<1000000:=by rw[List.length_append,e1,List.length_take];simp;omega
  have q0:(0:Int)≤k:=by omega
  have q1:(k:Int)≤((ol o).length:Int):=by omega
  have hr:∀x∈aI (ol (o.map (·.take k))++[(⟨t.ck,ov bI (some (ol b))⟩:Table)]++ol (o.map (·.drop k))),Flat x:=by
   refine iL _ fun x m=>?_
   rw[e1,e2] at m;rcases List.mem_append.1 m with m|m
   ·rcases List.mem_append.1 m with m|m
    ·exact hT x (List.mem_of_mem_take m)
    ·rw[List.mem_singleton.1 m];exact dV (some (ol b))
   ·exact hT x (List.mem_of_mem_drop m)
  simp only[ZG,seval,Bool.false_and,Prod.mk.injEq,ON,Ca,Cb,and_self,hI,q0,q1,Int.toNat_natCast,aGv,HG _ n1,Tc _ _ _ _ n1,HH _ _ _ _ n3 n2];refine⟨_,tV rfl (by simp only[E8,seval]<;>rfl) (by simp only[E8,seval]<;>rfl) hr,_,⟨?_,fun x m=>?_,fun x m=>?_⟩,rfl⟩
  ·rw[e1,e2,List.length_append,List.length_append,List.length_take,List.length_drop];simp;omega
  ·rw[e1,e2] at m;rcases List.mem_append.1 m with m|m
   ·rcases List.mem_append.1 m with m|m
    ·exact .inl (List.mem_of_mem_take m)
    ·exact .inr (List.mem_singleton.1 m)
   ·exact .inl (List.mem_of_mem_drop m)
  ·rw[e1,e2];rw[← List.take_append_drop k (ol o)] at m;rcases List.mem_append.1 m with m|m
   ·exact List.mem_append_left _ (List.mem_append_left _ m)
   ·exact List.mem_append_right _ m
theorem aQv (o:Option (List Table)) (hn:((ol o).length:Int)<999999) (hT:∀x∈ol o,rZ x) (t:Table) (ht:rZ t) (n lJ:Int) :
 ∃r,aB Tryz.prog 172 [ov aI o,.agg (cA t),.v (.int .i64 n),.v (.int .i64 lJ)]=some r∧∃o' e,r=.eG [ov aI o',.v (.int .i64 e)]∧e≠21∧((ol o').length:Int)≤max ((ol o).length:Int) lJ∧(∀x∈ol o',rZ x)∧(ol o ⊆ ol o')∧(e=0→o'≠some []∧∀x∈ol o',x∈ol o∨∃B,x.iP=ov bI (some B)∧(B.length:Int)=n):=by
 obtain⟨b,hb,hl⟩:=id ht
 have hfT:Flat (.agg (cA t)):=(iE t).2 ht.fl
 have hto:=jW o fun x m=>(hT x m).fl
 obtain⟨r,hr,e,rfl,he,hlen⟩:=aFa t b hb hl n
 have JG:=kx hr (bF hfT (.v _)) (.v _)
 have Hu:((ol o).length:Int)<1000000:=by omega
 have aGw:=v7 o Hu hto
 rw[cL Tryz.func172 rfl aK3 (by cases o<;>rfl)]
 by_cases g1:e=0
 case neg =>
  simp only[Z8,seval,JG,bf g1,nD _ _ fun x m=>(hT x m).fl]
  exact⟨_,dK rfl rfl rfl (by simp only[E8,seval,nD _ _ fun x m=>(hT x m).fl]<;>rfl) (by simp only[E8,seval,nD _ _ fun x m=>(hT x m).fl]<;>rfl),o,e,rfl,he,by omega,hT,fun x m=>m,fun h=>absurd h g1⟩
 by_cases g2:0≤DV (ol o) t.ck
 ·simp only[Z8,seval,JG,bt g1,aGw,g2];exact⟨_,dK rfl rfl rfl (by simp only[E8,seval,nD _ _ fun x m=>(hT x m).fl]<;>rfl) (by simp only[E8,seval,nD _ _ fun x m=>(hT x m).fl]<;>rfl),o,9,rfl,by decide,by omega,hT,fun x m=>m,fun h=>by cases h⟩
 by_cases g3:lJ≤((ol o).length:Int)
 ·simp only[Z8,seval,JG,bt g1,aGw,g2,g3];exact⟨_,dK rfl rfl rfl (by simp only[E8,seval,nD _ _ fun x m=>(hT x m).fl]<;>rfl) (by simp only[E8,seval,nD _ _ fun x m=>(hT x m).fl]<;>rfl),o,11,rfl,by decide,by omega,hT,fun x m=>m,fun h=>by cases h⟩
 obtain⟨r2,hr2,L,⟨Ws,hL2,hL3⟩,rfl⟩:=aQt o hn (fun x m=>(hT x m).fl) t b hb hl
 have hTL:∀x∈L,rZ x:=fun x m=>(hL2 x m).elim (hT x) fun e=>by rw[e];exact⟨some (ol b),rfl,hl⟩
 have k195:∀(st:St),aO (aB Tryz.prog) 195 [ov aI o,.agg (cA t)] st (some 31)=_:=fun st=>jG (st:=st) (d:=31) (bF hto hfT) hr2
 have hex:=Qe L.length L fun x m=>(hTL x m).fl
 simp only[Z8,seval,JG,bt g1,aGw,g2,g3,k195];exact⟨_,dK rfl rfl rfl (by simp only[E8,seval,hex]<;>rfl) (by simp only[E8,seval,hex]<;>rfl),some L,0,rfl,by decide,by show ((L.length:Nat):Int)≤_;omega,hTL,hL3,fun _=>⟨fun e=>by injection e with e;rw[e] at Ws;simp at Ws,fun x m=>(hL2 x m).imp id fun e=>by rw[e];exact⟨ol b,rfl,hlen g1⟩⟩⟩
theorem aK4 {s:aM} {v:SV} (hs:SD s v) (hn:((ol v.T).length:Int)<999999) (t:Table) (ht:rZ t) :
 ∃r,aB Tryz.prog 117 [.agg (aA s),.agg (cA t)]=some r∧∃s' e,r=.eG [.agg (aA s'),.v (.int .i64 e)]∧Flat (.agg (aA s'))∧e≠21∧(e=0→∃o',s'={ s with tables:=ov aI o' }∧((ol o').length:Int)≤max ((ol v.T).length:Int) s.cFg.lJ.qC∧(∀x∈ol o',rZ x)∧(ol v.T ⊆ ol o')∧o'≠some []∧∀x∈ol o',x∈ol v.T∨∃B,x.iP=ov bI (some B)∧(B.length:Int)=(ol v.B).length):=by
 have hf:=hs.flat
 have pG:=hs.fl
 have hfT:Flat (.agg (cA t)):=(iE t).2 ht.fl
 have hz:Flat (.agg (aA fW)):=by simp only[eC,fW,mS,Nl,Gd,Td,and_self]
 obtain⟨r,hr,e,rfl,he⟩:=aQi t ht (ol v.B).length
 have JG:=kx hr (bF hfT (.v _)) (.v _)
 obtain⟨r2,hr2,o',e2,rfl,he2,Wo,hT2,hsub,hne2⟩:=aQv v.T hn hs.tB t ht (ol v.B).length s.cFg.lJ.qC
 have hf2:Flat (ov aI o'):=jW o' fun x m=>(hT2 x m).fl
 have k172:=kx hr2 (by simp only[List.mem_cons,List.not_mem_nil,or_false,forall_eq_or_imp,forall_eq,aGl,and_true];exact⟨hs.fT,hfT⟩) (.eG _ (bF hf2 (.v _)))
 rw[cL Tryz.func117 rfl aK5 rfl];by_cases g1:e=0
 case neg =>
  simp only[Z8,seval,Zm hs,JG,bf g1];exact⟨_,by apply dK;rfl;all_goals simp only[aH,bY,Z8,seval,hz]<;>rfl,fW,e,rfl,hz,he,fun h=>absurd h g1⟩
 by_cases g2:t.ck.aG<s.aL.gI.aG
 ·simp only[Z8,seval,Zm hs,JG,bt g1,g2];exact⟨_,by apply dK;rfl;all_goals simp only[aH,bY,Z8,seval,hz]<;>rfl,fW,13,rfl,hz,by decide,fun h=>by cases h⟩
 by_cases g3:e2=0
 case neg =>
  simp only[Z8,seval,Zm hs,JG,bt g1,g2,hs.tables,k172,dN,bf g3];exact⟨_,by apply dK;rfl;all_goals simp only[aH,bY,Z8,seval,hz]<;>rfl,fW,e2,rfl,hz,he2,fun h=>absurd h g3⟩
 ·have hf3:Flat (.agg (aA { s with tables:=ov aI o' })):=by simp only[eC,pG,hf2,and_self]
  simp only[Z8,seval,Zm hs,JG,bt g1,g2,hs.tables,k172,dN,bt g3];exact⟨_,by apply dK;rfl;all_goals simp only[aH,bY,Z8,seval,hf3]<;>rfl,_,0,rfl,hf3,by decide,fun _=>⟨o',rfl,Wo,hT2,hsub,hne2 g3⟩⟩
noncomputable def DX (v:SV):Int:=uL (fun k=>0≤aN v.ns (gx dX (ol v.O) k).parent) (ol v.O).length
theorem aK6 {s:aM} {v:SV} (hs:SD s v):aB Tryz.prog 218 [.agg (aA s)]=some (.v (.int .i64 (DX v))):=by
 have hn:=hs.nO
 rw[cL Tryz.func218 rfl aK7 rfl];refine iT ?_
 simp only[Z8,seval,hs.bL];refine cI (fun m st=>∃k:Nat,(st.env 1=.ptr 1 0 0∧st.heap 1 0=some (.cells (aA s))∧st.env 3=.v (.int .i64 k))∧(∀j:Nat,j<k→¬(0≤aN v.ns (gx dX (ol v.O) (j:Int)).parent))∧k≤(ol v.O).length∧m=(ol v.O).length-k)
  (fun e st=>(e=.ret∧∃k:Nat,k<(ol v.O).length∧(0≤aN v.ns (gx dX (ol v.O) (k:Int)).parent)∧(∀j:Nat,j<k→¬(0≤aN v.ns (gx dX (ol v.O) (j:Int)).parent))∧st.env 2=.v (.int .i64 (k:Nat)))∨(e=.exit 0∧(∀j:Nat,j<(ol v.O).length→¬(0≤aN v.ns (gx dX (ol v.O) (j:Int)).parent))∧st.env 1=.ptr 1 0 0∧st.heap 1 0=some (.cells (aA s)))) ((ol v.O).length) ?step ?start ?rest
 case step =>
  rintro m st ⟨k,hI,hj,hk,hm⟩
  by_cases bA:(k:Int)<(ol v.O).length
  ·have q0:(0:Int)≤k:=by omega
   have hw:IntKind.i64.wrap ((k:Int)+1)=((k+1:Nat):Int):=by rw[nU _ (by omega) (by omega)];omega
   by_cases hh:0≤aN v.ns (gx dX (ol v.O) (k:Int)).parent
   ·apply oT (.ret)
    ·simp only[Z8,seval,hI,bA,q0,hs.bL,hs.tree,mU _ _ hs.nn,hh];rfl
    ·exact .inl ⟨rfl,k,by omega,hh,hj,by simp only[E8,seval,hs.bL,hs.tree,mU _ _ hs.nn]⟩
   ·apply oN ((ol v.O).length-(k+1))
    ·simp only[Z8,seval,hI,bA,q0,hs.bL,hs.tree,mU _ _ hs.nn,hh,hw];rfl
    ·exact⟨k+1,by simp only[E8,seval,hI],fun j h=>(Nat.lt_succ_iff_lt_or_eq.1 h).elim (hj j) fun e=>by subst e;exact hh,by omega,rfl⟩
  ·apply oT (.exit 0)
   ·simp only[Z8,seval,hI,bA,hs.bL,hs.tree,mU _ _ hs.nn];rfl
   ·exact .inr ⟨rfl,fun j h=>hj j (by omega),by simp only[E8,seval,hI]⟩
 case start=>exact⟨0,by simp only[E8,seval]<;>rfl,fun j h=>by omega,by omega,by omega⟩
 case rest =>
  rintro e st (⟨rfl,k,hk,hh,hj,h⟩|⟨rfl,hj,hI⟩)
  ·have hv:DX v=k:=By hh hj _ hk
   simp only[Z8,seval];exact⟨_,bZ rfl (by simp only[E8,seval,h]<;>rfl) (by first|exact .v _|simp only[eC,h]),by rw[hv]⟩
  ·have hv:DX v=-1:=tK _ hj
   simp only[Z8,seval];exact⟨_,bZ rfl (by simp only[E8,seval]<;>rfl) (by first|exact .v _|simp only[eC]),by rw[hv]⟩
theorem OO {s:aM} {v:SV} (hs:SD s v) (st:St) (d:Option Nat):aO (aB Tryz.prog) 218 [.agg (aA s)] st d=some { dst:=d,val:=.v (.int .i64 (DX v))}:=bG (cV hs.flat) (aK6 hs) (.v _)
noncomputable def HI (e:Int) (r:cN) (a:List kO × Int) (x:Int):List kO × Int :=
 if (gx tN a.1 x).has=false∨(gx tN a.1 x).aG<e then (a.1.set x.toNat ⟨true,e,r⟩,IntKind.i64.wrap (a.2+1)) else a
noncomputable def uO (L:List kO) (e:Int) (r:cN) (V:List Int):List kO × Int:=V.foldl (HI e r) (L,0)
theorem H5 (e:Int) (r:cN) (a:List kO × Int) (x:Int):(HI e r a x).1.length=a.1.length:=by unfold HI;split<;>simp
theorem Te (L:List kO) (e:Int) (r:cN) (V:List Int):(uO L e r V).1.length=L.length:=by
 unfold uO;suffices h:∀(V:List Int) (a:List kO × Int),(V.foldl (HI e r) a).1.length=a.1.length from h V _
 intro V;induction V with
 | nil=>intro a;rfl
 | cons x V ih=>intro a;rw[List.foldl_cons,ih,H5]
theorem WG (L:List kO) (e:Int) (r:cN) (V:List Int) (k:Nat) (h:k<V.length):uO L e r (V.take (k+1))=HI e r (uO L e r (V.take k)) (gx (0:Int) V k):=by
 unfold uO;rw[List.take_succ_eq_append_getElem h,List.foldl_append];simp[gx,h]
theorem aQw (o:Option (List kO)) (hn:((ol o).length:Int)<1000000) (e:Int) (r:cN) (V:Option (List Int)) (hV:((ol V).length:Int)<1000000) (hr:∀x∈ol V,0≤x∧x<(ol o).length) :
 aB Tryz.prog 110 [ov cW o,.v (.int .u64 e),.agg (bD r),ov aK V]=some (.eG [.sl (ol o).length (cW (uO (ol o) e r (ol V)).1),.v (.int .i64 (uO (ol o) e r (ol V)).2)]):=by
 rw[cL Tryz.func110 rfl aK8 (by cases o<;>cases V<;>rfl)]
 refine iT ?_
 simp only[Z8,seval,OP _ hn];refine cI (fun m st=>∃(k:Nat) (l:List kO) (c:Int),(st.env 1=.v (.int .u64 e)∧st.env 6=.ptr 6 0 0∧st.heap 6 0=some (.cells (bD r))∧st.env 3=ov aK V∧st.env 10=.own 15 0∧st.heap 15 0=some (.row 100 34 l.length (cW l))∧st.env 11=.v (.int .i64 c)∧st.env 12=.v (.int .i64 k))∧uO (ol o) e r ((ol V).take k)=(l,c)∧l.length=(ol o).length∧k≤(ol V).length∧m=(ol V).length-k)
  (fun ex st=>ex=.exit 0∧∃(l:List kO) (c:Int),(st.env 10=.own 15 0∧st.heap 15 0=some (.row 100 34 l.length (cW l))∧st.env 11=.v (.int .i64 c))∧uO (ol o) e r (ol V)=(l,c)∧l.length=(ol o).length) (ol V).length ?step ?start ?rest
 case step =>
  rintro m st ⟨k,l,c,hI,hc,hl,hk,hm⟩
  by_cases bA:(k:Int)<(ol V).length
  ·have q0:(0:Int)≤k:=by omega
   have hw:IntKind.i64.wrap ((k:Int)+1)=((k+1:Nat):Int):=by rw[nU _ (by omega) (by omega)];omega
   have yR:=WG (ol o) e r (ol V) k (by omega)
   rw[hc] at yR;unfold HI at yR;have hx:=hr _ (sH (z:=(0:Int)) q0 bA)
   obtain⟨x,ex⟩:∃x,gx (0:Int) (ol V) (k:Int)=x:=⟨_,rfl⟩
   rw[ex] at hx yR;have x0:0≤x:=hx.1
   have x1:x<(l.length:Int):=by rw[hl];exact hx.2
   have x2:x.toNat<l.length:=by omega
   have x3:x.toNat * 34+34≤l.length * 34:=by omega
   have ld:=v9 (T:=100) (n:=l.length) (k:=34) x0 x1 aFf (by decide) (by decide)
   by_cases h1:(gx tN l x).has=true
   ·by_cases h2:(gx tN l x).aG<e
    ·rw[if_pos (.inr h2)] at yR;apply oN ((ol V).length-(k+1))
     ·simp only[Z8,seval,hI,bA,q0,ex,x0,x1,x2,x3,ld,h1,h2,JH _ _ _ x2,hw];rfl
     ·exact⟨k+1,_,_,by simp only[E8,seval,hI,List.length_set]<;>exact⟨rfl,rfl⟩,yR,by rw[List.length_set,hl],by omega,rfl⟩
    ·rw[if_neg (by simp only[h1,h2,Bool.true_eq_false,or_self,not_false_eq_true])] at yR
     apply oN ((ol V).length-(k+1))
     ·simp only[Z8,seval,hI,bA,q0,ex,x0,x1,x2,x3,ld,h1,h2,hw];rfl
     ·exact⟨k+1,l,c,by simp only[E8,seval,hI],yR,hl,by omega,rfl⟩
   ·have GG:(gx tN l x).has=false:=by simpa using h1
    rw[if_pos (.inl GG)] at yR;apply oN ((ol V).length-(k+1))
    ·simp only[Z8,seval,hI,bA,q0,ex,x0,x1,x2,x3,ld,GG,JH _ _ _ x2,hw];rfl
    ·exact⟨k+1,_,_,by simp only[E8,seval,hI,List.length_set]<;>exact⟨rfl,rfl⟩,yR,by rw[List.length_set,hl],by omega,rfl⟩
  ·have Bu:k=(ol V).length:=by omega
   rw[Bu,List.take_length] at hc;apply oT (.exit 0)
   ·simp only[Z8,seval,hI,bA];rfl
   ·exact⟨rfl,l,c,by simp only[E8,seval,hI],hc,hl⟩
 case start=>exact⟨0,ol o,0,by simp only[E8,seval]<;>rfl,rfl,rfl,by omega,by omega⟩
 case rest =>
  rintro ex st ⟨rfl,l,c,hI,hc,hl⟩
  rw[hc];simp only[Z8,seval,hI];exact⟨_,dK rfl rfl rfl (by simp only[E8,seval,hI,Xx]<;>rfl) (by simp only[E8,seval,hI,Xx]<;>rfl),by rw[hl]⟩
theorem aK9 (o:Option (List kO)) (hn:((ol o).length:Int)<1000000) (e:Int) (r:cN) (V:Option (List Int)) (hV:((ol V).length:Int)<1000000) (hr:∀x∈ol V,0≤x∧x<(ol o).length) (st:St) (d:Option Nat) :
 aO (aB Tryz.prog) 110 [ov cW o,.v (.int .u64 e),.agg (bD r),ov aK V] st d=some { dst:=d,val:=.eG [.sl (ol o).length (cW (uO (ol o) e r (ol V)).1),.v (.int .i64 (uO (ol o) e r (ol V)).2)]} :=
 bG (by simp only[List.mem_cons,List.not_mem_nil,or_false,forall_eq_or_imp,forall_eq,eC,and_self,and_true,true_and]) (aQw o hn e r V hV hr) (.eG _ (bF (.sl _ _ (mF _)) (.v _)))
noncomputable def Tf (s:aM) (v:SV) (a:sG) (V:List Int):aM:={ s with gH:={ s.gH with dU:=ov cW (some (uO (ol v.L) a.target.aG a.root V).1)} }
theorem c44 {s:aM} {v:SV} (hs:SD s v) (a:sG) (V:Option (List Int)) (ha:a.fB=ov aK V) (hV:((ol V).length:Int)<1000000) (hr:∀x∈ol V,0≤x∧x<(ol v.L).length) :
 aB Tryz.prog 44 [.agg (aA s),.agg (iC a)]=some (.agg (aA (Tf s v a (ol V)))):=by
 have pG:=hs.fl
 rw[cL Tryz.func44 rfl aQx rfl];refine iT ?_
 simp only[Z8,seval,hs.dU,ha,aK9 v.L hs.nL _ _ V hV hr,dN];exact⟨_,fL rfl (by simp only[E8,seval,pG,and_self]<;>rfl) (by simp only[Z8,seval,pG,and_self]<;>rfl) (by simp only[eC,and_self,pG,and_self]),by unfold Tf;simp only[ov,Te]⟩
theorem Zt (ns:List Node) (r:cN) (h:0≤aN ns r):(nd ns (aN ns r)).block.root=r:=by
 unfold aN at h ⊢
 cases hf:ns.findIdx? (fun n=>decide (n.block.root=r)) with
 | none=>rw[hf] at h;simp only at h;omega
 | some k =>
   obtain⟨hk,hp,_⟩:=List.findIdx?_eq_some_iff_getElem.1 hf
   simp only
   have:nd ns (k:Int)=ns[k]:=by simp[nd,hk]
   rw[this];exact of_decide_eq_true hp
theorem Qf {ns:List Node} {r:cN} {j:Int} (h0:0≤j) (h1:j<ns.length) (hr:(nd ns j).block.root=r):0≤aN ns r:=by
 unfold aN;cases hf:ns.findIdx? (fun n=>decide (n.block.root=r)) with
 | none =>
   obtain⟨hj,e⟩:=Nc h0 h1
   have:=List.findIdx?_eq_none_iff.1 hf ns[j.toNat] (List.getElem_mem hj)
   rw[← e] at this;simp[hr] at this
 | some k=>simp only;omega
structure GI (s:aM) (v:SV) (q:Int):Prop where
 sd:SD s v
 up:gK v.ns
 Xs:(nd v.ns 0).up=-1
 pos:0<v.ns.length
 nl:(v.ns.length:Int)≤s.cFg.lJ.sK
 WH:s.cFg.lJ.sK≤4096
 jH:1≤s.cFg.jH∧s.cFg.jH≤64
 OQ:(ol v.L).length=(ol v.B).length
 nB:((ol v.B).length:Int)≤1024
 nO:((ol v.O).length:Int)≤s.cFg.lJ.xB
 OR:s.cFg.lJ.xB≤64
 nE:((ol v.E).length:Int)≤s.cFg.lJ.qD
 UW:s.cFg.lJ.qD≤256
 nT:((ol v.T).length:Int)≤s.cFg.lJ.qC
 UX:s.cFg.lJ.qC≤64
 nQ:((ol v.Q).length:Int)≤q
 U6:q≤900000
 gI:0≤aN v.ns s.aL.gI.root
theorem GI.sp {s:aM} {v:SV} {q:Int} (h:GI s v q):s.cFg.jH≠0:=by have:=h.jH.1;omega
theorem xC (s:aM) (v:SV) (c1 c2:dQ):(yE s v c1 c2).cFg=s.cFg:=by unfold yE;split;rfl;split<;>rfl
theorem Qg (s:aM) (v:SV) (c1 c2:dQ):(yE s v c1 c2).now=s.now:=by unfold yE;split;rfl;split<;>rfl
theorem GI.dS {s:aM} {v:SV} {q:Int} (h:GI s v q) (c1 c2:dQ):GI (yE s v c1 c2) (Ir s v c1 c2) q:=by
 have hsd:=h.sd.dS h.up c1 c2
 by_cases b:jX s v (tL s c1) (rD s c2)
 ·rw[show yE s v c1 c2=s from if_pos b,show Ir s v c1 c2=v from if_pos b];exact h
 have hJ:0≤aN v.ns (tL s c1).root:=by rcases Int.lt_or_le (aN v.ns (tL s c1).root) 0 with g|g;exact absurd (.inl g) b;exact g
 have hF:0≤aN v.ns (rD s c2).root:=by rcases Int.lt_or_le (aN v.ns (rD s c2).root) 0 with g|g;exact absurd (.inr (.inl g)) b;exact g
 have hA:tW v.ns (aN v.ns (rD s c2).root) (aN v.ns (tL s c1).root)=true:=by
  cases g:tW v.ns (aN v.ns (rD s c2).root) (aN v.ns (tL s c1).root)
  ·exact absurd (.inr (.inr (.inr (.inr (.inr (.inr (.inl g))))))) b
  ·rfl
 have hT:((ol (nz (qN (ol v.T) (tL s c1).aG))).length:Int)≤s.cFg.lJ.qC:=by
  rw[oW];have:=List.length_filter_le (fun t:Table=>decide ((tL s c1).aG≤t.ck.aG)) (ol v.T);have:=h.nT;unfold qN;omega
 by_cases e:rD s c2=s.aL.fin
 ·have hS:yE s v c1 c2=_:=(if_neg b).trans (if_pos e)
  have hW:Ir s v c1 c2=_:=(if_neg b).trans (if_pos e)
  rw[hS,hW] at hsd ⊢;exact⟨hsd,h.up,h.Xs,h.pos,h.nl,h.WH,h.jH,h.OQ,h.nB,h.nO,h.OR,h.nE,h.UW,hT,h.UX,h.nQ,h.U6,hJ⟩
 ·have hS:yE s v c1 c2=_:=(if_neg b).trans (if_neg e)
  have hW:Ir s v c1 c2=_:=(if_neg b).trans (if_neg e)
  rw[hS,hW] at hsd ⊢;have rF:=eQ v.ns (rD s c2).root
  have rJ:=eQ v.ns (tL s c1).root
  have Vn:=Ih h.up hF rF.2
  have h1:=GO h.up Vn
  have h2:=GO h.up hA
  have hz:=IW h.up Vn
  have hlen:=Tb (ns:=v.ns) (aN v.ns (rD s c2).root)
  have UY:=h.nl
  refine⟨hsd,o8 h.up Vn, ?_, ?_, ?_,h.WH,h.jH,h.OQ,h.nB, ?_,h.OR,h.nE,h.UW,hT,h.UX,h.nQ,h.U6, ?_⟩
  ·rw[hz] at h1;show (nd (jQ v.ns (aN v.ns (rD s c2).root) v.ns.length).1 0).up=-1
   rw[h1.2.2,if_pos rfl]
  ·have:=h1.2.1;have:=h1.1
   show 0<(jQ v.ns (aN v.ns (rD s c2).root) v.ns.length).1.length
   omega
  ·show (((jQ v.ns (aN v.ns (rD s c2).root) v.ns.length).1.length:Nat):Int)≤s.cFg.lJ.sK
   omega
  ·show ((ol (nz _)).length:Int)≤s.cFg.lJ.xB
   rw[oW];have:=List.length_filter_le (fun b:Block=>decide ((vC s (rD s c2).aG).1<b.slot)) (ol v.O);have:=h.nO;omega
  ·refine Qf h2.1 h2.2.1 ?_
   rw[h2.2.2];exact Zt _ _ hJ
noncomputable def Dz (v:SV) (b:Block):List Node:=v.ns++[⟨b,aN v.ns b.parent,Wp b⟩]
noncomputable def Tg (s:aM) (v:SV) (b:Block):aM:={ s with tree:=⟨.sl (Dz v b).length (bU (Dz v b))⟩}
noncomputable def Qh (v:SV) (b:Block):SV:={ v with ns:=Dz v b }
noncomputable def U7 (s:aM) (v:SV) (b:Block):aM:=yE (Tg s v b) (Qh v b) b.gI b.fin
noncomputable def U8 (s:aM) (v:SV) (b:Block):SV:=Ir (Tg s v b) (Qh v b) b.gI b.fin
noncomputable def tA (s:aM) (v:SV) (b:Block):aM:=if yD s b.slot<yD s s.now then yE (U7 s v b) (U8 s v b) b.dW.pj b.dW.pf else U7 s v b
noncomputable def lK (s:aM) (v:SV) (b:Block):SV:=if yD s b.slot<yD s s.now then Ir (U7 s v b) (U8 s v b) b.dW.pj b.dW.pf else U8 s v b
theorem H6 (b:Block):VJ (Wp b)=true:=by unfold Wp;split<;>rfl
theorem w8 {s:aM} {v:SV} {q:Int} (h:GI s v q) {b:Block} (hb:Mh s v b=0):DR v.ns b (Wp b)=0∧(v.ns.length:Int)<s.cFg.lJ.sK∧0≤aN v.ns b.parent:=by
 unfold Mh at hb;by_cases g1:b.root=dR
 ·rw[if_pos g1] at hb;omega
 rw[if_neg g1] at hb;by_cases g2:KnB v b.root
 ·rw[if_pos g2] at hb;omega
 rw[if_neg g2] at hb;by_cases g3:s.now<b.slot
 ·rw[if_pos g3] at hb;omega
 rw[if_neg g3] at hb;by_cases g4:b.slot≤(vC s s.aL.fin.aG).1
 ·rw[if_pos g4] at hb;omega
 rw[if_neg g4] at hb;by_cases g5:aN v.ns b.parent<0
 ·rw[if_pos g5] at hb;omega
 rw[if_neg g5] at hb;by_cases g6:b.slot≤(nd v.ns (aN v.ns b.parent)).block.slot
 ·rw[if_pos g6] at hb;omega
 rw[if_neg g6] at hb;by_cases g7:(nd v.ns (aN v.ns b.parent)).status=2
 ·rw[if_pos g7] at hb;omega
 rw[if_neg g7] at hb;by_cases g8:¬JC s v b
 ·rw[if_pos g8] at hb;omega
 rw[if_neg g8] at hb;by_cases g9:¬G9 s.cFg.DW (nd v.ns (aN v.ns b.parent)).block b
 ·rw[if_pos g9] at hb;omega
 rw[if_neg g9] at hb;by_cases U5:s.cFg.lJ.sK≤(v.ns.length:Int)
 ·rw[if_pos U5] at hb;omega
 have:=h.WH
 refine⟨?_,by omega,by omega⟩
 unfold DR;rw[H6,if_neg (by simp),if_neg (fun h=>g2 (.inr h)),if_neg g5,if_neg g6,if_neg (by omega)]
theorem GI.Tg {s:aM} {v:SV} {q:Int} (h:GI s v q) {b:Block} (hb:(v.ns.length:Int)<s.cFg.lJ.sK) (hp:0≤aN v.ns b.parent):GI (Tg s v b) (Qh v b) q:=by
 have hlen:(Dz v b).length=v.ns.length+1:=by unfold Dz;simp
 have hnB:=h.WH
 have hsd:SD (Tryz.Tg s v b) (Qh v b):=⟨h.sd.iP,h.sd.dU,h.sd.gN,h.sd.early,h.sd.bL,rfl,h.sd.tables,h.sd.eV,h.sd.tB,h.sd.nB,h.sd.nL,h.sd.nQ,h.sd.nE,h.sd.nO,h.sd.nT,by show ((Dz v b).length:Int)<1000000;omega⟩
 have rp:=eQ v.ns b.parent
 refine⟨hsd,fun i h0 h1=>?_, ?_, ?_, ?_,h.WH,h.jH,h.OQ,h.nB,h.nO,h.OR,h.nE,h.UW,h.nT,h.UX,h.nQ,h.U6, ?_⟩
 ·have h1:i<((Dz v b).length:Int):=h1
  show 0≤(nd (Dz v b) i).up∧(nd (Dz v b) i).up<i
  by_cases hi:i<(v.ns.length:Int)
  ·unfold Dz;rw[Kj (by omega) hi];exact h.up i h0 hi
  ·unfold Dz;rw[GL (by omega)];exact⟨hp,by show aN v.ns b.parent<i;omega⟩
 ·show (nd (Dz v b) 0).up=-1
  unfold Dz;rw[Kj (by omega) (by have:=h.pos;omega)];exact h.Xs
 ·show 0<(Dz v b).length;omega
 ·show ((Dz v b).length:Int)≤s.cFg.lJ.sK;omega
 ·show 0≤aN (Dz v b) s.aL.gI.root
  have rj:=eQ v.ns s.aL.gI.root
  refine Qf h.gI (by omega) ?_
  unfold Dz;rw[Kj h.gI rj.2];exact Zt _ _ h.gI
theorem GI.ins {s:aM} {v:SV} {q:Int} (h:GI s v q) {b:Block} (hb:Mh s v b=0):GI (tA s v b) (lK s v b) q:=by
 obtain⟨_,h2,h3⟩:=w8 h hb
 have g1:=h.Tg h2 h3
 have g2:=g1.dS b.gI b.fin
 unfold tA lK;split
 ·exact g2.dS _ _
 ·exact g2
theorem Cc (s:aM) (v:SV) (b:Block):(tA s v b).cFg=s.cFg∧(tA s v b).now=s.now:=by
 unfold tA;split
 ·rw[xC,Qg];unfold U7;rw[xC,Qg];exact⟨rfl,rfl⟩
 ·unfold U7;rw[xC,Qg];exact⟨rfl,rfl⟩
theorem aLa {s:aM} {v:SV} {q:Int} (h:GI s v q) {b:Block} (hb:Mh s v b=0):aB Tryz.prog 217 [.agg (aA s),.agg (aV b)]=some (.agg (aA (tA s v b))):=by
 obtain⟨h1,h2,h3⟩:=w8 h hb
 have g1:=h.Tg h2 h3
 have g2:=g1.dS b.gI b.fin
 have hi:Ig v.ns b (Wp b)=.eG [.agg (cO ⟨Dz v b⟩),.v (.int .i64 0)]:=if_pos h1
 have U9:=aPp v.ns h.sd.nn b (Wp b)
 rw[hi] at U9
 have k61a:=k61 g1.sd g1.up g1.sp b.gI b.fin
 have k61b:=k61 g2.sd g2.up g2.sp b.dW.pj b.dW.pf
 have hcfg:(yE (Tryz.Tg s v b) (Qh v b) b.gI b.fin).cFg.jH=s.cFg.jH:=by rw[xC];rfl
 have V0:(yE (Tryz.Tg s v b) (Qh v b) b.gI b.fin).now=s.now:=by rw[Qg];rfl
 have hep:∀x,yD (yE (Tryz.Tg s v b) (Qh v b) b.gI b.fin) x=yD s x:=fun x=>by unfold yD;rw[hcfg]
 have k98':=Pc (yE (Tryz.Tg s v b) (Qh v b) b.gI b.fin) g2.sp g2.sd.flat
 have e1:({ cFg:=s.cFg,gH:=s.gH,aL:=s.aL,cC:=s.cC,tree:=⟨.sl (Dz v b).length (bU (Dz v b))⟩,now:=s.now,eE:=s.eE,tables:=s.tables }:aM)=Tryz.Tg s v b:=rfl
 rw[cL Tryz.func217 rfl aLb rfl];refine iT ?_
 by_cases c:yD s b.slot<yD s s.now
 ·have hv:tA s v b=_:=if_pos c
  have JI:=(g2.dS b.dW.pj b.dW.pf).sd.flat
  simp only[Z8,seval,h.sd.tree,aKS,U9,dN,e1,k61a,k98',hep,V0,c,k61b];exact⟨_,fL rfl (by simp only[E8,seval,JI]<;>rfl) (by simp only[Z8,seval,JI]<;>rfl) (by simp only[eC,and_self,JI]),by rw[hv];rfl⟩
 ·have hv:tA s v b=_:=if_neg c
  have JI:=g2.sd.flat
  simp only[Z8,seval,h.sd.tree,aKS,U9,dN,e1,k61a,k98',hep,V0,c];exact⟨_,fL rfl (by simp only[E8,seval,JI]<;>rfl) (by simp only[Z8,seval,JI]<;>rfl) (by simp only[eC,and_self,JI]),by rw[hv];rfl⟩
theorem Th {L:List Block} {k:Nat} (hk:k≤L.length) (a g:Nat):∃X,(∀(st:St) (hi:Operand),st.ev hi=.v (.int .i64 k)→st.heap a g=some (.row 74 238 L.length (aF L))→dB Tryz.prog st 45 (.own a g) none (some hi)=some X) ∧
 (∀st:St,st.heap a g=some (.row 74 238 L.length (aF L))→aX st X=some ((L.take k).length,aF (L.take k))):=by
 have hl:(L.take k).length=k:=by simp;omega
 by_cases h0:k=0∧L.length=0
 ·obtain⟨rfl,h1⟩:=h0
  refine⟨.sl 0 [],fun st hi he hh=>?_,fun st hh=>by simp[aX,aF]⟩
  simp[dB,mW,hh,he,h1]
 ·refine⟨.vw a g 0 k,fun st hi he hh=>?_,fun st hh=>?_⟩
  ·have:¬((0:Int)=k∧¬((0:Int)=0∧0<L.length)):=by omega
   have h2:(0:Int)≤k∧(k:Int)≤L.length:=by omega
   simp only[dB,mW,hh,he,if_neg this,h2,Int.le_refl,and_self,if_true];simp
   intro h3 h4;rw[h4] at h0;simp at h0
   omega
  ·have hb:k * 238≤(aF L).length:=by rw[oX];exact Nat.mul_le_mul_right _ hk
   have:=wO (c:=aV) (sz:=238) bS L k
   simp only[aX,hh,Nat.zero_add,hb,if_true,List.drop_zero,hl];exact congrArg (fun z=>some (k,z)) this
theorem Ea {L:List Block} {k:Nat} (hk:k≤L.length) (a g:Nat):∃X,(∀(st:St) (lo:Operand),st.ev lo=.v (.int .i64 k)→st.heap a g=some (.row 74 238 L.length (aF L))→dB Tryz.prog st 45 (.own a g) (some lo) none=some X) ∧
 (∀st:St,st.heap a g=some (.row 74 238 L.length (aF L))→aX st X=some ((L.drop k).length,aF (L.drop k))):=by
 have hl:(L.drop k).length=L.length-k:=by simp
 by_cases h0:k=L.length
 ·by_cases hz:0<k
  ·refine⟨.sl 0 [],fun st lo he hh=>?_,fun st hh=>by rw[h0];simp[aX,aF]⟩
   have:(k:Int)=L.length∧¬((k:Int)=0∧0<L.length):=by omega
   have h2:(0:Int)≤k∧(k:Int)≤L.length:=by omega
   simp only[dB,mW,hh,he,if_pos this,h2,Int.le_refl,and_self,if_true]
  ·refine⟨.sl 0 [],fun st lo he hh=>?_,fun st hh=>by rw[h0];simp[aX,aF]⟩
   have:(k:Int)=L.length∧¬((k:Int)=0∧0<L.length):=by omega
   have h2:(0:Int)≤k∧(k:Int)≤L.length:=by omega
   simp only[dB,mW,hh,he,if_pos this,h2,Int.le_refl,and_self,if_true]
 ·refine⟨.vw a g (k * 238) (L.length-k),fun st lo he hh=>?_,fun st hh=>?_⟩
  ·have h1:¬((k:Int)=L.length∧¬((k:Int)=0∧0<L.length)):=by omega
   have h2:((L.length:Int)-(k:Int)).toNat=L.length-k:=by omega
   have h3:(0:Int)≤k∧(k:Int)≤L.length:=by omega
   simp only[dB,mW,hh,he,if_neg h1,h3,Int.le_refl,and_self,if_true,h2,Int.toNat_natCast]
  ·have hb:k * 238+(L.length-k) * 238≤(aF L).length:=by rw[oX,← Nat.add_mul];exact Nat.mul_le_mul_right _ (by omega)
   have:=Cd (c:=aV) (sz:=238) bS L k
   have h3:((aF L).drop (k * 238)).length=(L.length-k) * 238:=by rw[List.length_drop,oX,Nat.sub_mul]
   simp only[aX,hh,hb,if_true,hl];rw[List.take_of_length_le (by omega)]
   exact congrArg (fun z=>some (L.length-k,z)) this
theorem GI.eE {s:aM} {v:SV} {q:Int} (h:GI s v q) (r:cN):GI { s with eE:=r } v q :=
 ⟨⟨h.sd.iP,h.sd.dU,h.sd.gN,h.sd.early,h.sd.bL,h.sd.tree,h.sd.tables,h.sd.eV,h.sd.tB,h.sd.nB,h.sd.nL,h.sd.nQ,h.sd.nE,h.sd.nO,h.sd.nT,h.sd.nn⟩,h.up,h.Xs,h.pos,h.nl,h.WH,h.jH,h.OQ,h.nB,h.nO,h.OR,h.nE,h.UW,h.nT,h.UX,h.nQ,h.U6,h.gI⟩
def mV (s:aM) (x:AV):aM:={ s with cC:={ s.cC with bL:=x }}
theorem GI.WI {s:aM} {v:SV} {q:Int} (h:GI s v q) (O:Option (List Block)) (hO:((ol O).length:Int)≤s.cFg.lJ.xB):GI (mV s (ov aF O)) { v with O:=O } q :=
 ⟨⟨h.sd.iP,h.sd.dU,h.sd.gN,h.sd.early,rfl,h.sd.tree,h.sd.tables,h.sd.eV,h.sd.tB,h.sd.nB,h.sd.nL,h.sd.nQ,h.sd.nE,by have:=h.OR;show ((ol O).length:Int)<1000000;omega,h.sd.nT,h.sd.nn⟩,h.up,h.Xs,h.pos,h.nl,h.WH,h.jH,h.OQ,h.nB,hO,h.OR,h.nE,h.UW,h.nT,h.UX,h.nQ,h.U6,h.gI⟩
theorem WJ (s:aM) (v:SV) (c1 c2:dQ):(ol (Ir s v c1 c2).O).length≤(ol v.O).length:=by
 unfold Ir;split
 ·exact Nat.le_refl _
 split
 ·exact Nat.le_refl _
 ·show (ol (nz _)).length≤_
  rw[oW];exact List.length_filter_le _ _
theorem WK (s:aM) (v:SV) (b:Block):(ol (lK s v b).O).length≤(ol v.O).length:=by
 unfold lK;split
 ·exact Nat.le_trans (WJ _ _ _ _) (WJ _ _ _ _)
 ·exact WJ _ _ _ _
theorem Aj {s:aM} {v:SV} (h:SD s v) {O:List Block} {a g:Nat} (st:St) (hh:st.heap a g=some (.row 74 238 O.length (aF O))):fP st (.agg (aA (mV s (.own a g))))=some (.agg (aA (mV s (ov aF (some O))))):=by
 have pG:=h.fl
 unfold mV;simp only[bP,gG,bO,hh,uM,cS,eC,pG,cF];rfl
def Rg (x:Int):Prop:=0≤x∧x<18446744073709551616
structure RB (b:Block):Prop where
 sl:Rg b.slot
 j:Rg b.gI.aG
 f:Rg b.fin.aG
 pj:Rg b.dW.pj.aG
 pf:Rg b.dW.pf.aG
def Pr (r:cN):Prop:=r≠dR∧r≠mkRoot 99
theorem Zu {α:Type} (l:List α):nz l≠some []:=by
 unfold nz;split
 ·nofun
 ·rename_i h;intro e;injection e with e;exact h e
structure y7 (v:SV):Prop where
 q:v.Q≠some []
 e:v.E≠some []
 o:v.O≠some []
 t:v.T≠some []
 ea:∀a∈ol v.E,∃V,a.fB=ov aK (some V)∧V≠[]
 tb:∀t∈ol v.T,∃B,t.iP=ov bI (some B)∧B≠[]
structure RG (s:aM) (v:SV):Prop where
 now:0≤s.now∧s.now≤1099511627776
 j:Rg s.aL.gI.aG
 f:Rg s.aL.fin.aG
 nd:∀n∈v.ns,RB n.block∧n.block.slot≤s.now
 or:∀b∈ol v.O,RB b∧Pr b.root
 rt:∀n∈v.ns,Pr n.block.root
 fe:s.aL.fin.aG≤s.aL.gI.aG∧s.aL.gI.aG≤yD s s.now
 ds:(v.ns.map fun n=>n.block.root).Nodup
 tb:∃t∈ol v.T,t.ck=s.aL.gI
 ne:y7 v
theorem Ti {ns:List Node} {i:Int} (h0:0≤i) (h1:i<ns.length):nd ns i∈ns:=by
 obtain⟨h,e⟩:=Nc h0 h1
 rw[e];exact List.getElem_mem h
theorem Xy (ns:List Node) (i:Int):∀k:Nat,k≤ns.length→∀n∈(jQ ns i k).1,∃a∈ns,n.block=a.block∧n.status=a.status
 | 0,_,n,hn=>by simp[jQ] at hn
 | k+1,hk,n,hn=>by
   unfold jQ at hn;simp only at hn
   split at hn
   ·rcases List.mem_append.1 hn with hn|hn
    ·exact Xy ns i k (by omega) n hn
    ·rw[List.mem_singleton] at hn;subst hn;exact⟨nd ns k,Ti (by omega) (by omega),rfl,rfl⟩
   ·exact Xy ns i k (by omega) n hn
theorem y8 (ns:List Node) (i:Int):∀k:Nat,k≤ns.length→((jQ ns i k).1.map (·.block)).Sublist ((ns.take k).map (·.block))
 | 0,_=>by simp[jQ]
 | k+1,hk=>by
   have ih:=y8 ns i k (by omega)
   have e:ns.take (k+1)=ns.take k++[nd ns k]:=by
    rw[List.take_succ_eq_append_getElem (by omega)]
    have h:k<ns.length:=by omega
    simp[Go.Ab.nd,h]
   unfold jQ;simp only
   rw[e,List.map_append];split
   ·rw[List.map_append];exact ih.append (by simp)
   ·exact ih.trans (List.sublist_append_left ..)
theorem H7 {ns:List Node} (h:(ns.map fun n=>n.block.root).Nodup) (i:Int):((jQ ns i ns.length).1.map fun n=>n.block.root).Nodup:=by
 have h1:=(y8 ns i ns.length (Nat.le_refl _)).map (·.root)
 rw[List.take_length] at h1;simp only[List.map_map] at h1;exact h.sublist h1
theorem RG.dS {s:aM} {v:SV} (r:RG s v) {c1 c2:dQ} (r1:Rg c1.aG) (r2:Rg c2.aG):RG (yE s v c1 c2) (Ir s v c1 c2):=by
 have hJ:Rg (tL s c1).aG:=by unfold tL;split;exact r1;exact r.j
 have hF:Rg (rD s c2).aG:=by unfold rD;split;exact r2;exact r.f
 by_cases b:jX s v (tL s c1) (rD s c2)
 ·rw[show yE s v c1 c2=s from if_pos b,show Ir s v c1 c2=v from if_pos b];exact r
 have fe:(rD s c2).aG≤(tL s c1).aG∧(tL s c1).aG≤yD s s.now:=by
  unfold jX at b;simp only[not_or] at b;obtain⟨_,_,_,_,_,_,_,b8,b9,_⟩:=b
  omega
 have tb:∃t∈ol (nz (qN (ol v.T) (tL s c1).aG)),t.ck=tL s c1:=by
  unfold jX at b;simp only[not_or] at b;obtain⟨_,_,_,_,_,_,_,_,_,b10⟩:=b
  unfold DV at b10;rcases sY (fun k=>(gx eI (ol v.T) k).ck=tL s c1) (ol v.T).length with ⟨e,_⟩|⟨k,h1,h2,_,h3⟩
  ·rw[e] at b10;omega
  ·refine⟨gx eI (ol v.T) k, ?_,h2⟩
   rw[oW];refine List.mem_filter.2 ⟨sH (by omega) (by omega),decide_eq_true ?_⟩
   rw[h2];exact Int.le_refl _
 by_cases e:rD s c2=s.aL.fin
 ·rw[show yE s v c1 c2=_ from (if_neg b).trans (if_pos e),show Ir s v c1 c2=_ from (if_neg b).trans (if_pos e)];exact⟨r.now,hJ,hF,r.nd,r.or,r.rt,fe,r.ds,tb,⟨r.ne.q,r.ne.e,r.ne.o,Zu _,r.ne.ea,fun t ht=>r.ne.tb t (by have ht:t∈ol (nz (qN (ol v.T) (tL s c1).aG)):=ht;rw[oW] at ht;exact (List.mem_filter.1 ht).1)⟩⟩
 ·rw[show yE s v c1 c2=_ from (if_neg b).trans (if_neg e),show Ir s v c1 c2=_ from (if_neg b).trans (if_neg e)];refine⟨r.now,hJ,hF,fun n hn=>?_,fun o ho=>?_,fun n hn=>?_,fe,H7 r.ds _,tb,⟨r.ne.q,r.ne.e,Zu _,Zu _,r.ne.ea,fun t ht=>r.ne.tb t (by have ht:t∈ol (nz (qN (ol v.T) (tL s c1).aG)):=ht;rw[oW] at ht;exact (List.mem_filter.1 ht).1)⟩⟩
  ·obtain⟨a,ha,e1,_⟩:=Xy _ _ _ (Nat.le_refl _) n hn
   rw[e1];exact r.nd a ha
  ·have ho:o∈ol (nz ((ol v.O).filter fun b=>decide ((vC s (rD s c2).aG).1<b.slot))):=ho
   rw[oW] at ho;exact r.or o (List.mem_filter.1 ho).1
  ·obtain⟨a,ha,e1,_⟩:=Xy _ _ _ (Nat.le_refl _) n hn
   rw[e1];exact r.rt a ha
theorem V1 {s:aM} {v:SV} {b:Block} (hb:Mh s v b=0∨Mh s v b=10):b.slot≤s.now:=by
 unfold Mh at hb;by_cases g1:b.root=dR
 ·rw[if_pos g1] at hb;omega
 rw[if_neg g1] at hb;by_cases g2:KnB v b.root
 ·rw[if_pos g2] at hb;omega
 rw[if_neg g2] at hb;by_cases g3:s.now<b.slot
 ·rw[if_pos g3] at hb;omega
 ·omega
theorem aCQ {s:aM} {v:SV} {b:Block} (hb:Mh s v b=0):aN v.ns b.root<0:=by
 rcases Int.lt_or_le (aN v.ns b.root) 0 with h|h
 ·exact h
 ·unfold Mh at hb;by_cases g1:b.root=dR
  ·rw[if_pos g1] at hb;omega
  ·rw[if_neg g1,if_pos (.inr h)] at hb;omega
theorem H8 {ns:List Node} {r:cN} (h:aN ns r<0):r ∉ ns.map fun n=>n.block.root:=by
 intro hm;obtain⟨n,hn,e⟩:=List.mem_map.1 hm
 obtain⟨k,hk,rfl⟩:=List.getElem_of_mem hn
 have:0≤aN ns r:=Qf (j:=(k:Int)) (by omega) (by omega) (by
  have:Go.Ab.nd ns (k:Int)=ns[k]:=by simp[Go.Ab.nd,hk]
  rw[this];exact e)
 omega
theorem RG.ins {s:aM} {v:SV} (r:RG s v) {b:Block} (rb:RB b∧Pr b.root) (hc:Mh s v b=0):RG (tA s v b) (lK s v b):=by
 have hs:=V1 (.inl hc)
 have g1:RG (Tryz.Tg s v b) (Qh v b):=⟨r.now,r.j,r.f,fun n hn=>by
  rcases List.mem_append.1 (show n∈v.ns++[⟨b,aN v.ns b.parent,Wp b⟩] from hn) with hn|hn
  ·exact r.nd n hn
  ·rw[List.mem_singleton] at hn;subst hn;exact⟨rb.1,hs⟩,r.or,fun n hn=>by
  rcases List.mem_append.1 (show n∈v.ns++[⟨b,aN v.ns b.parent,Wp b⟩] from hn) with hn|hn
  ·exact r.rt n hn
  ·rw[List.mem_singleton] at hn;subst hn;exact rb.2,r.fe,by
  show ((v.ns++[(⟨b,aN v.ns b.parent,Wp b⟩:Node)]).map fun n:Node=>n.block.root).Nodup
  rw[List.map_append];refine List.nodup_append.2 ⟨r.ds,by simp,fun x hx y hy=>?_⟩
  simp only[List.map_cons,List.map_nil,List.mem_singleton] at hy;rintro rfl
  exact H8 (aCQ hc) (hy ▸ hx),r.tb,⟨r.ne.q,r.ne.e,r.ne.o,r.ne.t,r.ne.ea,r.ne.tb⟩⟩
 have g2:=g1.dS rb.1.j rb.1.f
 unfold tA lK;split
 ·exact RG.dS g2 rb.1.pj rb.1.pf
 ·exact g2
theorem RG.WI {s:aM} {v:SV} (r:RG s v) (O:Option (List Block)) (x:AV) (h:∀b∈ol O,RB b∧Pr b.root) (hO:O≠some []):RG (mV s x) { v with O:=O }:=⟨r.now,r.j,r.f,r.nd,h,r.rt,r.fe,r.ds,r.tb,⟨r.ne.q,r.ne.e,hO,r.ne.t,r.ne.ea,r.ne.tb⟩⟩
theorem RG.eE {s:aM} {v:SV} (r:RG s v) (x:cN):RG { s with eE:=x } v:=⟨r.now,r.j,r.f,r.nd,r.or,r.rt,r.fe,r.ds,r.tb,r.ne⟩
theorem GI.mono {s:aM} {v:SV} {q q':Int} (h:GI s v q) (h1:q≤q') (h2:q'≤900000):GI s v q' :=
 ⟨h.sd,h.up,h.Xs,h.pos,h.nl,h.WH,h.jH,h.OQ,h.nB,h.nO,h.OR,h.nE,h.UW,h.nT,h.UX,by have:=h.nQ;omega,h2,h.gI⟩
theorem Kl:Flat (.agg (aA fW)):=by simp only[eC,fW,mS,Nl,Gd,Td,and_self]
def StR (s:aM) (q:Int) (r:AV):Prop:=∃(s':aM) (e:Int),r=.eG [.agg (aA s'),.v (.int .i64 e)]∧Flat (.agg (aA s'))∧e≠21∧(e=0→∃v',GI s' v' q∧RG s' v'∧s'.cFg=s.cFg)
def StN (s:aM) (v:SV) (q:Int) (r:AV):Prop:=∃(s':aM) (e:Int),r=.eG [.agg (aA s'),.v (.int .i64 e)]∧Flat (.agg (aA s'))∧e≠21∧(e=0→∃v',GI s' v' q∧RG s' v'∧s'.cFg=s.cFg∧v'.ns=v.ns)
theorem aGx (s:aM) (v:SV) (b:Block):Mh s v b≠21:=by
 unfold Mh;repeat (split;simp)
 simp
theorem DY (x:Int) (h1:0≤x) (h2:x<18446744073709551616):IntKind.u64.wrap x=x:=by
 unfold IntKind.wrap;simp[IntKind.signed,IntKind.bits]
 omega
theorem V5 {x:Int} (h0:0≤x) (h1:x<18446744073709551616):IntKind.u64.wrap ((BitVec.ofInt IntKind.u64.bits x &&& BitVec.ofInt IntKind.u64.bits 4294967295).toNat:Int)=x % 4294967296:=by
 obtain⟨n,rfl⟩:=Int.eq_ofNat_of_zero_le h0
 have hn:n<18446744073709551616:=by omega
 have e:(BitVec.ofInt IntKind.u64.bits (n:Int) &&& BitVec.ofInt IntKind.u64.bits 4294967295).toNat=n % 4294967296:=by
  rw[BitVec.toNat_and];have e1:(BitVec.ofInt IntKind.u64.bits (n:Int)).toNat=n:=by
   rw[BitVec.toNat_ofInt];show ((n:Int) % ((2 ^ 64:Nat):Int)).toNat=n
   omega
  have e2:(BitVec.ofInt IntKind.u64.bits 4294967295).toNat=2 ^ 32-1:=by decide
  rw[e1,e2,Nat.and_two_pow_sub_one_eq_mod]
 rw[e,DY _ (by omega) (by omega)]
 omega
theorem OS (x:Int) (h0:0≤x):x.fdiv (2 ^ min 32 IntKind.u64.bits)=x / 4294967296:=by
 have e:(2:Int) ^ min 32 IntKind.u64.bits=4294967296:=by decide
 rw[e,Int.fdiv_eq_ediv_of_nonneg _ (by omega)]
theorem aLc:bK Tryz.f187=true:=by kernel_rfl
theorem aQz {x y:Int} (x0:0≤x) (x1:x<18446744073709551616) (y0:0≤y) (y1:y≤64):aB Tryz.prog 187 [.v (.int .u64 x),.v (.int .u64 y)]=some (.eG [.v (.int .u64 (x * y / 18446744073709551616)),.v (.int .u64 (IntKind.u64.wrap (x * y)))]):=by
 have a1:=V5 x0 x1
 have a2:=V5 y0 (by omega)
 have s1:=OS x x0
 have s2:=OS y y0
 have hy:y % 4294967296=y:=by omega
 have hy1:y / 4294967296=0:=by omega
 rw[hy] at a2;rw[hy1] at s2;obtain⟨p,hp⟩:∃p,p=x % 4294967296:=⟨_,rfl⟩
 obtain⟨r,hr⟩:∃r,r=x / 4294967296:=⟨_,rfl⟩
 have hx:x=r * 4294967296+p:=by omega
 have p0:0≤p∧p<4294967296:=by omega
 have r0:0≤r∧r<4294967296:=by omega
 rw[← hp] at a1;rw[← hr] at s1;have py:0≤p * y∧p * y≤4294967296 * 64:=⟨Int.mul_nonneg p0.1 y0,Int.mul_le_mul (by omega) y1 y0 (by omega)⟩
 have ry:0≤r * y∧r * y≤4294967295 * 64:=⟨Int.mul_nonneg r0.1 y0,Int.mul_le_mul (by omega) y1 y0 (by omega)⟩
 obtain⟨A,hA⟩:∃A,A=p * y:=⟨_,rfl⟩
 obtain⟨B,hB⟩:∃B,B=r * y:=⟨_,rfl⟩
 have hxy:x * y=B * 4294967296+A:=by rw[hx,Int.add_mul,Int.mul_right_comm,← hA,← hB]
 rw[← hA] at py;rw[← hB] at ry;have w1:IntKind.u64.wrap A=A:=DY _ (by omega) (by omega)
 have w2:IntKind.u64.wrap B=B:=DY _ (by omega) (by omega)
 have s3:=OS A (by omega)
 obtain⟨C,hC⟩:∃C,C=B+A / 4294967296:=⟨_,rfl⟩
 have w3:IntKind.u64.wrap (B+A / 4294967296)=C:=by rw[DY _ (by omega) (by omega),hC]
 have a3:=V5 (x:=C) (by omega) (by omega)
 have s4:=OS C (by omega)
 have s5:=OS (C % 4294967296) (by omega)
 have w4:IntKind.u64.wrap (C % 4294967296)=C % 4294967296:=DY _ (by omega) (by omega)
 have w5:IntKind.u64.wrap 0=0:=rfl
 have z5:C % 4294967296 / 4294967296=0:=by omega
 have w6:IntKind.u64.wrap (C / 4294967296)=C / 4294967296:=DY _ (by omega) (by omega)
 have JI:x * y / 18446744073709551616=C / 4294967296:=by rw[hxy,hC];omega
 rw[JI];rw[cL Tryz.func187 rfl aLc rfl];simp only[Z8,seval,a1,a2,s1,s2,← hA,← hB,w1,w2,s3,w3,a3,s4,Int.mul_zero,w5,Int.add_zero,w4,s5,z5,Int.zero_add,w6];exact dK rfl rfl rfl (by simp only[E8,seval]<;>rfl) (by simp only[E8,seval]<;>rfl)
theorem aQA (n:Int):aB Tryz.prog 152 [.v (.int .u64 n)]=some (.v (.bool (decide (1≤n) && decide (n≤64)))):=by
 rw[cL Tryz.func152 rfl aLe rfl];by_cases h:1≤n
 all_goals
  simp only[Z8,seval,h,decide_true,decide_false,Bool.true_and,Bool.false_and];exact bZ rfl (by simp only[E8,seval,h,decide_true,decide_false,Bool.true_and,Bool.false_and]<;>rfl) (.v _)
theorem aGy (n:Int) (st:St) (d:Option Nat):aO (aB Tryz.prog) 152 [.v (.int .u64 n)] st d=some { dst:=d,val:=.v (.bool (decide (1≤n) && decide (n≤64)))}:=bG (cV (.v _)) (aQA n) (.v _)
theorem c95 {e p:Int} (e0:0≤e) (e1:e<18446744073709551616):aB Tryz.prog 95 [.v (.int .u64 e),.v (.int .u64 p)]=some (.eG [.v (.int .u64 (Pt e p).1),.v (.int .i64 (Pt e p).2)]):=by
 unfold Pt;by_cases h:1≤p∧p≤64
 ·have h1:(decide (1≤p) && decide (p≤64))=true:=by simp[h]
  rw[if_pos h];have k187:=kx (aQz e0 e1 (y:=p) (by omega) h.2) (bF (.v _) (.v _)) (.eG _ (bF (.v _) (.v _)))
  have c153:aB Tryz.prog 153 [.v (.int .u64 e),.v (.int .u64 p)]=some (.eG [.v (.int .u64 (DS e p).1),.v (.int .i64 (DS e p).2)]):=by
   rw[cL Tryz.func153 rfl aLf rfl];have ht:Int.tdiv 18446744073709551615 p=18446744073709551615 / p:=Int.tdiv_eq_ediv_of_nonneg (by omega)
   have hd:(18446744073709551615 / p<e)↔18446744073709551615<e * p:=Int.ediv_lt_iff_lt_mul (by omega)
   have hm:0≤e * p:=Int.mul_nonneg e0 (by omega)
   have hq:=Int.ediv_le_self p (show (0:Int)≤18446744073709551615 by omega)
   have hq0:=Int.ediv_nonneg (show (0:Int)≤18446744073709551615 by omega) (show 0≤p by omega)
   have hw:IntKind.u64.wrap (18446744073709551615 / p)=18446744073709551615 / p:=DY _ hq0 (by omega)
   have hp0:p≠0:=by omega
   unfold DS;rw[ht,hw];by_cases g:e * p / 18446744073709551616=0
   ·rw[if_neg (fun k=>by have:=hd.1 k.2;omega)]
    simp only[Z8,seval,k187,dN,bt g];exact dK rfl rfl rfl (by simp only[E8,seval]<;>rfl) (by simp only[E8,seval]<;>rfl)
   ·rw[if_pos ⟨hp0,hd.2 (by omega)⟩]
    simp only[Z8,seval,k187,dN,bf g];exact dK rfl rfl rfl (by simp only[E8,seval]<;>rfl) (by simp only[E8,seval]<;>rfl)
  have k153:=kx c153 (bF (.v _) (.v _)) (.eG _ (bF (.v _) (.v _)))
  rw[cL Tryz.func95 rfl aLg rfl];simp only[Z8,seval,aGy,h1,k153,dN];exact dK rfl rfl rfl (by simp only[E8,seval]<;>rfl) (by simp only[E8,seval]<;>rfl)
 ·have h1:(decide (1≤p) && decide (p≤64))=false:=by
   rw[Bool.eq_false_iff];intro k;simp at k;exact h k
  rw[if_neg h];rw[cL Tryz.func95 rfl aLg rfl];simp only[Z8,seval,aGy,h1];exact dK rfl rfl rfl (by simp only[E8,seval]<;>rfl) (by simp only[E8,seval]<;>rfl)
theorem k95 {e p:Int} (h:Rg e) (st:St) (d:Option Nat):aO (aB Tryz.prog) 95 [.v (.int .u64 e),.v (.int .u64 p)] st d=some { dst:=d,val:=.eG [.v (.int .u64 (Pt e p).1),.v (.int .i64 (Pt e p).2)]}:=bG (bF (.v _) (.v _)) (c95 h.1 h.2) (.eG _ (bF (.v _) (.v _)))
theorem c94 {s:aM} (h:1≤s.cFg.jH∧s.cFg.jH≤64) (x:Int):aB Tryz.prog 94 [.v (.int .u64 x),.v (.int .u64 s.cFg.jH)]=some (.eG [.v (.int .u64 (yD s x)),.v (.int .i64 0)]):=by
 have h1:(decide (1≤s.cFg.jH) && decide (s.cFg.jH≤64))=true:=by simp[h]
 have h0:(s.cFg.jH=0)=False:=eq_false (by omega)
 rw[cL Tryz.func94 rfl aQC rfl];simp only[Z8,seval,aGy,h1,h0];exact dK rfl rfl rfl (by simp only[E8,seval,yD]<;>rfl) (by simp only[E8,seval,yD]<;>rfl)
theorem k94 {s:aM} (h:1≤s.cFg.jH∧s.cFg.jH≤64) (x:Int) (st:St) (d:Option Nat):aO (aB Tryz.prog) 94 [.v (.int .u64 x),.v (.int .u64 s.cFg.jH)] st d=some { dst:=d,val:=.eG [.v (.int .u64 (yD s x)),.v (.int .i64 0)]}:=bG (bF (.v _) (.v _)) (c94 h x) (.eG _ (bF (.v _) (.v _)))
theorem aCR (o:Option (List cN)) (hn:((ol o).length:Int)<1000000) (r:cN):∃x,aB Tryz.prog 250 [ov hU o,.agg (bD r)]=some x∧∃b:Bool,x=.v (.bool b):=by
 rw[cL Tryz.func250 rfl aLh (by cases o<;>rfl)]
 simp only[Z8,seval];refine cI (fun m st=>∃k:Nat,(st.env 0=ov hU o∧st.env 3=.ptr 3 0 0∧st.heap 3 0=some (.cells (bD r))∧st.env 5=.v (.int .i64 k))∧(∀j:Nat,j<k→¬(gx dR (ol o) (j:Int)=r))∧k≤(ol o).length∧m=(ol o).length-k)
  (fun e st=>(e=.ret∧∃k:Nat,k<(ol o).length∧(gx dR (ol o) (k:Int)=r)∧(∀j:Nat,j<k→¬(gx dR (ol o) (j:Int)=r))∧st.env 4=.v (.bool true))∨(e=.exit 0∧(∀j:Nat,j<(ol o).length→¬(gx dR (ol o) (j:Int)=r))∧st.env 0=ov hU o∧st.env 3=.ptr 3 0 0∧st.heap 3 0=some (.cells (bD r)))) ((ol o).length) ?step ?start ?rest
 case step =>
  rintro m st ⟨k,hI,hj,hk,hm⟩
  by_cases bA:(k:Int)<(ol o).length
  ·have q0:(0:Int)≤k:=by omega
   have hw:IntKind.i64.wrap ((k:Int)+1)=((k+1:Nat):Int):=by rw[nU _ (by omega) (by omega)];omega
   by_cases hh:gx dR (ol o) (k:Int)=r
   ·apply oT (.ret)
    ·simp only[Z8,seval,hI,bA,q0,hh];rfl
    ·exact .inl ⟨rfl,k,by omega,hh,hj,by simp only[E8,seval]⟩
   ·apply oN ((ol o).length-(k+1))
    ·simp only[Z8,seval,hI,bA,q0,hh,hw];rfl
    ·exact⟨k+1,by simp only[E8,seval,hI],fun j h=>(Nat.lt_succ_iff_lt_or_eq.1 h).elim (hj j) fun e=>by subst e;exact hh,by omega,rfl⟩
  ·apply oT (.exit 0)
   ·simp only[Z8,seval,hI,bA];rfl
   ·exact .inr ⟨rfl,fun j h=>hj j (by omega),by simp only[E8,seval,hI]⟩
 case start=>exact⟨0,by simp only[E8,seval]<;>rfl,fun j h=>by omega,by omega,by omega⟩
 case rest =>
  rintro e st (⟨rfl,k,hk,hh,hj,h⟩|⟨rfl,hj,hI⟩)
  ·simp only[Z8,seval];exact⟨_,bZ rfl (by simp only[E8,seval,h]<;>rfl) (by first|exact .v _|simp only[eC,h]),_,rfl⟩
  ·simp only[Z8,seval];exact⟨_,bZ rfl (by simp only[E8,seval]<;>rfl) (by first|exact .v _|simp only[eC]),_,rfl⟩
theorem H9 (l:List Table) (c:dQ):-1≤DV l c∧DV l c<l.length:=VZ _ _
theorem aQD {s:aM} {v:SV} (hs:SD s v):∃x,aB Tryz.prog 239 [.agg (aA s)]=some x∧∃o:Option (List Int),x=ov bI o∧((ol o).length:Int)<1000000:=by
 have UT:=hs.fT
 rw[cL Tryz.func239 rfl aLi rfl];have r1:=H9 (ol v.T) s.aL.gI
 by_cases g1:DV (ol v.T) s.aL.gI<0
 ·simp only[Z8,seval,hs.tables,v7 _ hs.nT UT,g1];exact⟨_,bZ rfl (by simp only[E8,seval]<;>rfl) (by first|exact .v _|simp only[eC]),none,rfl,by simp[ol]⟩
 have q0:0≤DV (ol v.T) s.aL.gI:=by omega
 obtain⟨b,hb,hl⟩:=hs.tB _ (sH (z:=eI) q0 r1.2)
 simp only[Z8,seval,hs.tables,v7 _ hs.nT UT,g1,q0,r1,hb];exact⟨_,bZ rfl (by simp only[E8,seval,hb]<;>rfl) (dV b),b,rfl,hl⟩
theorem aQE (a b:Claim) (ha:Flat a.fB) (hb:Flat b.fB):∃x,aB Tryz.prog 234 [.agg (gV a),.agg (gV b)]=some x∧∃c:Bool,x=.v (.bool c):=by
 rw[cL Tryz.func234 rfl aLj rfl];by_cases g1:a.target=b.target
 ·by_cases g2:a.source=b.source
  ·by_cases g3:a.root=b.root
   all_goals
    have g4:¬a.source<b.source:=by omega
    have g5:¬b.source<a.source:=by omega
    simp only[Z8,seval,bt g1,bt g2,g3,g4,g5];exact⟨_,bZ rfl (by simp only[E8,seval]<;>rfl) (by first|exact .v _|simp only[eC]),_,rfl⟩
  ·by_cases g4:a.source<b.source
   all_goals
    by_cases g5:b.source<a.source
    all_goals
     by_cases g6:b.target<a.target
     all_goals
      by_cases g7:a.target<b.target
      all_goals
       simp only[Z8,seval,bt g1,bf g2,g4,g5,g6,g7];exact⟨_,bZ rfl (by simp only[E8,seval]<;>rfl) (by first|exact .v _|simp only[eC]),_,rfl⟩
 ·by_cases g4:a.source<b.source
  all_goals
   by_cases g5:b.source<a.source
   all_goals
    by_cases g6:b.target<a.target
    all_goals
     by_cases g7:a.target<b.target
     all_goals
      simp only[Z8,seval,bf g1,g4,g5,g6,g7];exact⟨_,bZ rfl (by simp only[E8,seval]<;>rfl) (by first|exact .v _|simp only[eC]),_,rfl⟩
theorem aQF {s:aM} {v:SV} (hs:SD s v):∃x,aB Tryz.prog 209 [.agg (aA s)]=some x∧∃r:cN,x=.agg (bD r):=by
 rw[cL Tryz.func209 rfl aLk rfl];have r1:=eQ v.ns s.aL.gI.root
 by_cases g1:0≤aN v.ns s.aL.gI.root
 ·by_cases g2:(nd v.ns (aN v.ns s.aL.gI.root)).status=1
  ·simp only[Z8,seval,hs.tree,mU _ _ hs.nn,g1,r1,bt g2];exact⟨_,fL rfl (by simp only[E8,seval]<;>rfl) (by simp only[Z8,seval]<;>rfl) (by simp only[eC,and_self]),_,rfl⟩
  ·simp only[Z8,seval,hs.tree,mU _ _ hs.nn,g1,r1,bf g2];exact⟨_,fL rfl (by simp only[E8,seval]<;>rfl) (by simp only[Z8,seval]<;>rfl) (by simp only[eC,and_self]),_,rfl⟩
 ·simp only[Z8,seval,hs.tree,mU _ _ hs.nn,g1];exact⟨_,fL rfl (by simp only[E8,seval]<;>rfl) (by simp only[Z8,seval]<;>rfl) (by simp only[eC,and_self]),_,rfl⟩
theorem aQG (c:Config) (hc:Flat c.iP) (x:Int):∃r,aB Tryz.prog 240 [.agg (bW c),.v (.int .u64 x)]=some r∧∃a e:Int,r=.eG [.v (.int .u64 a),.v (.int .i64 e)]:=by
 rw[cL Tryz.func240 rfl aLl rfl];by_cases g1:c.jH<1
 ·simp only[Z8,seval,g1];exact⟨_,dK rfl rfl rfl (by simp only[E8,seval]<;>rfl) (by simp only[E8,seval]<;>rfl),_,_,rfl⟩
 by_cases g2:64<c.jH
 ·simp only[Z8,seval,g1,g2];exact⟨_,dK rfl rfl rfl (by simp only[E8,seval]<;>rfl) (by simp only[E8,seval]<;>rfl),_,_,rfl⟩
 by_cases g3:100<c.Iu
 ·simp only[Z8,seval,g1,g2,g3];exact⟨_,dK rfl rfl rfl (by simp only[E8,seval]<;>rfl) (by simp only[E8,seval]<;>rfl),_,_,rfl⟩
 by_cases g4:4611686018427387904<x
 ·simp only[Z8,seval,g1,g2,g3,g4];exact⟨_,dK rfl rfl rfl (by simp only[E8,seval]<;>rfl) (by simp only[E8,seval]<;>rfl),_,_,rfl⟩
 have g5:(c.jH=0)=False:=eq_false (by omega)
 simp only[Z8,seval,g1,g2,g3,g4,g5];exact⟨_,dK rfl rfl rfl (by simp only[E8,seval]<;>rfl) (by simp only[E8,seval]<;>rfl),_,_,rfl⟩
noncomputable def aGz (o:Option (List cN)) (r:cN):Bool:=if h:((ol o).length:Int)<1000000 then Classical.choose (Classical.choose_spec (aCR o h r)).2 else false
theorem aQH (o:Option (List cN)) (hn:((ol o).length:Int)<1000000) (r:cN) (st:St) (d:Option Nat):aO (aB Tryz.prog) 250 [ov hU o,.agg (bD r)] st d=some { dst:=d,val:=.v (.bool (aGz o r))}:=by
 have h:=(Classical.choose_spec (aCR o hn r)).1
 rw[Classical.choose_spec (Classical.choose_spec (aCR o hn r)).2] at h;rw[show aGz o r=Classical.choose (Classical.choose_spec (aCR o hn r)).2 from dif_pos hn];exact bG (bF (Iv o) (qQ r)) h (.v _)
theorem aQI (o:Option (List Int)) (hn:((ol o).length:Int)<999999) (x:Int):∃r,aB Tryz.prog 235 [ov aK o,.v (.int .i64 x)]=some r∧(r=ov aK o∨∃L:List Int,r=.uniq 3 1 L.length (aK L)∧L.length=(ol o).length+1):=by
 rw[cG Tryz.func235 rfl aLm (by kernel_rfl) (by cases o<;>rfl)]
 simp only[ZG,seval,Bool.false_and,Prod.mk.injEq,Zv];refine kS (fun m st=>∃k:Nat,(st.env 0=ov aK o∧st.env 1=.v (.int .i64 x)∧st.env 5=.v (.int .i64 k))∧k≤(ol o).length∧m=(ol o).length-k)
  (fun e st=>e=.exit 0∧∃k:Nat,(st.env 0=ov aK o∧st.env 1=.v (.int .i64 x)∧st.env 5=.v (.int .i64 k))∧k≤(ol o).length) (ol o).length ?step ?start ?rest
 case step =>
  rintro m st ⟨k,hI,hk,hm⟩
  by_cases bA:(k:Int)<(ol o).length
  ·have q0:(0:Int)≤k:=by omega
   have hw:IntKind.i64.wrap ((k:Int)+1)=((k+1:Nat):Int):=by rw[nU _ (by omega) (by omega)];omega
   by_cases h1:gx (0:Int) (ol o) (k:Int)<x
   ·apply Cx ((ol o).length-(k+1))
    ·simp only[ZG,seval,Bool.false_and,Prod.mk.injEq,Zv,hI,bA,q0,h1,hw];rfl
    ·exact⟨k+1,by simp only[E8,seval,hI],by omega,rfl⟩
   ·apply HF (.exit 0)
    ·simp only[ZG,seval,Bool.false_and,Prod.mk.injEq,Zv,hI,bA,q0,h1];rfl
    ·exact⟨rfl,k,by simp only[E8,seval,hI],hk⟩
  ·apply HF (.exit 0)
   ·simp only[ZG,seval,Bool.false_and,Prod.mk.injEq,Zv,hI,bA];rfl
   ·exact⟨rfl,k,by simp only[E8,seval,hI],hk⟩
 case start=>exact⟨0,by simp only[E8,seval]<;>rfl,by omega,by omega⟩
 case rest =>
  rintro e st ⟨rfl,k,hI,hk⟩
  have e1:ol (o.map (·.take k))=(ol o).take k:=by cases o<;>simp[ol]
  have e2:ol (o.map (·.drop k))=(ol o).drop k:=by cases o<;>simp[ol]
  have n1:((((ol o).take k).length:Nat):Int)<1000000:=by rw[List.length_take];omega
  have n2:((((ol o).drop k).length:Nat):Int)<1000000:=by rw[List.length_drop];omega
  have n3:((((ol o).take k++[x]).length:Nat):Int)<1000000:=by rw[List.length_append,List.length_take];simp;omega
  have q0:(0:Int)≤k:=by omega
  have q1:(k:Int)≤((ol o).length:Int):=by omega
  have go:∃r,some (AV.uniq 3 1 ((ol o).take k++[x]++(ol o).drop k).length (aK ((ol o).take k++[x]++(ol o).drop k)))=some r∧(r=ov aK o∨∃L:List Int,r=.uniq 3 1 L.length (aK L)∧L.length=(ol o).length+1) :=
   ⟨_,rfl,.inr ⟨_,rfl,by simp;omega⟩⟩
  by_cases bA:(k:Int)<(ol o).length
  ·by_cases h2:gx (0:Int) (ol o) (k:Int)=x
   ·simp only[ZG,seval,Bool.false_and,Prod.mk.injEq,Zv,hI,bA,q0,bt h2];exact⟨_,bZ rfl (by simp only[E8,seval,hI]<;>rfl) (bX o),.inl rfl⟩
   ·simp only[ZG,seval,Bool.false_and,Prod.mk.injEq,Zv,Ca,Cb,and_self,hI,bA,q0,q1,bf h2,Int.toNat_natCast,e1,e2,Qi _ n1,Ge _ _ _ _ n1,JJ _ _ _ _ n3 n2];refine⟨_,tV rfl (by simp only[E8,seval]<;>rfl) (by simp only[E8,seval]<;>rfl) (fV _),.inr ⟨_,rfl,by simp;omega⟩⟩
  ·simp only[ZG,seval,Bool.false_and,Prod.mk.injEq,Zv,Ca,Cb,and_self,hI,bA,q0,q1,Int.toNat_natCast,e1,e2,Qi _ n1,Ge _ _ _ _ n1,JJ _ _ _ _ n3 n2];refine⟨_,tV rfl (by simp only[E8,seval]<;>rfl) (by simp only[E8,seval]<;>rfl) (fV _),.inr ⟨_,rfl,by simp;omega⟩⟩
theorem aQJ (o:Option (List Int)) (hn:((ol o).length:Int)<1000000) (a:Int):aB Tryz.prog 49 [ov aK o,.v (.int .i64 a)]=some (.v (.bool (decide (a∈ol o)))):=by
 cases o with
 | none=>rw[show ol (none:Option (List Int))=[] from rfl];simp only[List.not_mem_nil,decide_false];exact aJV a
 | some l=>exact c49 l a hn
theorem aGA (o:Option (List Int)) (hn:((ol o).length:Int)<1000000) (a:Int) (st:St) (d:Option Nat):aO (aB Tryz.prog) 49 [ov aK o,.v (.int .i64 a)] st d=some { dst:=d,val:=.v (.bool (decide (a∈ol o)))}:=bG (bF (bX o) (.v _)) (aQJ o hn a) (.v _)
theorem aQK (t:vB) (L:Option (List kO)) (Q:Option (List Int)) (hL:t.dU=ov cW L) (hQ:t.gN=ov aK Q) (nL:((ol L).length:Int)<1000000) (nQ:((ol Q).length:Int)<1000000)
 (B:Option (List Int)) (nB:((ol B).length:Int)<1000000) (R:Option (List cN)) (nR:((ol R).length:Int)<1000000) :
 ∃r,aB Tryz.prog 248 [.agg (eZ t),ov bI B,ov hU R]=some r∧∃a:Int,r=.v (.int .u64 a):=by
 rw[cL Tryz.func248 rfl aLn (by cases B<;>cases R<;>rfl)]
 simp only[Z8,seval];refine cI (fun m st=>∃(k:Nat) (a:Int),(st.env 1=ov bI B∧st.env 2=ov hU R∧st.env 3=.ptr 3 0 0∧st.heap 3 0=some (.cells (eZ t))∧st.env 7=.v (.int .u64 a)∧st.env 8=.v (.int .i64 k))∧k≤(ol B).length∧m=(ol B).length-k)
  (fun e st=>e=.exit 0∧∃a:Int,st.env 7=.v (.int .u64 a)) (ol B).length ?step ?start ?rest
 case step =>
  rintro m st ⟨k,a,hI,hk,hm⟩
  by_cases bA:(k:Int)<(ol B).length
  ·have q0:(0:Int)≤k:=by omega
   have hw:IntKind.i64.wrap ((k:Int)+1)=((k+1:Nat):Int):=by rw[nU _ (by omega) (by omega)];omega
   by_cases h1:(k:Int)<(ol L).length
   ·cases h2:(gx tN (ol L) (k:Int)).has
    ·apply oN ((ol B).length-(k+1))
     ·simp only[Z8,seval,hI,bA,q0,hL,hQ,h1,h2,hw];rfl
     ·exact⟨k+1,_,by simp only[E8,seval,hI]<;>rfl,by omega,rfl⟩
    ·by_cases h3:(k:Int)∈ol Q
     ·apply oN ((ol B).length-(k+1))
      ·simp only[Z8,seval,hI,bA,q0,hL,hQ,h1,h2,aGA Q nQ,h3,decide_true,hw];rfl
      ·exact⟨k+1,_,by simp only[E8,seval,hI]<;>rfl,by omega,rfl⟩
     ·cases h4:aGz R (gx tN (ol L) (k:Int)).root
      all_goals
       refine oY (st':=?_) ?_ ((ol B).length-(k+1)) (by omega) ?_
       rotate_left
       ·simp only[Z8,seval,hI,bA,q0,hL,hQ,h1,h2,aGA Q nQ,h3,decide_false,aQH R nR,h4,hw];rfl
       ·exact⟨k+1,_,by simp only[E8,seval,hI]<;>rfl,by omega,rfl⟩
   ·apply oT (.exit 0)
    ·simp only[Z8,seval,hI,bA,q0,hL,h1];rfl
    ·exact⟨rfl,a,by simp only[E8,seval,hI]⟩
  ·apply oT (.exit 0)
   ·simp only[Z8,seval,hI,bA];rfl
   ·exact⟨rfl,a,by simp only[E8,seval,hI]⟩
 case start=>exact⟨0,0,by simp only[E8,seval]<;>rfl,by omega,by omega⟩
 case rest =>
  rintro e st ⟨rfl,a,h⟩
  simp only[Z8,seval,h];exact⟨_,bZ rfl (by simp only[E8,seval,h]<;>rfl) (by first|exact .v _|simp only[eC,h]),_,rfl⟩
theorem aQL (ns:List Node) (hn:(ns.length:Int)<1000000) (l:List Int) (hl:l.length=ns.length) (r:cN) (a:Int):∃x,aB Tryz.prog 243 [.agg (cO ⟨ns⟩),.sl l.length (bI l),.agg (bD r),.v (.int .u64 a)]=some x∧∃m:List Int,x=.uniq 23 1 m.length (bI m)∧m.length=ns.length:=by
 have Hv:(l.length:Int)<1000000:=by omega
 have rr:=eQ ns r
 rw[cL Tryz.func243 rfl aLo rfl];by_cases g1:0≤aN ns r
 case neg =>
  simp only[Z8,seval,Gc _ Hv,mU _ _ hn,g1];exact⟨_,tV rfl (by simp only[E8,seval]<;>rfl) (by simp only[E8,seval]<;>rfl) (gZ _),l,rfl,hl⟩
 by_cases g2:(nd ns (aN ns r)).status=2
 ·simp only[Z8,seval,Gc _ Hv,mU _ _ hn,g1,rr,bt g2];exact⟨_,tV rfl (by simp only[E8,seval]<;>rfl) (by simp only[E8,seval]<;>rfl) (gZ _),l,rfl,hl⟩
 by_cases g3:r=dR
 ·subst g3;simp only[Z8,seval,Gc _ Hv,mU _ _ hn,g1,rr,bf g2];exact⟨_,tV rfl (by simp only[E8,seval]<;>rfl) (by simp only[E8,seval]<;>rfl) (gZ _),l,rfl,hl⟩
 have q1:aN ns r<(l.length:Int):=by omega
 have q2:(aN ns r).toNat<l.length:=by omega
 have q3:(aN ns r).toNat+1≤l.length:=by omega
 have hy:=I0 g1 q1
 have Pb:∀z:Int,dS (bI l) (aN ns r).toNat [.v (.int .u64 z)] ((aN ns r).toNat+1)=bI (l.set (aN ns r).toNat z):=fun z=>by
  have:=V6 l (aN ns r) z q2
  simpa using this
 have ld:=V7 (T:=23) (n:=l.length) (k:=1) g1 q1 WE (by decide) (by decide)
 rw[Nat.mul_one] at ld;simp only[Z8,seval,Gc _ Hv,mU ns r hn,g1,rr,bf g2,g3,q1,q2,q3,hy,Pb,ld,Nat.mul_one];exact⟨_,tV rfl (by simp only[E8,seval]<;>rfl) (by simp only[E8,seval]<;>rfl) (gZ _),_,by rw[List.length_set],by rw[List.length_set];exact hl⟩
theorem aCS (r:cN):hU [r]=bD r:=by simp[hU]
theorem V8 (r:cN):jI (some (.row 27 32 1 (bD r)))=some (.sl 1 (hU [r])):=by rw[← aCS];exact wP 1 [r]
noncomputable def aLp (t:vB) (B:Option (List Int)) (r:cN):Int:=if h:∃a:Int,aB Tryz.prog 248 [.agg (eZ t),ov bI B,ov hU (some [r])]=some (.v (.int .u64 a)) then Classical.choose h else 0
theorem aLq (t:vB) (L:Option (List kO)) (Q:Option (List Int)) (hL:t.dU=ov cW L) (hQ:t.gN=ov aK Q) (nL:((ol L).length:Int)<1000000) (nQ:((ol Q).length:Int)<1000000)
 (B:Option (List Int)) (nB:((ol B).length:Int)<1000000) (r:cN) (s g:Nat) (st:St) (d:Option Nat) (hh:st.heap s g=some (.row 27 32 1 (bD r))) :
 aO (aB Tryz.prog) 248 [.agg (eZ t),ov bI B,.own s g] st d=some { dst:=d,val:=.v (.int .u64 (aLp t B r))}:=by
 obtain⟨x,hx,a,rfl⟩:=aQK t L Q hL hQ nL nQ B nB (some [r]) (by simp[ol])
 have he:∃a:Int,aB Tryz.prog 248 [.agg (eZ t),ov bI B,ov hU (some [r])]=some (.v (.int .u64 a)):=⟨a,hx⟩
 have hf:Flat (.agg (eZ t)):=(Px t).2 ⟨by rw[hL];exact qX L,by rw[hQ];exact bX Q⟩
 rw[show aLp t B r=Classical.choose he from dif_pos he];rw[jV,List.map_cons,List.map_cons,List.map_cons,List.map_nil,eB hf,eB (dV B),vS,hh,V8,bM,bM,bM,fY];exact Vp (Classical.choose_spec he)
theorem aQM (ns:List Node) (hn:(ns.length:Int)<1000000) (h0:0<ns.length) (t:vB) (L:Option (List kO)) (Q:Option (List Int)) (hL:t.dU=ov cW L) (hQ:t.gN=ov aK Q) (nL:((ol L).length:Int)<1000000) (nQ:((ol Q).length:Int)<1000000)
 (B:Option (List Int)) (nB:((ol B).length:Int)<1000000) :
 ∃x,aB Tryz.prog 241 [.agg (cO ⟨ns⟩),.agg (eZ t),ov bI B]=some x∧∃m:List Int,x=.uniq 23 1 m.length (bI m)∧m.length=ns.length:=by
 have kw:=fun r g=>aLq t L Q hL hQ nL nQ B nB r 33 g
 rw[cL Tryz.func241 rfl aLr (by cases B<;>rfl)]
 simp only[Z8,seval];refine cI (fun m st=>∃k:Nat,(st.env 3=.ptr 3 0 0∧st.heap 3 0=some (.cells (cO ⟨ns⟩))∧st.env 4=.ptr 4 0 0∧st.heap 4 0=some (.cells (eZ t))∧st.env 2=ov bI B∧st.env 8=.v (.int .i64 k))∧((k=0∧st.env 7=.v (.slice none 0 0))∨∃(l:List Int) (g:Nat),st.env 7=.own 38 g∧g<st.aU 38∧st.heap 38 g=some (.row 23 1 l.length (bI l))∧l.length=k)∧k≤ns.length∧m=ns.length-k)
  (fun e st=>e=.exit 0∧∃(l:List Int) (g:Nat),st.env 7=.own 38 g∧st.heap 38 g=some (.row 23 1 l.length (bI l))∧l.length=ns.length) ns.length ?step ?start ?rest
 case step =>
  rintro m st ⟨k,hI,h7,hk,hm⟩
  by_cases bA:(k:Int)<ns.length
  ·have q0:(0:Int)≤k:=by omega
   have hw:IntKind.i64.wrap ((k:Int)+1)=((k+1:Nat):Int):=by rw[nU _ (by omega) (by omega)];omega
   by_cases h1:(nd ns k).status=2
   ·rcases h7 with ⟨rG,h7⟩|⟨l,g,h7,hg,Hj,hl⟩
    ·apply oN (ns.length-(k+1))
     ·simp only[Z8,seval,hI,h7,bA,q0,bt h1,hw];rfl
     ·exact⟨k+1,by simp only[E8,seval,hI],.inr ⟨[0],st.aU 38,by simp only[E8,seval]<;>rfl,by simp only[E8,seval]<;>omega,by simp only[E8,seval]<;>rfl,by simp;omega⟩,by omega,rfl⟩
    ·have nl:(l.length:Int)<1000000:=by omega
     apply oN (ns.length-(k+1))
     ·simp only[Z8,seval,hI,h7,Hj,bA,q0,bt h1,hw,wQ _ _ _ _ nl];rfl
     ·exact⟨k+1,by simp only[E8,seval,hI],.inr ⟨_,st.aU 38,by simp only[E8,seval]<;>rfl,by simp only[E8,seval]<;>omega,by simp only[E8,seval]<;>rfl,by rw[List.length_append];simp;omega⟩,by omega,rfl⟩
   ·rcases h7 with ⟨rG,h7⟩|⟨l,g,h7,hg,Hj,hl⟩
    ·apply oN (ns.length-(k+1))
     ·simp only[Z8,seval,hI,h7,bA,q0,bf h1,kw (nd ns k).block.root,hw];rfl
     ·exact⟨k+1,by simp only[E8,seval,hI],.inr ⟨[_],st.aU 38,by simp only[E8,seval]<;>rfl,by simp only[E8,seval]<;>omega,by simp only[E8,seval]<;>rfl,by simp;omega⟩,by omega,rfl⟩
    ·have nl:(l.length:Int)<1000000:=by omega
     apply oN (ns.length-(k+1))
     ·simp only[Z8,seval,hI,h7,Hj,bA,q0,bf h1,kw (nd ns k).block.root,hw,wQ _ _ _ _ nl];rfl
     ·exact⟨k+1,by simp only[E8,seval,hI],.inr ⟨_,st.aU 38,by simp only[E8,seval]<;>rfl,by simp only[E8,seval]<;>omega,by simp only[E8,seval]<;>rfl,by rw[List.length_append];simp;omega⟩,by omega,rfl⟩
  ·have Bu:k=ns.length:=by omega
   rcases h7 with ⟨rG,h7⟩|⟨l,g,h7,hg,Hj,hl⟩
   ·omega
   ·apply oT (.exit 0)
    ·simp only[Z8,seval,hI,bA];rfl
    ·exact⟨rfl,l,g,by simp only[E8,seval,h7],by simp only[E8,seval,Hj],by omega⟩
 case start=>exact⟨0,by simp only[E8,seval]<;>rfl,.inl ⟨rfl,by simp only[E8,seval]⟩,by omega,by omega⟩
 case rest =>
  rintro e st ⟨rfl,l,g,h7,Hj,hl⟩
  simp only[Z8,seval,h7];exact⟨_,tV rfl (by simp only[E8,seval,h7]<;>rfl) (by simp only[E8,seval,Hj]<;>rfl) (gZ _),l,rfl,hl⟩
theorem aQN (ns:List Node) (hu:gK ns) (hn:(ns.length:Int)<1000000) (h0:0<ns.length) (l:List Int) (hl:l.length=ns.length) :
 ∃x,aB Tryz.prog 242 [.agg (cO ⟨ns⟩),.sl l.length (bI l)]=some x∧∃m:List Int,x=.uniq 23 1 m.length (bI m)∧m.length=ns.length:=by
 rw[cL Tryz.func242 rfl aLs rfl];simp only[Z8,seval];refine cI (fun m st=>∃k:Nat,(st.env 2=.ptr 2 0 0∧st.heap 2 0=some (.cells (cO ⟨ns⟩))∧st.env 1=.sl l.length (bI l)∧st.env 6=.v (.int .i64 k))∧((k=0∧st.env 5=.v (.slice none 0 0))∨∃(l:List Int) (g:Nat),st.env 5=.own 38 g∧g<st.aU 38∧st.heap 38 g=some (.row 23 1 l.length (bI l))∧l.length=k)∧k≤ns.length∧m=ns.length-k)
  (fun e st=>e=.exit 0∧∃(l:List Int) (g:Nat),st.env 5=.own 38 g∧st.heap 38 g=some (.row 23 1 l.length (bI l))∧l.length=ns.length) ns.length ?step ?start ?rest
 case step =>
  rintro m st ⟨k,hI,h5,hk,hm⟩
  by_cases bA:(k:Int)<ns.length
  ·have q0:(0:Int)≤k:=by omega
   have hw:IntKind.i64.wrap ((k:Int)+1)=((k+1:Nat):Int):=by rw[nU _ (by omega) (by omega)];omega
   have kd:=k64 ns hu hn k (VO hu q0 bA ns.length bA)
   have hrg:=p8 ns k
   have hdl:=Xr ns k ns.length
   obtain⟨D,hD⟩:∃D,Hk ns k ns.length=D:=⟨_,rfl⟩
   rw[hD] at kd hrg hdl;simp only[Z8,seval,hI,bA,q0,kd];refine E7 (fun mm st'=>∃(j:Nat) (a:Int),(st'.env 2=.ptr 2 0 0∧st'.heap 2 0=some (.cells (cO ⟨ns⟩))∧st'.env 1=.sl l.length (bI l)∧st'.env 6=.v (.int .i64 k)∧st'.env 5=st.env 5∧st'.aU 38=st.aU 38∧(∀g,st'.heap 38 g=st.heap 38 g)∧st'.env 7=.v (.int .u64 a)∧st'.env 8=.own 19 (st.aU 19)∧st'.heap 19 (st.aU 19)=some (.row 3 1 D.length (aK D))∧st'.env 9=.v (.int .i64 j))∧j≤D.length∧mm=D.length-j)
    (fun e st'=>e=.exit 2∧∃a:Int,(st'.env 2=.ptr 2 0 0∧st'.heap 2 0=some (.cells (cO ⟨ns⟩))∧st'.env 1=.sl l.length (bI l)∧st'.env 6=.v (.int .i64 k)∧st'.env 5=st.env 5∧st'.aU 38=st.aU 38∧(∀g,st'.heap 38 g=st.heap 38 g)∧st'.env 7=.v (.int .u64 a))) D.length ?V9 ?WL ?OT
   case V9 =>
    rintro mm st' ⟨j,a,hJ,hj,hmm⟩
    by_cases hjl:(j:Int)<D.length
    ·have p0:(0:Int)≤j:=by omega
     have hw2:IntKind.i64.wrap ((j:Int)+1)=((j+1:Nat):Int):=by rw[nU _ (by omega) (by omega)];omega
     obtain⟨hjt,hje⟩:=yA p0 hjl
     have hx:=hrg _ (List.getElem_mem hjt)
     rw[← hje] at hx;have x0:=hx.1
     have x1:it D j<(l.length:Int):=by omega
     have gi:=nK p0 hjl
     apply oN (D.length-(j+1))
     ·simp only[Z8,seval,hJ,hjl,p0,x0,x1,gi,hw2];rfl
     ·exact⟨j+1,IntKind.u64.wrap (a+gx (0:Int) l (it D j)),by simp only[E8,seval,hJ,implies_true,and_self],by omega,rfl⟩
    ·apply oT (.exit 2)
     ·simp only[Z8,seval,hJ,hjl];rfl
     ·exact⟨rfl,a,by simp only[E8,seval,hJ,implies_true,and_self]⟩
   case WL=>exact⟨0,0,by simp only[E8,seval,hI,implies_true,and_self]<;>rfl,by omega,by omega⟩
   case OT =>
    rintro e st' ⟨rfl,a,hJ⟩
    obtain⟨j2,j2',j1,j6,j5,jc,jh,j7⟩:=hJ
    rcases h5 with ⟨rG,h5⟩|⟨l',g,h5,hg,Bh,Hv⟩
    ·rw[h5] at j5;refine T5 (st':=?s3) ?h3 (ns.length-(k+1)) (by omega) ?q3
     case h3 =>
      simp only[Z8,seval,j2,j2',j1,j6,j5,jc,j7,hw];rfl
     case q3=>exact⟨k+1,by simp only[E8,seval,j2,j2',j1],.inr ⟨[a],st.aU 38,by simp only[E8,seval,jc]<;>rfl,by simp only[E8,seval,jc]<;>omega,by simp only[E8,seval,jc]<;>rfl,by simp;omega⟩,by omega,rfl⟩
    ·rw[h5] at j5;have nl:(l'.length:Int)<1000000:=by omega
     have jhh:=jh g
     rw[Bh] at jhh;refine T5 (st':=?s4) ?h4 (ns.length-(k+1)) (by omega) ?q4
     case h4 =>
      simp only[Z8,seval,j2,j2',j1,j6,j5,jc,jhh,j7,hw,wQ _ _ _ _ nl];rfl
     case q4=>exact⟨k+1,by simp only[E8,seval,j2,j2',j1],.inr ⟨l'++[a],st.aU 38,by simp only[E8,seval,jc]<;>rfl,by simp only[E8,seval,jc]<;>omega,by simp only[E8,seval,jc]<;>rfl,by rw[List.length_append];simp;omega⟩,by omega,rfl⟩
  ·have Bu:k=ns.length:=by omega
   rcases h5 with ⟨rG,h5⟩|⟨l,g,h5,hg,Bh,hl⟩
   ·omega
   ·apply oT (.exit 0)
    ·simp only[Z8,seval,hI,bA];rfl
    ·exact⟨rfl,l,g,by simp only[E8,seval,h5],by simp only[E8,seval,Bh],by omega⟩
 case start=>exact⟨0,by simp only[E8,seval]<;>rfl,.inl ⟨rfl,by simp only[E8,seval]⟩,by omega,by omega⟩
 case rest =>
  rintro e st ⟨rfl,l,g,h5,Bh,hl⟩
  simp only[Z8,seval,h5];exact⟨_,tV rfl (by simp only[E8,seval,h5]<;>rfl) (by simp only[E8,seval,Bh]<;>rfl) (gZ _),l,rfl,hl⟩
end Go.Ab.Tryz
