/-
  Part 12 of the proof: an evaluator of programs, its soundness, and what functions of this program compute.
-/
import Derived.Test.YtmcjkemalibacaaGreatK11
import Derived.Test.YtmcjkemalibacaaGreatK10
import Derived.Test.YtmcjkemalibacaaGreatK9
set_option linter.all false
set_option maxRecDepth 20000
set_option maxHeartbeats 40000000
namespace Go.Ab.Tryz
open Classical Go.Proofs Go.Ab
theorem bG (st:St) (s g:Nat):cY st (.own s g)=jC (st.heap s g):=by
 unfold cY jC;rw[if_neg (mT s g)];cases h:st.heap s g with
 | none=>simp only[h]
 | some e=>cases e<;>simp only[h]
theorem SD.fl {s:aP} {v:SV} (h:SD s v):Flat s.cFg.jI∧Flat s.fV.dV∧Flat s.fV.gU∧Flat s.dM.early∧Flat s.dM.bU∧Flat s.tree.nodes∧Flat s.tables:=(yL s).1 h.flat
noncomputable def Gp (s:aP) (v:SV) (c1 c2:fR):SV :=
 if cT s v (Gb s c1) (Bw s c2) then v else
 if Bw s c2=s.aG.fin then { v with T:=nz (xX (ol v.T) (Gb s c1).aL)} else
 { v with T:=nz (xX (ol v.T) (Gb s c1).aL),ns:=(oJ v.ns (aM v.ns (Bw s c2).root) v.ns.length).1,O:=nz ((ol v.O).filter fun b=>decide ((Dk s (Bw s c2).aL).1<b.slot))}
noncomputable def wR (s:aP) (v:SV) (c1 c2:fR):aP :=
 if cT s v (Gb s c1) (Bw s c2) then s else
 if Bw s c2=s.aG.fin then { s with aG:=⟨Gb s c1,Bw s c2⟩,tables:=ov aT (nz (xX (ol v.T) (Gb s c1).aL))} else
 { s with aG:=⟨Gb s c1,Bw s c2⟩,tables:=ov aT (nz (xX (ol v.T) (Gb s c1).aL)),
          tree:=⟨.sl (oJ v.ns (aM v.ns (Bw s c2).root) v.ns.length).1.length (cC (oJ v.ns (aM v.ns (Bw s c2).root) v.ns.length).1)⟩,
          iD:=if aM (oJ v.ns (aM v.ns (Bw s c2).root) v.ns.length).1 s.iD<0 then dK else s.iD,
          dM:={ s.dM with bU:=ov aJ (nz ((ol v.O).filter fun b=>decide ((Dk s (Bw s c2).aL).1<b.slot)))} }
theorem ET {ns:List Node} (i:Int):(oJ ns i ns.length).1.length≤ns.length:=Pp ns i ns.length
theorem SD.dJ {s:aP} {v:SV} (h:SD s v) (hu:gZ v.ns) (c1 c2:fR):SD (wR s v c1 c2) (Gp s v c1 c2):=by
 have hT:((ol (nz (xX (ol v.T) (Gb s c1).aL))).length:Int)<1000000:=by rw[oO];have:=List.length_filter_le (fun t:Table=>decide ((Gb s c1).aL≤t.ck.aL)) (ol v.T);have:=h.nT;unfold xX;omega
 have hB:∀t∈ol (nz (xX (ol v.T) (Gb s c1).aL)),rT t:=by rw[oO];exact fun t m=>h.tB t (List.mem_filter.1 m).1
 unfold wR Gp;split
 ·exact h
 split
 ·exact⟨h.jI,h.dV,h.gU,h.early,h.bU,h.tree,rfl,h.eV,hB,h.nB,h.nL,h.nQ,h.nE,h.nO,hT,h.nn⟩
 ·refine⟨h.jI,h.dV,h.gU,h.early,rfl,rfl,rfl,h.eV,hB,h.nB,h.nL,h.nQ,h.nE, ?_,hT, ?_⟩
  ·rw[oO];have:=List.length_filter_le (fun b:Block=>decide ((Dk s (Bw s c2).aL).1<b.slot)) (ol v.O);have:=h.nO;omega
  ·have:=ET (ns:=v.ns) (aM v.ns (Bw s c2).root);have:=h.nn;show ((oJ v.ns (aM v.ns (Bw s c2).root) v.ns.length).1.length:Int)<1000000;omega
theorem c61 {s:aP} {v:SV} (hs:SD s v) (hu:gZ v.ns) (hp:s.cFg.qK≠0) (c1 c2:fR):aC Tryz.prog 61 [.agg (aB s),.agg (bY c1),.agg (bY c2)]=some (.agg (aB (wR s v c1 c2))):=by
 have hf:=hs.flat
 have hn:=hs.nO
 have jJ:=hs.fl
 have EU:=k59 hs hu hp c1 c2
 rw[cG Tryz.func61 rfl aOe (by kernel_rfl) rfl]
 refine jR ?_
 by_cases b1:cT s v (Gb s c1) (Bw s c2)
 ·have hv:wR s v c1 c2=s:=if_pos b1
  have hc:ZY s v c1 c2=.eE [.agg (bY iM),.agg (bY iM),.v (.bool false)]:=if_pos b1
  rw[hc] at EU
  simp only[ZG,seval,Bool.false_and,Prod.mk.injEq,sI,EU,eA];exact⟨_,fF rfl (by simp only[E8,seval,hf]<;>rfl) (by simp only[Z8,seval,hf]<;>rfl) (by simp only[dY,and_self,hf]),by rw[hv]⟩
 have hc:ZY s v c1 c2=.eE [.agg (bY (Gb s c1)),.agg (bY (Bw s c2)),.v (.bool true)]:=if_neg b1
 rw[hc] at EU
 have hv:wR s v c1 c2=_:=if_neg b1
 generalize hJ:Gb s c1=J at *
 generalize hF:Bw s c2=F at *
 have WS:=dW v.ns F.root
 have hF0:0≤aM v.ns F.root:=by rcases Int.lt_or_le (aM v.ns F.root) 0 with h|h;exact absurd (.inr (.inl h)) b1;exact h
 have aBd:=aN1 v.T hs.nT (fun t m=>(hs.tB t m).fl) J.aL
 have kp:=k34 v.ns hu hs.nn (aM v.ns F.root) ⟨hF0,WS.2⟩
 by_cases e1:xX (ol v.T) J.aL=[]
 ·have hz:(nz (xX (ol v.T) J.aL))=none:=if_pos e1
  rw[show Mv 118 34 aT (xX (ol v.T) J.aL)=.v (.slice none 0 0) from if_pos e1] at aBd;have Vw:=kx aBd (bE hs.fT (.v _)) (.v _)
  by_cases e2:F=s.aG.fin
  ·rw[if_pos e2,hz] at hv;subst e2;simp only[ZG,seval,Bool.false_and,Prod.mk.injEq,sI,EU,eA,hs.tables,Vw,decide_true,decide_false];exact⟨_,fF rfl (by simp only[E8,seval,hf,jJ,and_self]<;>rfl) (by simp only[Z8,seval,hf,jJ,and_self]<;>rfl) (by simp only[dY,and_self,hf,jJ,and_self]),by rw[hv];rfl⟩
  rw[if_neg e2,hz] at hv;obtain⟨Vx,en⟩:∃Vx,(oJ v.ns (aM v.ns F.root) v.ns.length).1=Vx:=⟨_,rfl⟩
  have Iw:(Vx.length:Int)<1000000:=by have:=ET (ns:=v.ns) (aM v.ns F.root);have:=hs.nn;rw[← en];omega
  unfold aA1 at kp;rw[en] at kp hv;obtain⟨x,ex⟩:∃x,(JV F.aL s.cFg.qK).1=x:=⟨_,rfl⟩
  rw[show (Dk s F.aL).1=x from ex] at hv;by_cases e3:aM Vx s.iD<0
  ·rw[if_pos e3] at hv;obtain⟨S1,eS⟩:∃S1:aP,S1={ cFg:=s.cFg,fV:=s.fV,aG:=⟨J,F⟩,dM:=s.dM,tree:=⟨.sl Vx.length (cC Vx)⟩,now:=s.now,iD:=dK,tables:=.v (.slice none 0 0)}:=⟨_,rfl⟩
   have hS:Flat (.agg (aB S1)):=by rw[eS];simp only[dY,jJ,and_self]
   have Vy:=fun st d=>Ue S1 hS F.aL st d
   simp only[Dk,eS,ex] at Vy
   simp only[ZG,seval,Bool.false_and,Prod.mk.injEq,sI,EU,eA,hs.tables,Vw,decide_true,decide_false,e2,hs.tree,jA _ _ hs.nn,kp,jA _ _ Iw,e3,Vy,hs.bU];have EW:S1.dM.bU=ov aJ v.O:=by rw[eS];exact hs.bU
   refine mC (fun m st=>∃k:Nat,(st.env 3=.ptr 3 0 0∧st.heap 3 0=some (.cells (aB S1))∧st.env 6=.ptr 6 0 0∧st.heap 6 0=some (.cells (aB eF))∧st.env 11=.v (.int .u64 x)∧st.env 14=.v (.int .i64 k))∧(((((ol v.O).take k).filter (fun b=>decide (x<b.slot)))=[]∧st.env 13=.v (.slice none 0 0))∨((((ol v.O).take k).filter (fun b=>decide (x<b.slot)))≠[]∧∃g,st.env 13=.own 99 g∧g<st.aQ 99∧st.heap 99 g=some (.row 74 238 (((ol v.O).take k).filter (fun b=>decide (x<b.slot))).length (aJ (((ol v.O).take k).filter (fun b=>decide (x<b.slot)))))))∧k≤(ol v.O).length∧m=(ol v.O).length-k)
    (fun e st=>e=.exit 0∧(((((ol v.O).take (ol v.O).length).filter (fun b=>decide (x<b.slot)))=[]∧st.env 13=.v (.slice none 0 0))∨((((ol v.O).take (ol v.O).length).filter (fun b=>decide (x<b.slot)))≠[]∧∃g,st.env 13=.own 99 g∧g<st.aQ 99∧st.heap 99 g=some (.row 74 238 (((ol v.O).take (ol v.O).length).filter (fun b=>decide (x<b.slot))).length (aJ (((ol v.O).take (ol v.O).length).filter (fun b=>decide (x<b.slot)))))))∧st.env 3=.ptr 3 0 0∧st.heap 3 0=some (.cells (aB S1))∧st.env 6=.ptr 6 0 0∧st.heap 6 0=some (.cells (aB eF))∧st.env 11=.v (.int .u64 x)) ((ol v.O).length) ?step ?start ?rest
   case step =>
    rintro m st ⟨k,hI,h5,hk,hm⟩
    have Fz:(((((ol v.O).take k).filter (fun b=>decide (x<b.slot))).length:Nat):Int)<1000000:=by have:=List.length_filter_le (fun b=>decide (x<b.slot)) ((ol v.O).take k);have h2:=List.length_take_le' k (ol v.O);omega
    by_cases bB:(k:Int)<(ol v.O).length
    ·have q0:(0:Int)≤k:=by omega
     have hw:IntKind.i64.wrap ((k:Int)+1)=((k+1:Nat):Int):=by rw[qA _ (by omega) (by omega)];omega
     have hs:=xW fB (fun b=>decide (x<b.slot)) (ol v.O) k (by omega)
     by_cases hh:x<(gx fB (ol v.O) (k:Int)).slot
     ·rw[if_pos (decide_eq_true hh)] at hs;rcases h5 with ⟨hy,h5⟩|⟨hy,g,h5⟩
      ·rw[hy] at hs;apply Ea ((ol v.O).length-(k+1))
       ·simp only[ZG,seval,Bool.false_and,Prod.mk.injEq,hI,h5,bB,hw,q0,sI,EW,hh];rfl
       ·exact⟨k+1,by simp only[E8,seval,hI],.inr ⟨by rw[hs];simp,_,by simp only[E8,seval]<;>rfl,(by simp only[E8,seval]<;>omega),(by rw[hs];simp only[E8,seval]<;>rfl)⟩,by omega,rfl⟩
      ·apply Ea ((ol v.O).length-(k+1))
       ·simp only[ZG,seval,Bool.false_and,Prod.mk.injEq,hI,h5,Fz,bB,hw,q0,sI,EW,hh];rfl
       ·exact⟨k+1,by simp only[E8,seval,hI],.inr ⟨by rw[hs];simp,_,by simp only[E8,seval]<;>rfl,(by simp only[E8,seval]<;>omega),(by rw[hs];simp only[E8,seval]<;>rfl)⟩,by omega,rfl⟩
     ·rw[if_neg (by simpa using hh),List.append_nil] at hs
      apply Ea ((ol v.O).length-(k+1))
      ·simp only[ZG,seval,Bool.false_and,Prod.mk.injEq,hI,bB,hw,q0,sI,EW,hh];rfl
      ·exact⟨k+1,by simp only[E8,seval,hI],by rw[hs];simpa only[E8,seval] using h5,by omega,rfl⟩
    ·have Fy:k=(ol v.O).length:=by omega
     rw[Fy] at h5;apply JK (.exit 0)
     ·simp only[ZG,seval,Bool.false_and,Prod.mk.injEq,hI,bB,sI,EW];rfl
     ·exact⟨rfl,by simpa only[E8,seval] using h5,by simp only[E8,seval,hI]⟩
   case start=>exact⟨0,by simp only[E8,seval,eS]<;>rfl,.inl ⟨rfl,by simp only[E8,seval]⟩,by omega,by omega⟩
   case rest =>
    rintro e st ⟨rfl,⟨hy,h5⟩|⟨hy,g,h5,hg,zT⟩,hI⟩
    ·rw[List.take_length] at hy;rw[show nz ((ol v.O).filter fun b=>decide (x<b.slot))=none from if_pos hy] at hv
     rw[eS] at hI;simp only[ZG,seval,Bool.false_and,Prod.mk.injEq,sI,h5,hI];exact⟨_,fF rfl (by simp only[E8,seval,hI,jJ,and_self]<;>rfl) (by simp only[Z8,seval,hI,jJ,and_self]<;>rfl) (by simp only[dY,and_self,hI,jJ,and_self]),by rw[hv];rfl⟩
    ·rw[List.take_length] at hy zT;rw[show nz ((ol v.O).filter fun b=>decide (x<b.slot))=some ((ol v.O).filter fun b=>decide (x<b.slot)) from if_neg hy] at hv
     rw[eS] at hI;simp only[ZG,seval,Bool.false_and,Prod.mk.injEq,sI,h5,zT,hI];exact⟨_,by apply eK;rfl;all_goals simp only[aE,Z8,seval,hI,zT,jJ,bP,gI,bG,cX,tU,dY]<;>rfl,by rw[hv];rfl⟩
  rw[if_neg e3] at hv;obtain⟨S1,eS⟩:∃S1:aP,S1={ cFg:=s.cFg,fV:=s.fV,aG:=⟨J,F⟩,dM:=s.dM,tree:=⟨.sl Vx.length (cC Vx)⟩,now:=s.now,iD:=s.iD,tables:=.v (.slice none 0 0)}:=⟨_,rfl⟩
  have hS:Flat (.agg (aB S1)):=by rw[eS];simp only[dY,jJ,and_self]
  have Vy:=fun st d=>Ue S1 hS F.aL st d
  simp only[Dk,eS,ex] at Vy
  simp only[ZG,seval,Bool.false_and,Prod.mk.injEq,sI,EU,eA,hs.tables,Vw,decide_true,decide_false,e2,hs.tree,jA _ _ hs.nn,kp,jA _ _ Iw,e3,Vy,hs.bU];have EW:S1.dM.bU=ov aJ v.O:=by rw[eS];exact hs.bU
  refine mC (fun m st=>∃k:Nat,(st.env 3=.ptr 3 0 0∧st.heap 3 0=some (.cells (aB S1))∧st.env 6=.ptr 6 0 0∧st.heap 6 0=some (.cells (aB eF))∧st.env 11=.v (.int .u64 x)∧st.env 14=.v (.int .i64 k))∧(((((ol v.O).take k).filter (fun b=>decide (x<b.slot)))=[]∧st.env 13=.v (.slice none 0 0))∨((((ol v.O).take k).filter (fun b=>decide (x<b.slot)))≠[]∧∃g,st.env 13=.own 99 g∧g<st.aQ 99∧st.heap 99 g=some (.row 74 238 (((ol v.O).take k).filter (fun b=>decide (x<b.slot))).length (aJ (((ol v.O).take k).filter (fun b=>decide (x<b.slot)))))))∧k≤(ol v.O).length∧m=(ol v.O).length-k)
   (fun e st=>e=.exit 0∧(((((ol v.O).take (ol v.O).length).filter (fun b=>decide (x<b.slot)))=[]∧st.env 13=.v (.slice none 0 0))∨((((ol v.O).take (ol v.O).length).filter (fun b=>decide (x<b.slot)))≠[]∧∃g,st.env 13=.own 99 g∧g<st.aQ 99∧st.heap 99 g=some (.row 74 238 (((ol v.O).take (ol v.O).length).filter (fun b=>decide (x<b.slot))).length (aJ (((ol v.O).take (ol v.O).length).filter (fun b=>decide (x<b.slot)))))))∧st.env 3=.ptr 3 0 0∧st.heap 3 0=some (.cells (aB S1))∧st.env 6=.ptr 6 0 0∧st.heap 6 0=some (.cells (aB eF))∧st.env 11=.v (.int .u64 x)) ((ol v.O).length) ?step ?start ?rest
  case step =>
   rintro m st ⟨k,hI,h5,hk,hm⟩
   have Fz:(((((ol v.O).take k).filter (fun b=>decide (x<b.slot))).length:Nat):Int)<1000000:=by have:=List.length_filter_le (fun b=>decide (x<b.slot)) ((ol v.O).take k);have h2:=List.length_take_le' k (ol v.O);omega
   by_cases bB:(k:Int)<(ol v.O).length
   ·have q0:(0:Int)≤k:=by omega
    have hw:IntKind.i64.wrap ((k:Int)+1)=((k+1:Nat):Int):=by rw[qA _ (by omega) (by omega)];omega
    have hs:=xW fB (fun b=>decide (x<b.slot)) (ol v.O) k (by omega)
    by_cases hh:x<(gx fB (ol v.O) (k:Int)).slot
    ·rw[if_pos (decide_eq_true hh)] at hs;rcases h5 with ⟨hy,h5⟩|⟨hy,g,h5⟩
     ·rw[hy] at hs;apply Ea ((ol v.O).length-(k+1))
      ·simp only[ZG,seval,Bool.false_and,Prod.mk.injEq,hI,h5,bB,hw,q0,sI,EW,hh];rfl
      ·exact⟨k+1,by simp only[E8,seval,hI],.inr ⟨by rw[hs];simp,_,by simp only[E8,seval]<;>rfl,(by simp only[E8,seval]<;>omega),(by rw[hs];simp only[E8,seval]<;>rfl)⟩,by omega,rfl⟩
     ·apply Ea ((ol v.O).length-(k+1))
      ·simp only[ZG,seval,Bool.false_and,Prod.mk.injEq,hI,h5,Fz,bB,hw,q0,sI,EW,hh];rfl
      ·exact⟨k+1,by simp only[E8,seval,hI],.inr ⟨by rw[hs];simp,_,by simp only[E8,seval]<;>rfl,(by simp only[E8,seval]<;>omega),(by rw[hs];simp only[E8,seval]<;>rfl)⟩,by omega,rfl⟩
    ·rw[if_neg (by simpa using hh),List.append_nil] at hs
     apply Ea ((ol v.O).length-(k+1))
     ·simp only[ZG,seval,Bool.false_and,Prod.mk.injEq,hI,bB,hw,q0,sI,EW,hh];rfl
     ·exact⟨k+1,by simp only[E8,seval,hI],by rw[hs];simpa only[E8,seval] using h5,by omega,rfl⟩
   ·have Fy:k=(ol v.O).length:=by omega
    rw[Fy] at h5;apply JK (.exit 0)
    ·simp only[ZG,seval,Bool.false_and,Prod.mk.injEq,hI,bB,sI,EW];rfl
    ·exact⟨rfl,by simpa only[E8,seval] using h5,by simp only[E8,seval,hI]⟩
  case start=>exact⟨0,by simp only[E8,seval,eS]<;>rfl,.inl ⟨rfl,by simp only[E8,seval]⟩,by omega,by omega⟩
  case rest =>
   rintro e st ⟨rfl,⟨hy,h5⟩|⟨hy,g,h5,hg,zT⟩,hI⟩
   ·rw[List.take_length] at hy;rw[show nz ((ol v.O).filter fun b=>decide (x<b.slot))=none from if_pos hy] at hv
    rw[eS] at hI;simp only[ZG,seval,Bool.false_and,Prod.mk.injEq,sI,h5,hI];exact⟨_,fF rfl (by simp only[E8,seval,hI,jJ,and_self]<;>rfl) (by simp only[Z8,seval,hI,jJ,and_self]<;>rfl) (by simp only[dY,and_self,hI,jJ,and_self]),by rw[hv];rfl⟩
   ·rw[List.take_length] at hy zT;rw[show nz ((ol v.O).filter fun b=>decide (x<b.slot))=some ((ol v.O).filter fun b=>decide (x<b.slot)) from if_neg hy] at hv
    rw[eS] at hI;simp only[ZG,seval,Bool.false_and,Prod.mk.injEq,sI,h5,zT,hI];exact⟨_,by apply eK;rfl;all_goals simp only[aE,Z8,seval,hI,zT,jJ,bP,gI,bG,cX,tU,dY]<;>rfl,by rw[hv];rfl⟩
 ·have hz:(nz (xX (ol v.T) J.aL))=some (xX (ol v.T) J.aL):=if_neg e1
  rw[show Mv 118 34 aT (xX (ol v.T) J.aL)=.uniq 118 34 (xX (ol v.T) J.aL).length (aT (xX (ol v.T) J.aL)) from if_neg e1] at aBd;have Vw:∀(st:St),aN (aC Tryz.prog) 128 [ov aT v.T,.v (.int .u64 J.aL)] st (some 30)=_:=fun st=>jB (st:=st) (d:=30) (bE hs.fT (.v _)) aBd
  have QP:∀t∈xX (ol v.T) J.aL,Flat t.jI:=fun t m=>(hs.tB t (List.mem_filter.1 m).1).fl
  have hex:=Mz (xX (ol v.T) J.aL).length (xX (ol v.T) J.aL) QP
  by_cases e2:F=s.aG.fin
  ·rw[if_pos e2,hz] at hv;subst e2;simp only[ZG,seval,Bool.false_and,Prod.mk.injEq,sI,EU,eA,hs.tables,Vw,decide_true,decide_false];exact⟨_,by apply eK;rfl;all_goals simp only[aE,Z8,seval,jJ,bP,gI,bG,cX,hex]<;>rfl,by rw[hv];rfl⟩
  rw[if_neg e2,hz] at hv;obtain⟨Vx,en⟩:∃Vx,(oJ v.ns (aM v.ns F.root) v.ns.length).1=Vx:=⟨_,rfl⟩
  have Iw:(Vx.length:Int)<1000000:=by have:=ET (ns:=v.ns) (aM v.ns F.root);have:=hs.nn;rw[← en];omega
  unfold aA1 at kp;rw[en] at kp hv;obtain⟨x,ex⟩:∃x,(JV F.aL s.cFg.qK).1=x:=⟨_,rfl⟩
  rw[show (Dk s F.aL).1=x from ex] at hv;by_cases e3:aM Vx s.iD<0
  ·rw[if_pos e3] at hv;obtain⟨S1,eS⟩:∃S1:aP,S1={ cFg:=s.cFg,fV:=s.fV,aG:=⟨J,F⟩,dM:=s.dM,tree:=⟨.sl Vx.length (cC Vx)⟩,now:=s.now,iD:=dK,tables:=.own 30 0 }:=⟨_,rfl⟩
   have hS:∀st:St,st.heap 30 0=some (.row 118 34 (xX (ol v.T) J.aL).length (aT (xX (ol v.T) J.aL)))→fO st (.agg (aB S1))=some (.agg (aB { S1 with tables:=.sl (xX (ol v.T) J.aL).length (aT (xX (ol v.T) J.aL))})):=by
    intro st h;rw[eS];simp only[bP,gI,bG,h,hex,cX,dY,jJ,cU]
   have Vy:∀(st:St) (d:Option Nat),st.heap 30 0=some (.row 118 34 (xX (ol v.T) J.aL).length (aT (xX (ol v.T) J.aL)))→aN (aC Tryz.prog) 99 [.agg (aB S1),.v (.int .u64 F.aL)] st d=some { dst:=d,val:=.eE [.v (.int .u64 (Dk S1 F.aL).1),.v (.bool ((Dk S1 F.aL).2 == 0))]}:=by
    intro st d h;rw[mU,List.map_cons,List.map_cons,List.map_nil,hS st h,Pw,bR,bR,gR];exact ZI (c99 _ F.aL) (by intro x hx;simp only[List.mem_cons,List.not_mem_nil,or_false] at hx;rcases hx with rfl|rfl<;>exact .v _) (.eE _ (bE (.v _) (.v _)))
   simp only[Dk,eS,ex] at Vy
   simp only[ZG,seval,Bool.false_and,Prod.mk.injEq,sI,EU,eA,hs.tables,Vw,decide_true,decide_false,e2,hs.tree,jA _ _ hs.nn,kp,jA _ _ Iw,e3,Vy,hs.bU];have EW:S1.dM.bU=ov aJ v.O:=by rw[eS];exact hs.bU
   refine mC (fun m st=>∃k:Nat,(st.env 3=.ptr 3 0 0∧st.heap 3 0=some (.cells (aB S1))∧st.env 6=.ptr 6 0 0∧st.heap 6 0=some (.cells (aB eF))∧st.env 11=.v (.int .u64 x)∧st.heap 30 0=some (.row 118 34 (xX (ol v.T) J.aL).length (aT (xX (ol v.T) J.aL)))∧st.env 14=.v (.int .i64 k))∧(((((ol v.O).take k).filter (fun b=>decide (x<b.slot)))=[]∧st.env 13=.v (.slice none 0 0))∨((((ol v.O).take k).filter (fun b=>decide (x<b.slot)))≠[]∧∃g,st.env 13=.own 99 g∧g<st.aQ 99∧st.heap 99 g=some (.row 74 238 (((ol v.O).take k).filter (fun b=>decide (x<b.slot))).length (aJ (((ol v.O).take k).filter (fun b=>decide (x<b.slot)))))))∧k≤(ol v.O).length∧m=(ol v.O).length-k)
    (fun e st=>e=.exit 0∧(((((ol v.O).take (ol v.O).length).filter (fun b=>decide (x<b.slot)))=[]∧st.env 13=.v (.slice none 0 0))∨((((ol v.O).take (ol v.O).length).filter (fun b=>decide (x<b.slot)))≠[]∧∃g,st.env 13=.own 99 g∧g<st.aQ 99∧st.heap 99 g=some (.row 74 238 (((ol v.O).take (ol v.O).length).filter (fun b=>decide (x<b.slot))).length (aJ (((ol v.O).take (ol v.O).length).filter (fun b=>decide (x<b.slot)))))))∧st.env 3=.ptr 3 0 0∧st.heap 3 0=some (.cells (aB S1))∧st.env 6=.ptr 6 0 0∧st.heap 6 0=some (.cells (aB eF))∧st.env 11=.v (.int .u64 x)∧st.heap 30 0=some (.row 118 34 (xX (ol v.T) J.aL).length (aT (xX (ol v.T) J.aL)))) ((ol v.O).length) ?step ?start ?rest
   case step =>
    rintro m st ⟨k,hI,h5,hk,hm⟩
    have Fz:(((((ol v.O).take k).filter (fun b=>decide (x<b.slot))).length:Nat):Int)<1000000:=by have:=List.length_filter_le (fun b=>decide (x<b.slot)) ((ol v.O).take k);have h2:=List.length_take_le' k (ol v.O);omega
    by_cases bB:(k:Int)<(ol v.O).length
    ·have q0:(0:Int)≤k:=by omega
     have hw:IntKind.i64.wrap ((k:Int)+1)=((k+1:Nat):Int):=by rw[qA _ (by omega) (by omega)];omega
     have hs:=xW fB (fun b=>decide (x<b.slot)) (ol v.O) k (by omega)
     by_cases hh:x<(gx fB (ol v.O) (k:Int)).slot
     ·rw[if_pos (decide_eq_true hh)] at hs;rcases h5 with ⟨hy,h5⟩|⟨hy,g,h5⟩
      ·rw[hy] at hs;apply Ea ((ol v.O).length-(k+1))
       ·simp only[ZG,seval,Bool.false_and,Prod.mk.injEq,hI,h5,bB,hw,q0,sI,EW,hh];rfl
       ·exact⟨k+1,by simp only[E8,seval,hI],.inr ⟨by rw[hs];simp,_,by simp only[E8,seval]<;>rfl,(by simp only[E8,seval]<;>omega),(by rw[hs];simp only[E8,seval]<;>rfl)⟩,by omega,rfl⟩
      ·apply Ea ((ol v.O).length-(k+1))
       ·simp only[ZG,seval,Bool.false_and,Prod.mk.injEq,hI,h5,Fz,bB,hw,q0,sI,EW,hh];rfl
       ·exact⟨k+1,by simp only[E8,seval,hI],.inr ⟨by rw[hs];simp,_,by simp only[E8,seval]<;>rfl,(by simp only[E8,seval]<;>omega),(by rw[hs];simp only[E8,seval]<;>rfl)⟩,by omega,rfl⟩
     ·rw[if_neg (by simpa using hh),List.append_nil] at hs
      apply Ea ((ol v.O).length-(k+1))
      ·simp only[ZG,seval,Bool.false_and,Prod.mk.injEq,hI,bB,hw,q0,sI,EW,hh];rfl
      ·exact⟨k+1,by simp only[E8,seval,hI],by rw[hs];simpa only[E8,seval] using h5,by omega,rfl⟩
    ·have Fy:k=(ol v.O).length:=by omega
     rw[Fy] at h5;apply JK (.exit 0)
     ·simp only[ZG,seval,Bool.false_and,Prod.mk.injEq,hI,bB,sI,EW];rfl
     ·exact⟨rfl,by simpa only[E8,seval] using h5,by simp only[E8,seval,hI]⟩
   case start=>exact⟨0,by simp only[E8,seval,eS]<;>rfl,.inl ⟨rfl,by simp only[E8,seval]⟩,by omega,by omega⟩
   case rest =>
    rintro e st ⟨rfl,⟨hy,h5⟩|⟨hy,g,h5,hg,zT⟩,hI⟩
    ·rw[List.take_length] at hy;rw[show nz ((ol v.O).filter fun b=>decide (x<b.slot))=none from if_pos hy] at hv
     rw[eS] at hI;simp only[ZG,seval,Bool.false_and,Prod.mk.injEq,sI,h5,hI];exact⟨_,by apply eK;rfl;all_goals simp only[aE,Z8,seval,hI,jJ,bP,gI,bG,cX,tU,dY,hex]<;>rfl,by rw[hv];rfl⟩
    ·rw[List.take_length] at hy zT;rw[show nz ((ol v.O).filter fun b=>decide (x<b.slot))=some ((ol v.O).filter fun b=>decide (x<b.slot)) from if_neg hy] at hv
     rw[eS] at hI;simp only[ZG,seval,Bool.false_and,Prod.mk.injEq,sI,h5,zT,hI];exact⟨_,by apply eK;rfl;all_goals simp only[aE,Z8,seval,hI,zT,jJ,bP,gI,bG,cX,tU,dY,hex]<;>rfl,by rw[hv];rfl⟩
  rw[if_neg e3] at hv;obtain⟨S1,eS⟩:∃S1:aP,S1={ cFg:=s.cFg,fV:=s.fV,aG:=⟨J,F⟩,dM:=s.dM,tree:=⟨.sl Vx.length (cC Vx)⟩,now:=s.now,iD:=s.iD,tables:=.own 30 0 }:=⟨_,rfl⟩
  have hS:∀st:St,st.heap 30 0=some (.row 118 34 (xX (ol v.T) J.aL).length (aT (xX (ol v.T) J.aL)))→fO st (.agg (aB S1))=some (.agg (aB { S1 with tables:=.sl (xX (ol v.T) J.aL).length (aT (xX (ol v.T) J.aL))})):=by
   intro st h;rw[eS];simp only[bP,gI,bG,h,hex,cX,dY,jJ,cU]
  have Vy:∀(st:St) (d:Option Nat),st.heap 30 0=some (.row 118 34 (xX (ol v.T) J.aL).length (aT (xX (ol v.T) J.aL)))→aN (aC Tryz.prog) 99 [.agg (aB S1),.v (.int .u64 F.aL)] st d=some { dst:=d,val:=.eE [.v (.int .u64 (Dk S1 F.aL).1),.v (.bool ((Dk S1 F.aL).2 == 0))]}:=by
   intro st d h;rw[mU,List.map_cons,List.map_cons,List.map_nil,hS st h,Pw,bR,bR,gR];exact ZI (c99 _ F.aL) (by intro x hx;simp only[List.mem_cons,List.not_mem_nil,or_false] at hx;rcases hx with rfl|rfl<;>exact .v _) (.eE _ (bE (.v _) (.v _)))
  simp only[Dk,eS,ex] at Vy
  simp only[ZG,seval,Bool.false_and,Prod.mk.injEq,sI,EU,eA,hs.tables,Vw,decide_true,decide_false,e2,hs.tree,jA _ _ hs.nn,kp,jA _ _ Iw,e3,Vy,hs.bU];have EW:S1.dM.bU=ov aJ v.O:=by rw[eS];exact hs.bU
  refine mC (fun m st=>∃k:Nat,(st.env 3=.ptr 3 0 0∧st.heap 3 0=some (.cells (aB S1))∧st.env 6=.ptr 6 0 0∧st.heap 6 0=some (.cells (aB eF))∧st.env 11=.v (.int .u64 x)∧st.heap 30 0=some (.row 118 34 (xX (ol v.T) J.aL).length (aT (xX (ol v.T) J.aL)))∧st.env 14=.v (.int .i64 k))∧(((((ol v.O).take k).filter (fun b=>decide (x<b.slot)))=[]∧st.env 13=.v (.slice none 0 0))∨((((ol v.O).take k).filter (fun b=>decide (x<b.slot)))≠[]∧∃g,st.env 13=.own 99 g∧g<st.aQ 99∧st.heap 99 g=some (.row 74 238 (((ol v.O).take k).filter (fun b=>decide (x<b.slot))).length (aJ (((ol v.O).take k).filter (fun b=>decide (x<b.slot)))))))∧k≤(ol v.O).length∧m=(ol v.O).length-k)
   (fun e st=>e=.exit 0∧(((((ol v.O).take (ol v.O).length).filter (fun b=>decide (x<b.slot)))=[]∧st.env 13=.v (.slice none 0 0))∨((((ol v.O).take (ol v.O).length).filter (fun b=>decide (x<b.slot)))≠[]∧∃g,st.env 13=.own 99 g∧g<st.aQ 99∧st.heap 99 g=some (.row 74 238 (((ol v.O).take (ol v.O).length).filter (fun b=>decide (x<b.slot))).length (aJ (((ol v.O).take (ol v.O).length).filter (fun b=>decide (x<b.slot)))))))∧st.env 3=.ptr 3 0 0∧st.heap 3 0=some (.cells (aB S1))∧st.env 6=.ptr 6 0 0∧st.heap 6 0=some (.cells (aB eF))∧st.env 11=.v (.int .u64 x)∧st.heap 30 0=some (.row 118 34 (xX (ol v.T) J.aL).length (aT (xX (ol v.T) J.aL)))) ((ol v.O).length) ?step ?start ?rest
  case step =>
   rintro m st ⟨k,hI,h5,hk,hm⟩
   have Fz:(((((ol v.O).take k).filter (fun b=>decide (x<b.slot))).length:Nat):Int)<1000000:=by have:=List.length_filter_le (fun b=>decide (x<b.slot)) ((ol v.O).take k);have h2:=List.length_take_le' k (ol v.O);omega
   by_cases bB:(k:Int)<(ol v.O).length
   ·have q0:(0:Int)≤k:=by omega
    have hw:IntKind.i64.wrap ((k:Int)+1)=((k+1:Nat):Int):=by rw[qA _ (by omega) (by omega)];omega
    have hs:=xW fB (fun b=>decide (x<b.slot)) (ol v.O) k (by omega)
    by_cases hh:x<(gx fB (ol v.O) (k:Int)).slot
    ·rw[if_pos (decide_eq_true hh)] at hs;rcases h5 with ⟨hy,h5⟩|⟨hy,g,h5⟩
     ·rw[hy] at hs;apply Ea ((ol v.O).length-(k+1))
      ·simp only[ZG,seval,Bool.false_and,Prod.mk.injEq,hI,h5,bB,hw,q0,sI,EW,hh];rfl
      ·exact⟨k+1,by simp only[E8,seval,hI],.inr ⟨by rw[hs];simp,_,by simp only[E8,seval]<;>rfl,(by simp only[E8,seval]<;>omega),(by rw[hs];simp only[E8,seval]<;>rfl)⟩,by omega,rfl⟩
     ·apply Ea ((ol v.O).length-(k+1))
      ·simp only[ZG,seval,Bool.false_and,Prod.mk.injEq,hI,h5,Fz,bB,hw,q0,sI,EW,hh];rfl
      ·exact⟨k+1,by simp only[E8,seval,hI],.inr ⟨by rw[hs];simp,_,by simp only[E8,seval]<;>rfl,(by simp only[E8,seval]<;>omega),(by rw[hs];simp only[E8,seval]<;>rfl)⟩,by omega,rfl⟩
    ·rw[if_neg (by simpa using hh),List.append_nil] at hs
     apply Ea ((ol v.O).length-(k+1))
     ·simp only[ZG,seval,Bool.false_and,Prod.mk.injEq,hI,bB,hw,q0,sI,EW,hh];rfl
     ·exact⟨k+1,by simp only[E8,seval,hI],by rw[hs];simpa only[E8,seval] using h5,by omega,rfl⟩
   ·have Fy:k=(ol v.O).length:=by omega
    rw[Fy] at h5;apply JK (.exit 0)
    ·simp only[ZG,seval,Bool.false_and,Prod.mk.injEq,hI,bB,sI,EW];rfl
    ·exact⟨rfl,by simpa only[E8,seval] using h5,by simp only[E8,seval,hI]⟩
  case start=>exact⟨0,by simp only[E8,seval,eS]<;>rfl,.inl ⟨rfl,by simp only[E8,seval]⟩,by omega,by omega⟩
  case rest =>
   rintro e st ⟨rfl,⟨hy,h5⟩|⟨hy,g,h5,hg,zT⟩,hI⟩
   ·rw[List.take_length] at hy;rw[show nz ((ol v.O).filter fun b=>decide (x<b.slot))=none from if_pos hy] at hv
    rw[eS] at hI;simp only[ZG,seval,Bool.false_and,Prod.mk.injEq,sI,h5,hI];exact⟨_,by apply eK;rfl;all_goals simp only[aE,Z8,seval,hI,jJ,bP,gI,bG,cX,tU,dY,hex]<;>rfl,by rw[hv];rfl⟩
   ·rw[List.take_length] at hy zT;rw[show nz ((ol v.O).filter fun b=>decide (x<b.slot))=some ((ol v.O).filter fun b=>decide (x<b.slot)) from if_neg hy] at hv
    rw[eS] at hI;simp only[ZG,seval,Bool.false_and,Prod.mk.injEq,sI,h5,zT,hI];exact⟨_,by apply eK;rfl;all_goals simp only[aE,Z8,seval,hI,zT,jJ,bP,gI,bG,cX,tU,dY,hex]<;>rfl,by rw[hv];rfl⟩
theorem k61 {s:aP} {v:SV} (hs:SD s v) (hu:gZ v.ns) (hp:s.cFg.qK≠0) (c1 c2:fR) (st:St) (d:Option Nat):aN (aC Tryz.prog) 61 [.agg (aB s),.agg (bY c1),.agg (bY c2)] st d=some { dst:=d,val:=.agg (aB (wR s v c1 c2))}:=bI (lN hs.flat (.agg _ (dA c1)) (.agg _ (dA c2))) (c61 hs hu hp c1 c2) (hs.dJ hu c1 c2).flat
theorem Am {α:Type} (s g:Nat) (cs:List α→List AV) (o:Option (List α)):fU (.own s g) (ov cs o)=True:=by cases o<;>rfl
theorem An {α:Type} (s g:Nat) (cs:List α→List AV) (o:Option (List α)):fU (ov cs o) (.own s g)=True:=by cases o<;>rfl
theorem Fb {α:Type} (s g n:Nat) (cs:List α→List AV) (o:Option (List α)):fU (.ptr s g n) (ov cs o)=True:=by cases o<;>rfl
theorem Fc {α:Type} (s g n:Nat) (cs:List α→List AV) (o:Option (List α)):fU (ov cs o) (.ptr s g n)=True:=by cases o<;>rfl
theorem aJq (t:Table) (b:Option (List Int)) (hb:t.jI=ov bC b) (hl:((ol b).length:Int)<1000000):aC Tryz.prog 158 [.agg (cA t)]=some (.agg (cA ⟨t.ck,ov bC (some (ol b))⟩)):=by
 rw[cL Tryz.func158 rfl aJr rfl];refine jR ?_
 simp only[Z8,seval,hb,Eb _ hl];exact⟨_,by apply eK;rfl;all_goals simp only[aE,Z8,seval,bP,sV,bG,uZ]<;>rfl,rfl⟩
def aOg (o:Option (List Table)) (t':Table) (L:List Table):Prop:=L.length=(ol o).length+1∧(∀x∈L,x∈ol o∨x=t')∧∀x∈ol o,x∈L
theorem aOh (o:Option (List Table)) (hn:((ol o).length:Int)<999999) (hT:∀x∈ol o,Flat x.jI) (t:Table) (b:Option (List Int)) (hb:t.jI=ov bC b) (hl:((ol b).length:Int)<1000000) :
 ∃r,aC Tryz.prog 195 [ov aT o,.agg (cA t)]=some r∧∃L,aOg o ⟨t.ck,ov bC (some (ol b))⟩ L∧r=.uniq 118 34 L.length (aT L):=by
 have hfT:Flat (.agg (cA t)):=(jZ t).2 (by rw[hb];exact dR b)
 have hf2:Flat (.agg (cA ⟨t.ck,ov bC (some (ol b))⟩)):=(jZ _).2 (dR (some (ol b)))
 have hto:=lQ o hT
 have aE3:=kx (aJq t b hb hl) (cO hfT) hf2
 rw[cG Tryz.func195 rfl aJt (by kernel_rfl) (by cases o<;>rfl)]
 simp only[ZG,seval,Bool.false_and,Prod.mk.injEq,KV];refine mC (fun m st=>∃k:Nat,(st.env 0=ov aT o∧st.env 3=.ptr 3 0 0∧st.heap 3 0=some (.cells (cA t))∧st.env 5=.v (.int .i64 k))∧k≤(ol o).length∧m=(ol o).length-k)
  (fun e st=>e=.exit 0∧∃k:Nat,(st.env 0=ov aT o∧st.env 3=.ptr 3 0 0∧st.heap 3 0=some (.cells (cA t))∧st.env 5=.v (.int .i64 k))∧k≤(ol o).length) (ol o).length ?step ?start ?rest
 case step =>
  rintro m st ⟨k,hI,hk,hm⟩
  by_cases bB:(k:Int)<(ol o).length
  ·have q0:(0:Int)≤k:=by omega
   have hw:IntKind.i64.wrap ((k:Int)+1)=((k+1:Nat):Int):=by rw[qA _ (by omega) (by omega)];omega
   by_cases h1:aJl (gx iT (ol o) (k:Int)).ck t.ck<0
   ·apply Ea ((ol o).length-(k+1))
    ·simp only[ZG,seval,Bool.false_and,Prod.mk.injEq,KV,hI,bB,q0,aJm,h1,hw];rfl
    ·exact⟨k+1,by simp only[E8,seval,hI],by omega,rfl⟩
   ·apply JK (.exit 0)
    ·simp only[ZG,seval,Bool.false_and,Prod.mk.injEq,KV,hI,bB,q0,aJm,h1];rfl
    ·exact⟨rfl,k,by simp only[E8,seval,hI],hk⟩
  ·apply JK (.exit 0)
   ·simp only[ZG,seval,Bool.false_and,Prod.mk.injEq,KV,hI,bB];rfl
   ·exact⟨rfl,k,by simp only[E8,seval,hI],hk⟩
 case start=>exact⟨0,by simp only[E8,seval]<;>rfl,by omega,by omega⟩
 case rest =>
  rintro e st ⟨rfl,k,hI,hk⟩
  have e1:ol (o.map (·.take k))=(ol o).take k:=by cases o<;>simp[ol]
  have e2:ol (o.map (·.drop k))=(ol o).drop k:=by cases o<;>simp[ol]
  have n1:(((ol (o.map (·.take k))).length:Nat):Int)<1000000:=by rw[e1,List.length_take];omega
  have n2:(((ol (o.map (·.drop k))).length:Nat):Int)<1000000:=by rw[e2,List.length_drop];omega
  have n3:(((ol (o.map (·.take k))++[(⟨t.ck,ov bC (some (ol b))⟩:Table)]).length:Nat):Int)<1000000:=by rw[List.length_append,e1,List.length_take];simp;omega
  have q0:(0:Int)≤k:=by omega
  have q1:(k:Int)≤((ol o).length:Int):=by omega
  have hr:∀x∈aT (ol (o.map (·.take k))++[(⟨t.ck,ov bC (some (ol b))⟩:Table)]++ol (o.map (·.drop k))),Flat x:=by
   refine lR _ fun x m=>?_
   rw[e1,e2] at m;rcases List.mem_append.1 m with m|m
   ·rcases List.mem_append.1 m with m|m
    ·exact hT x (List.mem_of_mem_take m)
    ·rw[List.mem_singleton.1 m];exact dR (some (ol b))
   ·exact hT x (List.mem_of_mem_drop m)
  simp only[ZG,seval,Bool.false_and,Prod.mk.injEq,KV,Am,An,and_self,hI,q0,q1,Int.toNat_natCast,aE3,DB _ n1,Px _ _ _ _ n1,DC _ _ _ _ n3 n2];refine⟨_,sF rfl (by simp only[E8,seval]<;>rfl) (by simp only[E8,seval]<;>rfl) hr,_,⟨?_,fun x m=>?_,fun x m=>?_⟩,rfl⟩
  ·rw[e1,e2,List.length_append,List.length_append,List.length_take,List.length_drop];simp;omega
  ·rw[e1,e2] at m;rcases List.mem_append.1 m with m|m
   ·rcases List.mem_append.1 m with m|m
    ·exact .inl (List.mem_of_mem_take m)
    ·exact .inr (List.mem_singleton.1 m)
   ·exact .inl (List.mem_of_mem_drop m)
  ·rw[e1,e2];rw[← List.take_append_drop k (ol o)] at m;rcases List.mem_append.1 m with m|m
   ·exact List.mem_append_left _ (List.mem_append_left _ m)
   ·exact List.mem_append_right _ m
theorem aOj (o:Option (List Table)) (hn:((ol o).length:Int)<999999) (hT:∀x∈ol o,rT x) (t:Table) (ht:rT t) (n mA:Int) :
 ∃r,aC Tryz.prog 172 [ov aT o,.agg (cA t),.v (.int .i64 n),.v (.int .i64 mA)]=some r∧∃o' e,r=.eE [ov aT o',.v (.int .i64 e)]∧e≠21∧((ol o').length:Int)≤max ((ol o).length:Int) mA∧(∀x∈ol o',rT x)∧(ol o ⊆ ol o')∧(e=0→o'≠some []∧∀x∈ol o',x∈ol o∨∃B,x.jI=ov bC (some B)∧(B.length:Int)=n):=by
 obtain⟨b,hb,hl⟩:=id ht
 have hfT:Flat (.agg (cA t)):=(jZ t).2 ht.fl
 have hto:=lQ o fun x m=>(hT x m).fl
 obtain⟨r,hr,e,rfl,he,hlen⟩:=aDM t b hb hl n
 have EX:=kx hr (bE hfT (.v _)) (.v _)
 have Iw:((ol o).length:Int)<1000000:=by omega
 have aE4:=yQ o Iw hto
 rw[cL Tryz.func172 rfl aJu (by cases o<;>rfl)]
 by_cases g1:e=0
 case neg =>
  simp only[Z8,seval,EX,bf g1,mZ _ _ fun x m=>(hT x m).fl]
  exact⟨_,dO rfl rfl rfl (by simp only[E8,seval,mZ _ _ fun x m=>(hT x m).fl]<;>rfl) (by simp only[E8,seval,mZ _ _ fun x m=>(hT x m).fl]<;>rfl),o,e,rfl,he,by omega,hT,fun x m=>m,fun h=>absurd h g1⟩
 by_cases g2:0≤RT (ol o) t.ck
 ·simp only[Z8,seval,EX,bt g1,aE4,g2];exact⟨_,dO rfl rfl rfl (by simp only[E8,seval,mZ _ _ fun x m=>(hT x m).fl]<;>rfl) (by simp only[E8,seval,mZ _ _ fun x m=>(hT x m).fl]<;>rfl),o,9,rfl,by decide,by omega,hT,fun x m=>m,fun h=>by cases h⟩
 by_cases g3:mA≤((ol o).length:Int)
 ·simp only[Z8,seval,EX,bt g1,aE4,g2,g3];exact⟨_,dO rfl rfl rfl (by simp only[E8,seval,mZ _ _ fun x m=>(hT x m).fl]<;>rfl) (by simp only[E8,seval,mZ _ _ fun x m=>(hT x m).fl]<;>rfl),o,11,rfl,by decide,by omega,hT,fun x m=>m,fun h=>by cases h⟩
 obtain⟨r2,hr2,L,⟨AA,hL2,hL3⟩,rfl⟩:=aOh o hn (fun x m=>(hT x m).fl) t b hb hl
 have hTL:∀x∈L,rT x:=fun x m=>(hL2 x m).elim (hT x) fun e=>by rw[e];exact⟨some (ol b),rfl,hl⟩
 have k195:∀(st:St),aN (aC Tryz.prog) 195 [ov aT o,.agg (cA t)] st (some 31)=_:=fun st=>jB (st:=st) (d:=31) (bE hto hfT) hr2
 have hex:=Mz L.length L fun x m=>(hTL x m).fl
 simp only[Z8,seval,EX,bt g1,aE4,g2,g3,k195];exact⟨_,dO rfl rfl rfl (by simp only[E8,seval,hex]<;>rfl) (by simp only[E8,seval,hex]<;>rfl),some L,0,rfl,by decide,by show ((L.length:Nat):Int)≤_;omega,hTL,hL3,fun _=>⟨fun e=>by injection e with e;rw[e] at AA;simp at AA,fun x m=>(hL2 x m).imp id fun e=>by rw[e];exact⟨ol b,rfl,hlen g1⟩⟩⟩
theorem aOk {s:aP} {v:SV} (hs:SD s v) (hn:((ol v.T).length:Int)<999999) (t:Table) (ht:rT t) :
 ∃r,aC Tryz.prog 117 [.agg (aB s),.agg (cA t)]=some r∧∃s' e,r=.eE [.agg (aB s'),.v (.int .i64 e)]∧Flat (.agg (aB s'))∧e≠21∧(e=0→∃o',s'={ s with tables:=ov aT o' }∧((ol o').length:Int)≤max ((ol v.T).length:Int) s.cFg.mA.qL∧(∀x∈ol o',rT x)∧(ol v.T ⊆ ol o')∧o'≠some []∧∀x∈ol o',x∈ol v.T∨∃B,x.jI=ov bC (some B)∧(B.length:Int)=(ol v.B).length):=by
 have hf:=hs.flat
 have jJ:=hs.fl
 have hfT:Flat (.agg (cA t)):=(jZ t).2 ht.fl
 have hz:Flat (.agg (aB eF)):=by simp only[dY,eF,nA,Gq,Ao,Kq,and_self]
 obtain⟨r,hr,e,rfl,he⟩:=aN6 t ht (ol v.B).length
 have EX:=kx hr (bE hfT (.v _)) (.v _)
 obtain⟨r2,hr2,o',e2,rfl,he2,YW,hT2,hsub,hne2⟩:=aOj v.T hn hs.tB t ht (ol v.B).length s.cFg.mA.qL
 have hf2:Flat (ov aT o'):=lQ o' fun x m=>(hT2 x m).fl
 have k172:=kx hr2 (by simp only[List.mem_cons,List.not_mem_nil,or_false,forall_eq_or_imp,forall_eq,aEW,and_true];exact⟨hs.fT,hfT⟩) (.eE _ (bE hf2 (.v _)))
 rw[cL Tryz.func117 rfl aJv rfl];by_cases g1:e=0
 case neg =>
  simp only[Z8,seval,Vr hs,EX,bf g1];exact⟨_,by apply dO;rfl;all_goals simp only[aE,bJ,Z8,seval,hz]<;>rfl,eF,e,rfl,hz,he,fun h=>absurd h g1⟩
 by_cases g2:t.ck.aL<s.aG.dN.aL
 ·simp only[Z8,seval,Vr hs,EX,bt g1,g2];exact⟨_,by apply dO;rfl;all_goals simp only[aE,bJ,Z8,seval,hz]<;>rfl,eF,13,rfl,hz,by decide,fun h=>by cases h⟩
 by_cases g3:e2=0
 case neg =>
  simp only[Z8,seval,Vr hs,EX,bt g1,g2,hs.tables,k172,eA,bf g3];exact⟨_,by apply dO;rfl;all_goals simp only[aE,bJ,Z8,seval,hz]<;>rfl,eF,e2,rfl,hz,he2,fun h=>absurd h g3⟩
 ·have hf3:Flat (.agg (aB { s with tables:=ov aT o' })):=by simp only[dY,jJ,hf2,and_self]
  simp only[Z8,seval,Vr hs,EX,bt g1,g2,hs.tables,k172,eA,bt g3];exact⟨_,by apply dO;rfl;all_goals simp only[aE,bJ,Z8,seval,hf3]<;>rfl,_,0,rfl,hf3,by decide,fun _=>⟨o',rfl,YW,hT2,hsub,hne2 g3⟩⟩
noncomputable def AB (v:SV):Int:=Bj (fun k=>0≤aM v.ns (gx fB (ol v.O) k).parent) (ol v.O).length
theorem aJw {s:aP} {v:SV} (hs:SD s v):aC Tryz.prog 218 [.agg (aB s)]=some (.v (.int .i64 (AB v))):=by
 have hn:=hs.nO
 rw[cL Tryz.func218 rfl aJx rfl];refine jR ?_
 simp only[Z8,seval,hs.bU];refine cH (fun m st=>∃k:Nat,(st.env 1=.ptr 1 0 0∧st.heap 1 0=some (.cells (aB s))∧st.env 3=.v (.int .i64 k))∧(∀j:Nat,j<k→¬(0≤aM v.ns (gx fB (ol v.O) (j:Int)).parent))∧k≤(ol v.O).length∧m=(ol v.O).length-k)
  (fun e st=>(e=.ret∧∃k:Nat,k<(ol v.O).length∧(0≤aM v.ns (gx fB (ol v.O) (k:Int)).parent)∧(∀j:Nat,j<k→¬(0≤aM v.ns (gx fB (ol v.O) (j:Int)).parent))∧st.env 2=.v (.int .i64 (k:Nat)))∨(e=.exit 0∧(∀j:Nat,j<(ol v.O).length→¬(0≤aM v.ns (gx fB (ol v.O) (j:Int)).parent))∧st.env 1=.ptr 1 0 0∧st.heap 1 0=some (.cells (aB s)))) ((ol v.O).length) ?step ?start ?rest
 case step =>
  rintro m st ⟨k,hI,hj,hk,hm⟩
  by_cases bB:(k:Int)<(ol v.O).length
  ·have q0:(0:Int)≤k:=by omega
   have hw:IntKind.i64.wrap ((k:Int)+1)=((k+1:Nat):Int):=by rw[qA _ (by omega) (by omega)];omega
   by_cases hh:0≤aM v.ns (gx fB (ol v.O) (k:Int)).parent
   ·apply oT (.ret)
    ·simp only[Z8,seval,hI,bB,q0,hs.bU,hs.tree,jA _ _ hs.nn,hh];rfl
    ·exact .inl ⟨rfl,k,by omega,hh,hj,by simp only[E8,seval,hs.bU,hs.tree,jA _ _ hs.nn]⟩
   ·apply oN ((ol v.O).length-(k+1))
    ·simp only[Z8,seval,hI,bB,q0,hs.bU,hs.tree,jA _ _ hs.nn,hh,hw];rfl
    ·exact⟨k+1,by simp only[E8,seval,hI],fun j h=>(Nat.lt_succ_iff_lt_or_eq.1 h).elim (hj j) fun e=>by subst e;exact hh,by omega,rfl⟩
  ·apply oT (.exit 0)
   ·simp only[Z8,seval,hI,bB,hs.bU,hs.tree,jA _ _ hs.nn];rfl
   ·exact .inr ⟨rfl,fun j h=>hj j (by omega),by simp only[E8,seval,hI]⟩
 case start=>exact⟨0,by simp only[E8,seval]<;>rfl,fun j h=>by omega,by omega,by omega⟩
 case rest =>
  rintro e st (⟨rfl,k,hk,hh,hj,h⟩|⟨rfl,hj,hI⟩)
  ·have hv:AB v=k:=Ie hh hj _ hk
   simp only[Z8,seval];exact⟨_,bT rfl (by simp only[E8,seval,h]<;>rfl) (by first|exact .v _|simp only[dY,h]),by rw[hv]⟩
  ·have hv:AB v=-1:=sT _ hj
   simp only[Z8,seval];exact⟨_,bT rfl (by simp only[E8,seval]<;>rfl) (by first|exact .v _|simp only[dY]),by rw[hv]⟩
theorem KW {s:aP} {v:SV} (hs:SD s v) (st:St) (d:Option Nat):aN (aC Tryz.prog) 218 [.agg (aB s)] st d=some { dst:=d,val:=.v (.int .i64 (AB v))}:=bI (cO hs.flat) (aJw hs) (.v _)
noncomputable def DD (e:Int) (r:cM) (a:List kF × Int) (x:Int):List kF × Int :=
 if (gx rU a.1 x).has=false∨(gx rU a.1 x).aL<e then (a.1.set x.toNat ⟨true,e,r⟩,IntKind.i64.wrap (a.2+1)) else a
noncomputable def tV (L:List kF) (e:Int) (r:cM) (V:List Int):List kF × Int:=V.foldl (DD e r) (L,0)
theorem j8 (e:Int) (r:cM) (a:List kF × Int) (x:Int):(DD e r a x).1.length=a.1.length:=by unfold DD;split<;>simp
theorem Py (L:List kF) (e:Int) (r:cM) (V:List Int):(tV L e r V).1.length=L.length:=by
 unfold tV;suffices h:∀(V:List Int) (a:List kF × Int),(V.foldl (DD e r) a).1.length=a.1.length from h V _
 intro V;induction V with
 | nil=>intro a;rfl
 | cons x V ih=>intro a;rw[List.foldl_cons,ih,j8]
theorem RZ (L:List kF) (e:Int) (r:cM) (V:List Int) (k:Nat) (h:k<V.length):tV L e r (V.take (k+1))=DD e r (tV L e r (V.take k)) (gx (0:Int) V k):=by
 unfold tV;rw[List.take_succ_eq_append_getElem h,List.foldl_append];simp[gx,h]
theorem aOl (o:Option (List kF)) (hn:((ol o).length:Int)<1000000) (e:Int) (r:cM) (V:Option (List Int)) (hV:((ol V).length:Int)<1000000) (hr:∀x∈ol V,0≤x∧x<(ol o).length) :
 aC Tryz.prog 110 [ov cK o,.v (.int .u64 e),.agg (aZ r),ov aK V]=some (.eE [.sl (ol o).length (cK (tV (ol o) e r (ol V)).1),.v (.int .i64 (tV (ol o) e r (ol V)).2)]):=by
 rw[cL Tryz.func110 rfl aJy (by cases o<;>cases V<;>rfl)]
 refine jR ?_
 simp only[Z8,seval,KX _ hn];refine cH (fun m st=>∃(k:Nat) (l:List kF) (c:Int),(st.env 1=.v (.int .u64 e)∧st.env 6=.ptr 6 0 0∧st.heap 6 0=some (.cells (aZ r))∧st.env 3=ov aK V∧st.env 10=.own 15 0∧st.heap 15 0=some (.row 100 34 l.length (cK l))∧st.env 11=.v (.int .i64 c)∧st.env 12=.v (.int .i64 k))∧tV (ol o) e r ((ol V).take k)=(l,c)∧l.length=(ol o).length∧k≤(ol V).length∧m=(ol V).length-k)
  (fun ex st=>ex=.exit 0∧∃(l:List kF) (c:Int),(st.env 10=.own 15 0∧st.heap 15 0=some (.row 100 34 l.length (cK l))∧st.env 11=.v (.int .i64 c))∧tV (ol o) e r (ol V)=(l,c)∧l.length=(ol o).length) (ol V).length ?step ?start ?rest
 case step =>
  rintro m st ⟨k,l,c,hI,hc,hl,hk,hm⟩
  by_cases bB:(k:Int)<(ol V).length
  ·have q0:(0:Int)≤k:=by omega
   have hw:IntKind.i64.wrap ((k:Int)+1)=((k+1:Nat):Int):=by rw[qA _ (by omega) (by omega)];omega
   have xG:=RZ (ol o) e r (ol V) k (by omega)
   rw[hc] at xG;unfold DD at xG;have hx:=hr _ (uY (z:=(0:Int)) q0 bB)
   obtain⟨x,ex⟩:∃x,gx (0:Int) (ol V) (k:Int)=x:=⟨_,rfl⟩
   rw[ex] at hx xG;have x0:0≤x:=hx.1
   have x1:x<(l.length:Int):=by rw[hl];exact hx.2
   have x2:x.toNat<l.length:=by omega
   have x3:x.toNat * 34+34≤l.length * 34:=by omega
   have ld:=XB (T:=100) (n:=l.length) (k:=34) x0 x1 aDR (by decide) (by decide)
   by_cases h1:(gx rU l x).has=true
   ·by_cases h2:(gx rU l x).aL<e
    ·rw[if_pos (.inr h2)] at xG;apply oN ((ol V).length-(k+1))
     ·simp only[Z8,seval,hI,bB,q0,ex,x0,x1,x2,x3,ld,h1,h2,EY _ _ _ x2,hw];rfl
     ·exact⟨k+1,_,_,by simp only[E8,seval,hI,List.length_set]<;>exact⟨rfl,rfl⟩,xG,by rw[List.length_set,hl],by omega,rfl⟩
    ·rw[if_neg (by simp only[h1,h2,Bool.true_eq_false,or_self,not_false_eq_true])] at xG
     apply oN ((ol V).length-(k+1))
     ·simp only[Z8,seval,hI,bB,q0,ex,x0,x1,x2,x3,ld,h1,h2,hw];rfl
     ·exact⟨k+1,l,c,by simp only[E8,seval,hI],xG,hl,by omega,rfl⟩
   ·have CG:(gx rU l x).has=false:=by simpa using h1
    rw[if_pos (.inl CG)] at xG;apply oN ((ol V).length-(k+1))
    ·simp only[Z8,seval,hI,bB,q0,ex,x0,x1,x2,x3,ld,CG,EY _ _ _ x2,hw];rfl
    ·exact⟨k+1,_,_,by simp only[E8,seval,hI,List.length_set]<;>exact⟨rfl,rfl⟩,xG,by rw[List.length_set,hl],by omega,rfl⟩
  ·have Fy:k=(ol V).length:=by omega
   rw[Fy,List.take_length] at hc;apply oT (.exit 0)
   ·simp only[Z8,seval,hI,bB];rfl
   ·exact⟨rfl,l,c,by simp only[E8,seval,hI],hc,hl⟩
 case start=>exact⟨0,ol o,0,by simp only[E8,seval]<;>rfl,rfl,rfl,by omega,by omega⟩
 case rest =>
  rintro ex st ⟨rfl,l,c,hI,hc,hl⟩
  rw[hc];simp only[Z8,seval,hI];exact⟨_,dO rfl rfl rfl (by simp only[E8,seval,hI,Uf]<;>rfl) (by simp only[E8,seval,hI,Uf]<;>rfl),by rw[hl]⟩
theorem aJz (o:Option (List kF)) (hn:((ol o).length:Int)<1000000) (e:Int) (r:cM) (V:Option (List Int)) (hV:((ol V).length:Int)<1000000) (hr:∀x∈ol V,0≤x∧x<(ol o).length) (st:St) (d:Option Nat) :
 aN (aC Tryz.prog) 110 [ov cK o,.v (.int .u64 e),.agg (aZ r),ov aK V] st d=some { dst:=d,val:=.eE [.sl (ol o).length (cK (tV (ol o) e r (ol V)).1),.v (.int .i64 (tV (ol o) e r (ol V)).2)]} :=
 bI (by simp only[List.mem_cons,List.not_mem_nil,or_false,forall_eq_or_imp,forall_eq,dY,and_self,and_true,true_and]) (aOl o hn e r V hV hr) (.eE _ (bE (.sl _ _ (mX _)) (.v _)))
noncomputable def Pz (s:aP) (v:SV) (a:rQ) (V:List Int):aP:={ s with fV:={ s.fV with dV:=ov cK (some (tV (ol v.L) a.target.aL a.root V).1)} }
theorem c44 {s:aP} {v:SV} (hs:SD s v) (a:rQ) (V:Option (List Int)) (ha:a.eU=ov aK V) (hV:((ol V).length:Int)<1000000) (hr:∀x∈ol V,0≤x∧x<(ol v.L).length) :
 aC Tryz.prog 44 [.agg (aB s),.agg (gV a)]=some (.agg (aB (Pz s v a (ol V)))):=by
 have jJ:=hs.fl
 rw[cL Tryz.func44 rfl aOm rfl];refine jR ?_
 simp only[Z8,seval,hs.dV,ha,aJz v.L hs.nL _ _ V hV hr,eA];exact⟨_,fF rfl (by simp only[E8,seval,jJ,and_self]<;>rfl) (by simp only[Z8,seval,jJ,and_self]<;>rfl) (by simp only[dY,and_self,jJ,and_self]),by unfold Pz;simp only[ov,Py]⟩
theorem Vz (ns:List Node) (r:cM) (h:0≤aM ns r):(nd ns (aM ns r)).block.root=r:=by
 unfold aM at h ⊢
 cases hf:ns.findIdx? (fun n=>decide (n.block.root=r)) with
 | none=>rw[hf] at h;simp only at h;omega
 | some k =>
   obtain⟨hk,hp,_⟩:=List.findIdx?_eq_some_iff_getElem.1 hf
   simp only
   have:nd ns (k:Int)=ns[k]:=by simp[nd,hk]
   rw[this];exact of_decide_eq_true hp
theorem Na {ns:List Node} {r:cM} {j:Int} (h0:0≤j) (h1:j<ns.length) (hr:(nd ns j).block.root=r):0≤aM ns r:=by
 unfold aM;cases hf:ns.findIdx? (fun n=>decide (n.block.root=r)) with
 | none =>
   obtain⟨hj,e⟩:=Km h0 h1
   have:=List.findIdx?_eq_none_iff.1 hf ns[j.toNat] (List.getElem_mem hj)
   rw[← e] at this;simp[hr] at this
 | some k=>simp only;omega
structure GI (s:aP) (v:SV) (q:Int):Prop where
 sd:SD s v
 up:gZ v.ns
 KC:(nd v.ns 0).up=-1
 pos:0<v.ns.length
 nl:(v.ns.length:Int)≤s.cFg.mA.rK
 SA:s.cFg.mA.rK≤4096
 qK:1≤s.cFg.qK∧s.cFg.qK≤64
 KY:(ol v.L).length=(ol v.B).length
 nB:((ol v.B).length:Int)≤1024
 nO:((ol v.O).length:Int)≤s.cFg.mA.vX
 KZ:s.cFg.mA.vX≤64
 nE:((ol v.E).length:Int)≤s.cFg.mA.pR
 QQ:s.cFg.mA.pR≤256
 nT:((ol v.T).length:Int)≤s.cFg.mA.qL
 SC:s.cFg.mA.qL≤64
 nQ:((ol v.Q).length:Int)≤q
 I8:q≤900000
 dN:0≤aM v.ns s.aG.dN.root
theorem GI.sp {s:aP} {v:SV} {q:Int} (h:GI s v q):s.cFg.qK≠0:=by have:=h.qK.1;omega
theorem vY (s:aP) (v:SV) (c1 c2:fR):(wR s v c1 c2).cFg=s.cFg:=by unfold wR;split;rfl;split<;>rfl
theorem Nb (s:aP) (v:SV) (c1 c2:fR):(wR s v c1 c2).now=s.now:=by unfold wR;split;rfl;split<;>rfl
theorem GI.dJ {s:aP} {v:SV} {q:Int} (h:GI s v q) (c1 c2:fR):GI (wR s v c1 c2) (Gp s v c1 c2) q:=by
 have hsd:=h.sd.dJ h.up c1 c2
 by_cases b:cT s v (Gb s c1) (Bw s c2)
 ·rw[show wR s v c1 c2=s from if_pos b,show Gp s v c1 c2=v from if_pos b];exact h
 have hJ:0≤aM v.ns (Gb s c1).root:=by rcases Int.lt_or_le (aM v.ns (Gb s c1).root) 0 with g|g;exact absurd (.inl g) b;exact g
 have hF:0≤aM v.ns (Bw s c2).root:=by rcases Int.lt_or_le (aM v.ns (Bw s c2).root) 0 with g|g;exact absurd (.inr (.inl g)) b;exact g
 have hA:wY v.ns (aM v.ns (Bw s c2).root) (aM v.ns (Gb s c1).root)=true:=by
  cases g:wY v.ns (aM v.ns (Bw s c2).root) (aM v.ns (Gb s c1).root)
  ·exact absurd (.inr (.inr (.inr (.inr (.inr (.inr (.inl g))))))) b
  ·rfl
 have hT:((ol (nz (xX (ol v.T) (Gb s c1).aL))).length:Int)≤s.cFg.mA.qL:=by
  rw[oO];have:=List.length_filter_le (fun t:Table=>decide ((Gb s c1).aL≤t.ck.aL)) (ol v.T);have:=h.nT;unfold xX;omega
 by_cases e:Bw s c2=s.aG.fin
 ·have hS:wR s v c1 c2=_:=(if_neg b).trans (if_pos e)
  have hW:Gp s v c1 c2=_:=(if_neg b).trans (if_pos e)
  rw[hS,hW] at hsd ⊢;exact⟨hsd,h.up,h.KC,h.pos,h.nl,h.SA,h.qK,h.KY,h.nB,h.nO,h.KZ,h.nE,h.QQ,hT,h.SC,h.nQ,h.I8,hJ⟩
 ·have hS:wR s v c1 c2=_:=(if_neg b).trans (if_neg e)
  have hW:Gp s v c1 c2=_:=(if_neg b).trans (if_neg e)
  rw[hS,hW] at hsd ⊢;have rF:=dW v.ns (Bw s c2).root
  have rJ:=dW v.ns (Gb s c1).root
  have CS:=JZ h.up hF rF.2
  have h1:=KB h.up CS
  have h2:=KB h.up hA
  have hz:=WO h.up CS
  have hlen:=ET (ns:=v.ns) (aM v.ns (Bw s c2).root)
  have QR:=h.nl
  refine⟨hsd,aA3 h.up CS, ?_, ?_, ?_,h.SA,h.qK,h.KY,h.nB, ?_,h.KZ,h.nE,h.QQ,hT,h.SC,h.nQ,h.I8, ?_⟩
  ·rw[hz] at h1;show (nd (oJ v.ns (aM v.ns (Bw s c2).root) v.ns.length).1 0).up=-1
   rw[h1.2.2,if_pos rfl]
  ·have:=h1.2.1;have:=h1.1
   show 0<(oJ v.ns (aM v.ns (Bw s c2).root) v.ns.length).1.length
   omega
  ·show (((oJ v.ns (aM v.ns (Bw s c2).root) v.ns.length).1.length:Nat):Int)≤s.cFg.mA.rK
   omega
  ·show ((ol (nz _)).length:Int)≤s.cFg.mA.vX
   rw[oO];have:=List.length_filter_le (fun b:Block=>decide ((Dk s (Bw s c2).aL).1<b.slot)) (ol v.O);have:=h.nO;omega
  ·refine Na h2.1 h2.2.1 ?_
   rw[h2.2.2];exact Vz _ _ hJ
noncomputable def zV (v:SV) (b:Block):List Node:=v.ns++[⟨b,aM v.ns b.parent,Mw b⟩]
noncomputable def Ja (s:aP) (v:SV) (b:Block):aP:={ s with tree:=⟨.sl (zV v b).length (cC (zV v b))⟩}
noncomputable def Gr (v:SV) (b:Block):SV:={ v with ns:=zV v b }
noncomputable def I9 (s:aP) (v:SV) (b:Block):aP:=wR (Ja s v b) (Gr v b) b.dN b.fin
noncomputable def J0 (s:aP) (v:SV) (b:Block):SV:=Gp (Ja s v b) (Gr v b) b.dN b.fin
noncomputable def sJ (s:aP) (v:SV) (b:Block):aP:=if Bi s b.slot<Bi s s.now then wR (I9 s v b) (J0 s v b) b.dS.pj b.dS.pf else I9 s v b
noncomputable def lE (s:aP) (v:SV) (b:Block):SV:=if Bi s b.slot<Bi s s.now then Gp (I9 s v b) (J0 s v b) b.dS.pj b.dS.pf else J0 s v b
theorem j9 (b:Block):RF (Mw b)=true:=by unfold Mw;split<;>rfl
theorem XC {s:aP} {v:SV} {q:Int} (h:GI s v q) {b:Block} (hb:Jo s v b=0):Sz v.ns b (Mw b)=0∧(v.ns.length:Int)<s.cFg.mA.rK∧0≤aM v.ns b.parent:=by
 unfold Jo at hb;by_cases g1:b.root=dK
 ·rw[if_pos g1] at hb;omega
 rw[if_neg g1] at hb;by_cases g2:KnB v b.root
 ·rw[if_pos g2] at hb;omega
 rw[if_neg g2] at hb;by_cases g3:s.now<b.slot
 ·rw[if_pos g3] at hb;omega
 rw[if_neg g3] at hb;by_cases g4:b.slot≤(Dk s s.aG.fin.aL).1
 ·rw[if_pos g4] at hb;omega
 rw[if_neg g4] at hb;by_cases g5:aM v.ns b.parent<0
 ·rw[if_pos g5] at hb;omega
 rw[if_neg g5] at hb;by_cases g6:b.slot≤(nd v.ns (aM v.ns b.parent)).block.slot
 ·rw[if_pos g6] at hb;omega
 rw[if_neg g6] at hb;by_cases g7:(nd v.ns (aM v.ns b.parent)).status=2
 ·rw[if_pos g7] at hb;omega
 rw[if_neg g7] at hb;by_cases g8:¬ER s v b
 ·rw[if_pos g8] at hb;omega
 rw[if_neg g8] at hb;by_cases g9:¬ZT s.cFg.Zz (nd v.ns (aM v.ns b.parent)).block b
 ·rw[if_pos g9] at hb;omega
 rw[if_neg g9] at hb;by_cases Rz:s.cFg.mA.rK≤(v.ns.length:Int)
 ·rw[if_pos Rz] at hb;omega
 have:=h.SA
 refine⟨?_,by omega,by omega⟩
 unfold Sz;rw[j9,if_neg (by simp),if_neg (fun h=>g2 (.inr h)),if_neg g5,if_neg g6,if_neg (by omega)]
theorem GI.Ja {s:aP} {v:SV} {q:Int} (h:GI s v q) {b:Block} (hb:(v.ns.length:Int)<s.cFg.mA.rK) (hp:0≤aM v.ns b.parent):GI (Ja s v b) (Gr v b) q:=by
 have hlen:(zV v b).length=v.ns.length+1:=by unfold zV;simp
 have hnB:=h.SA
 have hsd:SD (Tryz.Ja s v b) (Gr v b):=⟨h.sd.jI,h.sd.dV,h.sd.gU,h.sd.early,h.sd.bU,rfl,h.sd.tables,h.sd.eV,h.sd.tB,h.sd.nB,h.sd.nL,h.sd.nQ,h.sd.nE,h.sd.nO,h.sd.nT,by show ((zV v b).length:Int)<1000000;omega⟩
 have rp:=dW v.ns b.parent
 refine⟨hsd,fun i h0 h1=>?_, ?_, ?_, ?_,h.SA,h.qK,h.KY,h.nB,h.nO,h.KZ,h.nE,h.QQ,h.nT,h.SC,h.nQ,h.I8, ?_⟩
 ·have h1:i<((zV v b).length:Int):=h1
  show 0≤(nd (zV v b) i).up∧(nd (zV v b) i).up<i
  by_cases hi:i<(v.ns.length:Int)
  ·unfold zV;rw[Ib (by omega) hi];exact h.up i h0 hi
  ·unfold zV;rw[CJ (by omega)];exact⟨hp,by show aM v.ns b.parent<i;omega⟩
 ·show (nd (zV v b) 0).up=-1
  unfold zV;rw[Ib (by omega) (by have:=h.pos;omega)];exact h.KC
 ·show 0<(zV v b).length;omega
 ·show ((zV v b).length:Int)≤s.cFg.mA.rK;omega
 ·show 0≤aM (zV v b) s.aG.dN.root
  have rj:=dW v.ns s.aG.dN.root
  refine Na h.dN (by omega) ?_
  unfold zV;rw[Ib h.dN rj.2];exact Vz _ _ h.dN
theorem GI.ins {s:aP} {v:SV} {q:Int} (h:GI s v q) {b:Block} (hb:Jo s v b=0):GI (sJ s v b) (lE s v b) q:=by
 obtain⟨_,h2,h3⟩:=XC h hb
 have g1:=h.Ja h2 h3
 have g2:=g1.dJ b.dN b.fin
 unfold sJ lE;split
 ·exact g2.dJ _ _
 ·exact g2
theorem Ap (s:aP) (v:SV) (b:Block):(sJ s v b).cFg=s.cFg∧(sJ s v b).now=s.now:=by
 unfold sJ;split
 ·rw[vY,Nb];unfold I9;rw[vY,Nb];exact⟨rfl,rfl⟩
 ·unfold I9;rw[vY,Nb];exact⟨rfl,rfl⟩
theorem aJA {s:aP} {v:SV} {q:Int} (h:GI s v q) {b:Block} (hb:Jo s v b=0):aC Tryz.prog 217 [.agg (aB s),.agg (aU b)]=some (.agg (aB (sJ s v b))):=by
 obtain⟨h1,h2,h3⟩:=XC h hb
 have g1:=h.Ja h2 h3
 have g2:=g1.dJ b.dN b.fin
 have hi:Dq v.ns b (Mw b)=.eE [.agg (cP ⟨zV v b⟩),.v (.int .i64 0)]:=if_pos h1
 have J1:=aIv v.ns h.sd.nn b (Mw b)
 rw[hi] at J1
 have k61a:=k61 g1.sd g1.up g1.sp b.dN b.fin
 have k61b:=k61 g2.sd g2.up g2.sp b.dS.pj b.dS.pf
 have J2:(wR (Tryz.Ja s v b) (Gr v b) b.dN b.fin).cFg.qK=s.cFg.qK:=by rw[vY];rfl
 have hnow:(wR (Tryz.Ja s v b) (Gr v b) b.dN b.fin).now=s.now:=by rw[Nb];rfl
 have hep:∀x,Bi (wR (Tryz.Ja s v b) (Gr v b) b.dN b.fin) x=Bi s x:=fun x=>by unfold Bi;rw[J2]
 have k98':=sH (wR (Tryz.Ja s v b) (Gr v b) b.dN b.fin) g2.sp g2.sd.flat
 have e1:({ cFg:=s.cFg,fV:=s.fV,aG:=s.aG,dM:=s.dM,tree:=⟨.sl (zV v b).length (cC (zV v b))⟩,now:=s.now,iD:=s.iD,tables:=s.tables }:aP)=Tryz.Ja s v b:=rfl
 rw[cL Tryz.func217 rfl aJB rfl];refine jR ?_
 by_cases c:Bi s b.slot<Bi s s.now
 ·have hv:sJ s v b=_:=if_pos c
  have EZ:=(g2.dJ b.dS.pj b.dS.pf).sd.flat
  simp only[Z8,seval,h.sd.tree,aJi,J1,eA,e1,k61a,k98',hep,hnow,c,k61b];exact⟨_,fF rfl (by simp only[E8,seval,EZ]<;>rfl) (by simp only[Z8,seval,EZ]<;>rfl) (by simp only[dY,and_self,EZ]),by rw[hv];rfl⟩
 ·have hv:sJ s v b=_:=if_neg c
  have EZ:=g2.sd.flat
  simp only[Z8,seval,h.sd.tree,aJi,J1,eA,e1,k61a,k98',hep,hnow,c];exact⟨_,fF rfl (by simp only[E8,seval,EZ]<;>rfl) (by simp only[Z8,seval,EZ]<;>rfl) (by simp only[dY,and_self,EZ]),by rw[hv];rfl⟩
theorem Qa {L:List Block} {k:Nat} (hk:k≤L.length) (a g:Nat):∃X,(∀(st:St) (hi:Operand),st.ev hi=.v (.int .i64 k)→st.heap a g=some (.row 74 238 L.length (aJ L))→cW Tryz.prog st 45 (.own a g) none (some hi)=some X) ∧
 (∀st:St,st.heap a g=some (.row 74 238 L.length (aJ L))→aR st X=some ((L.take k).length,aJ (L.take k))):=by
 have hl:(L.take k).length=k:=by simp;omega
 by_cases h0:k=0∧L.length=0
 ·obtain⟨rfl,h1⟩:=h0
  refine⟨.sl 0 [],fun st hi he hh=>?_,fun st hh=>by simp[aR,aJ]⟩
  simp[cW,oK,hh,he,h1]
 ·refine⟨.vw a g 0 k,fun st hi he hh=>?_,fun st hh=>?_⟩
  ·have:¬((0:Int)=k∧¬((0:Int)=0∧0<L.length)):=by omega
   have h2:(0:Int)≤k∧(k:Int)≤L.length:=by omega
   simp only[cW,oK,hh,he,if_neg this,h2,Int.le_refl,and_self,if_true];simp
   intro h3 h4;rw[h4] at h0;simp at h0
   omega
  ·have hb:k * 238≤(aJ L).length:=by rw[Aq];exact Nat.mul_le_mul_right _ hk
   have:=xH (c:=aU) (sz:=238) bM L k
   simp only[aR,hh,Nat.zero_add,hb,if_true,List.drop_zero,hl];exact congrArg (fun z=>some (k,z)) this
theorem Cl {L:List Block} {k:Nat} (hk:k≤L.length) (a g:Nat):∃X,(∀(st:St) (lo:Operand),st.ev lo=.v (.int .i64 k)→st.heap a g=some (.row 74 238 L.length (aJ L))→cW Tryz.prog st 45 (.own a g) (some lo) none=some X) ∧
 (∀st:St,st.heap a g=some (.row 74 238 L.length (aJ L))→aR st X=some ((L.drop k).length,aJ (L.drop k))):=by
 have hl:(L.drop k).length=L.length-k:=by simp
 by_cases h0:k=L.length
 ·by_cases hz:0<k
  ·refine⟨.sl 0 [],fun st lo he hh=>?_,fun st hh=>by rw[h0];simp[aR,aJ]⟩
   have:(k:Int)=L.length∧¬((k:Int)=0∧0<L.length):=by omega
   have h2:(0:Int)≤k∧(k:Int)≤L.length:=by omega
   simp only[cW,oK,hh,he,if_pos this,h2,Int.le_refl,and_self,if_true]
  ·refine⟨.sl 0 [],fun st lo he hh=>?_,fun st hh=>by rw[h0];simp[aR,aJ]⟩
   have:(k:Int)=L.length∧¬((k:Int)=0∧0<L.length):=by omega
   have h2:(0:Int)≤k∧(k:Int)≤L.length:=by omega
   simp only[cW,oK,hh,he,if_pos this,h2,Int.le_refl,and_self,if_true]
 ·refine⟨.vw a g (k * 238) (L.length-k),fun st lo he hh=>?_,fun st hh=>?_⟩
  ·have h1:¬((k:Int)=L.length∧¬((k:Int)=0∧0<L.length)):=by omega
   have h2:((L.length:Int)-(k:Int)).toNat=L.length-k:=by omega
   have h3:(0:Int)≤k∧(k:Int)≤L.length:=by omega
   simp only[cW,oK,hh,he,if_neg h1,h3,Int.le_refl,and_self,if_true,h2,Int.toNat_natCast]
  ·have hb:k * 238+(L.length-k) * 238≤(aJ L).length:=by rw[Aq,← Nat.add_mul];exact Nat.mul_le_mul_right _ (by omega)
   have:=xI (c:=aU) (sz:=238) bM L k
   have h3:((aJ L).drop (k * 238)).length=(L.length-k) * 238:=by rw[List.length_drop,Aq,Nat.sub_mul]
   simp only[aR,hh,hb,if_true,hl];rw[List.take_of_length_le (by omega)]
   exact congrArg (fun z=>some (L.length-k,z)) this
theorem GI.iD {s:aP} {v:SV} {q:Int} (h:GI s v q) (r:cM):GI { s with iD:=r } v q :=
 ⟨⟨h.sd.jI,h.sd.dV,h.sd.gU,h.sd.early,h.sd.bU,h.sd.tree,h.sd.tables,h.sd.eV,h.sd.tB,h.sd.nB,h.sd.nL,h.sd.nQ,h.sd.nE,h.sd.nO,h.sd.nT,h.sd.nn⟩,h.up,h.KC,h.pos,h.nl,h.SA,h.qK,h.KY,h.nB,h.nO,h.KZ,h.nE,h.QQ,h.nT,h.SC,h.nQ,h.I8,h.dN⟩
def mO (s:aP) (x:AV):aP:={ s with dM:={ s.dM with bU:=x }}
theorem GI.SE {s:aP} {v:SV} {q:Int} (h:GI s v q) (O:Option (List Block)) (hO:((ol O).length:Int)≤s.cFg.mA.vX):GI (mO s (ov aJ O)) { v with O:=O } q :=
 ⟨⟨h.sd.jI,h.sd.dV,h.sd.gU,h.sd.early,rfl,h.sd.tree,h.sd.tables,h.sd.eV,h.sd.tB,h.sd.nB,h.sd.nL,h.sd.nQ,h.sd.nE,by have:=h.KZ;show ((ol O).length:Int)<1000000;omega,h.sd.nT,h.sd.nn⟩,h.up,h.KC,h.pos,h.nl,h.SA,h.qK,h.KY,h.nB,hO,h.KZ,h.nE,h.QQ,h.nT,h.SC,h.nQ,h.I8,h.dN⟩
theorem SF (s:aP) (v:SV) (c1 c2:fR):(ol (Gp s v c1 c2).O).length≤(ol v.O).length:=by
 unfold Gp;split
 ·exact Nat.le_refl _
 split
 ·exact Nat.le_refl _
 ·show (ol (nz _)).length≤_
  rw[oO];exact List.length_filter_le _ _
theorem SG (s:aP) (v:SV) (b:Block):(ol (lE s v b).O).length≤(ol v.O).length:=by
 unfold lE;split
 ·exact Nat.le_trans (SF _ _ _ _) (SF _ _ _ _)
 ·exact SF _ _ _ _
theorem yS {s:aP} {v:SV} (h:SD s v) {O:List Block} {a g:Nat} (st:St) (hh:st.heap a g=some (.row 74 238 O.length (aJ O))):fO st (.agg (aB (mO s (.own a g))))=some (.agg (aB (mO s (ov aJ (some O))))):=by
 have jJ:=h.fl
 unfold mO;simp only[bP,gI,bG,hh,tU,cX,dY,jJ,cU];rfl
def Rg (x:Int):Prop:=0≤x∧x<18446744073709551616
structure RB (b:Block):Prop where
 sl:Rg b.slot
 j:Rg b.dN.aL
 f:Rg b.fin.aL
 pj:Rg b.dS.pj.aL
 pf:Rg b.dS.pf.aL
def Pr (r:cM):Prop:=r≠dK∧r≠mkRoot 99
theorem Wa {α:Type} (l:List α):nz l≠some []:=by
 unfold nz;split
 ·nofun
 ·rename_i h;intro e;injection e with e;exact h e
structure NEv (v:SV):Prop where
 q:v.Q≠some []
 e:v.E≠some []
 o:v.O≠some []
 t:v.T≠some []
 ea:∀a∈ol v.E,∃V,a.eU=ov aK (some V)∧V≠[]
 tb:∀t∈ol v.T,∃B,t.jI=ov bC (some B)∧B≠[]
structure RG (s:aP) (v:SV):Prop where
 now:0≤s.now∧s.now≤1099511627776
 j:Rg s.aG.dN.aL
 f:Rg s.aG.fin.aL
 nd:∀n∈v.ns,RB n.block∧n.block.slot≤s.now
 or:∀b∈ol v.O,RB b∧Pr b.root
 rt:∀n∈v.ns,Pr n.block.root
 fe:s.aG.fin.aL≤s.aG.dN.aL∧s.aG.dN.aL≤Bi s s.now
 ds:(v.ns.map fun n=>n.block.root).Nodup
 tb:∃t∈ol v.T,t.ck=s.aG.dN
 ne:NEv v
theorem FB {ns:List Node} {i:Int} (h0:0≤i) (h1:i<ns.length):nd ns i∈ns:=by
 obtain⟨h,e⟩:=Km h0 h1
 rw[e];exact List.getElem_mem h
theorem Ug (ns:List Node) (i:Int):∀k:Nat,k≤ns.length→∀n∈(oJ ns i k).1,∃a∈ns,n.block=a.block∧n.status=a.status
 | 0,_,n,hn=>by simp[oJ] at hn
 | k+1,hk,n,hn=>by
   unfold oJ at hn;simp only at hn
   split at hn
   ·rcases List.mem_append.1 hn with hn|hn
    ·exact Ug ns i k (by omega) n hn
    ·rw[List.mem_singleton] at hn;subst hn;exact⟨nd ns k,FB (by omega) (by omega),rfl,rfl⟩
   ·exact Ug ns i k (by omega) n hn
theorem XD (ns:List Node) (i:Int):∀k:Nat,k≤ns.length→((oJ ns i k).1.map (·.block)).Sublist ((ns.take k).map (·.block))
 | 0,_=>by simp[oJ]
 | k+1,hk=>by
   have ih:=XD ns i k (by omega)
   have e:ns.take (k+1)=ns.take k++[nd ns k]:=by
    rw[List.take_succ_eq_append_getElem (by omega)]
    have h:k<ns.length:=by omega
    simp[Go.Ab.nd,h]
   unfold oJ;simp only
   rw[e,List.map_append];split
   ·rw[List.map_append];exact ih.append (by simp)
   ·exact ih.trans (List.sublist_append_left ..)
theorem l4 {ns:List Node} (h:(ns.map fun n=>n.block.root).Nodup) (i:Int):((oJ ns i ns.length).1.map fun n=>n.block.root).Nodup:=by
 have h1:=(XD ns i ns.length (Nat.le_refl _)).map (·.root)
 rw[List.take_length] at h1;simp only[List.map_map] at h1;exact h.sublist h1
theorem RG.dJ {s:aP} {v:SV} (r:RG s v) {c1 c2:fR} (r1:Rg c1.aL) (r2:Rg c2.aL):RG (wR s v c1 c2) (Gp s v c1 c2):=by
 have hJ:Rg (Gb s c1).aL:=by unfold Gb;split;exact r1;exact r.j
 have hF:Rg (Bw s c2).aL:=by unfold Bw;split;exact r2;exact r.f
 by_cases b:cT s v (Gb s c1) (Bw s c2)
 ·rw[show wR s v c1 c2=s from if_pos b,show Gp s v c1 c2=v from if_pos b];exact r
 have fe:(Bw s c2).aL≤(Gb s c1).aL∧(Gb s c1).aL≤Bi s s.now:=by
  unfold cT at b;simp only[not_or] at b;obtain⟨_,_,_,_,_,_,_,b8,b9,_⟩:=b
  omega
 have tb:∃t∈ol (nz (xX (ol v.T) (Gb s c1).aL)),t.ck=Gb s c1:=by
  unfold cT at b;simp only[not_or] at b;obtain⟨_,_,_,_,_,_,_,_,_,b10⟩:=b
  unfold RT at b10;rcases yP (fun k=>(gx iT (ol v.T) k).ck=Gb s c1) (ol v.T).length with ⟨e,_⟩|⟨k,h1,h2,_,h3⟩
  ·rw[e] at b10;omega
  ·refine⟨gx iT (ol v.T) k, ?_,h2⟩
   rw[oO];refine List.mem_filter.2 ⟨uY (by omega) (by omega),decide_eq_true ?_⟩
   rw[h2];exact Int.le_refl _
 by_cases e:Bw s c2=s.aG.fin
 ·rw[show wR s v c1 c2=_ from (if_neg b).trans (if_pos e),show Gp s v c1 c2=_ from (if_neg b).trans (if_pos e)];exact⟨r.now,hJ,hF,r.nd,r.or,r.rt,fe,r.ds,tb,⟨r.ne.q,r.ne.e,r.ne.o,Wa _,r.ne.ea,fun t ht=>r.ne.tb t (by have ht:t∈ol (nz (xX (ol v.T) (Gb s c1).aL)):=ht;rw[oO] at ht;exact (List.mem_filter.1 ht).1)⟩⟩
 ·rw[show wR s v c1 c2=_ from (if_neg b).trans (if_neg e),show Gp s v c1 c2=_ from (if_neg b).trans (if_neg e)];refine⟨r.now,hJ,hF,fun n hn=>?_,fun o ho=>?_,fun n hn=>?_,fe,l4 r.ds _,tb,⟨r.ne.q,r.ne.e,Wa _,Wa _,r.ne.ea,fun t ht=>r.ne.tb t (by have ht:t∈ol (nz (xX (ol v.T) (Gb s c1).aL)):=ht;rw[oO] at ht;exact (List.mem_filter.1 ht).1)⟩⟩
  ·obtain⟨a,ha,e1,_⟩:=Ug _ _ _ (Nat.le_refl _) n hn
   rw[e1];exact r.nd a ha
  ·have ho:o∈ol (nz ((ol v.O).filter fun b=>decide ((Dk s (Bw s c2).aL).1<b.slot))):=ho
   rw[oO] at ho;exact r.or o (List.mem_filter.1 ho).1
  ·obtain⟨a,ha,e1,_⟩:=Ug _ _ _ (Nat.le_refl _) n hn
   rw[e1];exact r.rt a ha
theorem J3 {s:aP} {v:SV} {b:Block} (hb:Jo s v b=0∨Jo s v b=10):b.slot≤s.now:=by
 unfold Jo at hb;by_cases g1:b.root=dK
 ·rw[if_pos g1] at hb;omega
 rw[if_neg g1] at hb;by_cases g2:KnB v b.root
 ·rw[if_pos g2] at hb;omega
 rw[if_neg g2] at hb;by_cases g3:s.now<b.slot
 ·rw[if_pos g3] at hb;omega
 ·omega
theorem aBf {s:aP} {v:SV} {b:Block} (hb:Jo s v b=0):aM v.ns b.root<0:=by
 rcases Int.lt_or_le (aM v.ns b.root) 0 with h|h
 ·exact h
 ·unfold Jo at hb;by_cases g1:b.root=dK
  ·rw[if_pos g1] at hb;omega
  ·rw[if_neg g1,if_pos (.inr h)] at hb;omega
theorem l5 {ns:List Node} {r:cM} (h:aM ns r<0):r ∉ ns.map fun n=>n.block.root:=by
 intro hm;obtain⟨n,hn,e⟩:=List.mem_map.1 hm
 obtain⟨k,hk,rfl⟩:=List.getElem_of_mem hn
 have:0≤aM ns r:=Na (j:=(k:Int)) (by omega) (by omega) (by
  have:Go.Ab.nd ns (k:Int)=ns[k]:=by simp[Go.Ab.nd,hk]
  rw[this];exact e)
 omega
theorem RG.ins {s:aP} {v:SV} (r:RG s v) {b:Block} (rb:RB b∧Pr b.root) (hc:Jo s v b=0):RG (sJ s v b) (lE s v b):=by
 have hs:=J3 (.inl hc)
 have g1:RG (Tryz.Ja s v b) (Gr v b):=⟨r.now,r.j,r.f,fun n hn=>by
  rcases List.mem_append.1 (show n∈v.ns++[⟨b,aM v.ns b.parent,Mw b⟩] from hn) with hn|hn
  ·exact r.nd n hn
  ·rw[List.mem_singleton] at hn;subst hn;exact⟨rb.1,hs⟩,r.or,fun n hn=>by
  rcases List.mem_append.1 (show n∈v.ns++[⟨b,aM v.ns b.parent,Mw b⟩] from hn) with hn|hn
  ·exact r.rt n hn
  ·rw[List.mem_singleton] at hn;subst hn;exact rb.2,r.fe,by
  show ((v.ns++[(⟨b,aM v.ns b.parent,Mw b⟩:Node)]).map fun n:Node=>n.block.root).Nodup
  rw[List.map_append];refine List.nodup_append.2 ⟨r.ds,by simp,fun x hx y hy=>?_⟩
  simp only[List.map_cons,List.map_nil,List.mem_singleton] at hy;rintro rfl
  exact l5 (aBf hc) (hy ▸ hx),r.tb,⟨r.ne.q,r.ne.e,r.ne.o,r.ne.t,r.ne.ea,r.ne.tb⟩⟩
 have g2:=g1.dJ rb.1.j rb.1.f
 unfold sJ lE;split
 ·exact RG.dJ g2 rb.1.pj rb.1.pf
 ·exact g2
theorem RG.SE {s:aP} {v:SV} (r:RG s v) (O:Option (List Block)) (x:AV) (h:∀b∈ol O,RB b∧Pr b.root) (hO:O≠some []):RG (mO s x) { v with O:=O }:=⟨r.now,r.j,r.f,r.nd,h,r.rt,r.fe,r.ds,r.tb,⟨r.ne.q,r.ne.e,hO,r.ne.t,r.ne.ea,r.ne.tb⟩⟩
theorem RG.iD {s:aP} {v:SV} (r:RG s v) (x:cM):RG { s with iD:=x } v:=⟨r.now,r.j,r.f,r.nd,r.or,r.rt,r.fe,r.ds,r.tb,r.ne⟩
theorem GI.mono {s:aP} {v:SV} {q q':Int} (h:GI s v q) (h1:q≤q') (h2:q'≤900000):GI s v q' :=
 ⟨h.sd,h.up,h.KC,h.pos,h.nl,h.SA,h.qK,h.KY,h.nB,h.nO,h.KZ,h.nE,h.QQ,h.nT,h.SC,by have:=h.nQ;omega,h2,h.dN⟩
theorem Ig:Flat (.agg (aB eF)):=by simp only[dY,eF,nA,Gq,Ao,Kq,and_self]
def StR (s:aP) (q:Int) (r:AV):Prop:=∃(s':aP) (e:Int),r=.eE [.agg (aB s'),.v (.int .i64 e)]∧Flat (.agg (aB s'))∧e≠21∧(e=0→∃v',GI s' v' q∧RG s' v'∧s'.cFg=s.cFg)
def StN (s:aP) (v:SV) (q:Int) (r:AV):Prop:=∃(s':aP) (e:Int),r=.eE [.agg (aB s'),.v (.int .i64 e)]∧Flat (.agg (aB s'))∧e≠21∧(e=0→∃v',GI s' v' q∧RG s' v'∧s'.cFg=s.cFg∧v'.ns=v.ns)
theorem aE6 (s:aP) (v:SV) (b:Block):Jo s v b≠21:=by
 unfold Jo;repeat (split;simp)
 simp
end Go.Ab.Tryz
namespace Go.Ab.Tryz
open Classical Go.Proofs Go.Ab
end Go.Ab.Tryz
namespace Go.Ab.Tryz
open Classical Go.Proofs Go.Ab
theorem aBg (o:Option (List cM)) (hn:((ol o).length:Int)<1000000) (r:cM):∃x,aC Tryz.prog 250 [ov gJ o,.agg (aZ r)]=some x∧∃b:Bool,x=.v (.bool b):=by
 rw[cL Tryz.func250 rfl aJC (by cases o<;>rfl)]
 simp only[Z8,seval];refine cH (fun m st=>∃k:Nat,(st.env 0=ov gJ o∧st.env 3=.ptr 3 0 0∧st.heap 3 0=some (.cells (aZ r))∧st.env 5=.v (.int .i64 k))∧(∀j:Nat,j<k→¬(gx dK (ol o) (j:Int)=r))∧k≤(ol o).length∧m=(ol o).length-k)
  (fun e st=>(e=.ret∧∃k:Nat,k<(ol o).length∧(gx dK (ol o) (k:Int)=r)∧(∀j:Nat,j<k→¬(gx dK (ol o) (j:Int)=r))∧st.env 4=.v (.bool true))∨(e=.exit 0∧(∀j:Nat,j<(ol o).length→¬(gx dK (ol o) (j:Int)=r))∧st.env 0=ov gJ o∧st.env 3=.ptr 3 0 0∧st.heap 3 0=some (.cells (aZ r)))) ((ol o).length) ?step ?start ?rest
 case step =>
  rintro m st ⟨k,hI,hj,hk,hm⟩
  by_cases bB:(k:Int)<(ol o).length
  ·have q0:(0:Int)≤k:=by omega
   have hw:IntKind.i64.wrap ((k:Int)+1)=((k+1:Nat):Int):=by rw[qA _ (by omega) (by omega)];omega
   by_cases hh:gx dK (ol o) (k:Int)=r
   ·apply oT (.ret)
    ·simp only[Z8,seval,hI,bB,q0,hh];rfl
    ·exact .inl ⟨rfl,k,by omega,hh,hj,by simp only[E8,seval]⟩
   ·apply oN ((ol o).length-(k+1))
    ·simp only[Z8,seval,hI,bB,q0,hh,hw];rfl
    ·exact⟨k+1,by simp only[E8,seval,hI],fun j h=>(Nat.lt_succ_iff_lt_or_eq.1 h).elim (hj j) fun e=>by subst e;exact hh,by omega,rfl⟩
  ·apply oT (.exit 0)
   ·simp only[Z8,seval,hI,bB];rfl
   ·exact .inr ⟨rfl,fun j h=>hj j (by omega),by simp only[E8,seval,hI]⟩
 case start=>exact⟨0,by simp only[E8,seval]<;>rfl,fun j h=>by omega,by omega,by omega⟩
 case rest =>
  rintro e st (⟨rfl,k,hk,hh,hj,h⟩|⟨rfl,hj,hI⟩)
  ·simp only[Z8,seval];exact⟨_,bT rfl (by simp only[E8,seval,h]<;>rfl) (by first|exact .v _|simp only[dY,h]),_,rfl⟩
  ·simp only[Z8,seval];exact⟨_,bT rfl (by simp only[E8,seval]<;>rfl) (by first|exact .v _|simp only[dY]),_,rfl⟩
theorem l6 (l:List Table) (c:fR):-1≤RT l c∧RT l c<l.length:=RS _ _
theorem aOo {s:aP} {v:SV} (hs:SD s v):∃x,aC Tryz.prog 239 [.agg (aB s)]=some x∧∃o:Option (List Int),x=ov bC o∧((ol o).length:Int)<1000000:=by
 have wQ:=hs.fT
 rw[cL Tryz.func239 rfl aJD rfl];have r1:=l6 (ol v.T) s.aG.dN
 by_cases g1:RT (ol v.T) s.aG.dN<0
 ·simp only[Z8,seval,hs.tables,yQ _ hs.nT wQ,g1];exact⟨_,bT rfl (by simp only[E8,seval]<;>rfl) (by first|exact .v _|simp only[dY]),none,rfl,by simp[ol]⟩
 have q0:0≤RT (ol v.T) s.aG.dN:=by omega
 obtain⟨b,hb,hl⟩:=hs.tB _ (uY (z:=iT) q0 r1.2)
 simp only[Z8,seval,hs.tables,yQ _ hs.nT wQ,g1,q0,r1,hb];exact⟨_,bT rfl (by simp only[E8,seval,hb]<;>rfl) (dR b),b,rfl,hl⟩
theorem aOp (a b:Claim) (ha:Flat a.eU) (hb:Flat b.eU):∃x,aC Tryz.prog 234 [.agg (gO a),.agg (gO b)]=some x∧∃c:Bool,x=.v (.bool c):=by
 rw[cL Tryz.func234 rfl aJE rfl];by_cases g1:a.target=b.target
 ·by_cases g2:a.source=b.source
  ·by_cases g3:a.root=b.root
   all_goals
    have g4:¬a.source<b.source:=by omega
    have g5:¬b.source<a.source:=by omega
    simp only[Z8,seval,bt g1,bt g2,g3,g4,g5];exact⟨_,bT rfl (by simp only[E8,seval]<;>rfl) (by first|exact .v _|simp only[dY]),_,rfl⟩
  ·by_cases g4:a.source<b.source
   all_goals
    by_cases g5:b.source<a.source
    all_goals
     by_cases g6:b.target<a.target
     all_goals
      by_cases g7:a.target<b.target
      all_goals
       simp only[Z8,seval,bt g1,bf g2,g4,g5,g6,g7];exact⟨_,bT rfl (by simp only[E8,seval]<;>rfl) (by first|exact .v _|simp only[dY]),_,rfl⟩
 ·by_cases g4:a.source<b.source
  all_goals
   by_cases g5:b.source<a.source
   all_goals
    by_cases g6:b.target<a.target
    all_goals
     by_cases g7:a.target<b.target
     all_goals
      simp only[Z8,seval,bf g1,g4,g5,g6,g7];exact⟨_,bT rfl (by simp only[E8,seval]<;>rfl) (by first|exact .v _|simp only[dY]),_,rfl⟩
theorem aOq {s:aP} {v:SV} (hs:SD s v):∃x,aC Tryz.prog 209 [.agg (aB s)]=some x∧∃r:cM,x=.agg (aZ r):=by
 rw[cL Tryz.func209 rfl aJF rfl];have r1:=dW v.ns s.aG.dN.root
 by_cases g1:0≤aM v.ns s.aG.dN.root
 ·by_cases g2:(nd v.ns (aM v.ns s.aG.dN.root)).status=1
  ·simp only[Z8,seval,hs.tree,jA _ _ hs.nn,g1,r1,bt g2];exact⟨_,fF rfl (by simp only[E8,seval]<;>rfl) (by simp only[Z8,seval]<;>rfl) (by simp only[dY,and_self]),_,rfl⟩
  ·simp only[Z8,seval,hs.tree,jA _ _ hs.nn,g1,r1,bf g2];exact⟨_,fF rfl (by simp only[E8,seval]<;>rfl) (by simp only[Z8,seval]<;>rfl) (by simp only[dY,and_self]),_,rfl⟩
 ·simp only[Z8,seval,hs.tree,jA _ _ hs.nn,g1];exact⟨_,fF rfl (by simp only[E8,seval]<;>rfl) (by simp only[Z8,seval]<;>rfl) (by simp only[dY,and_self]),_,rfl⟩
theorem aOr (c:Config) (hc:Flat c.jI) (x:Int):∃r,aC Tryz.prog 240 [.agg (bS c),.v (.int .u64 x)]=some r∧∃a e:Int,r=.eE [.v (.int .u64 a),.v (.int .i64 e)]:=by
 rw[cL Tryz.func240 rfl aJG rfl];by_cases g1:c.qK<1
 ·simp only[Z8,seval,g1];exact⟨_,dO rfl rfl rfl (by simp only[E8,seval]<;>rfl) (by simp only[E8,seval]<;>rfl),_,_,rfl⟩
 by_cases g2:64<c.qK
 ·simp only[Z8,seval,g1,g2];exact⟨_,dO rfl rfl rfl (by simp only[E8,seval]<;>rfl) (by simp only[E8,seval]<;>rfl),_,_,rfl⟩
 by_cases g3:100<c.Gs
 ·simp only[Z8,seval,g1,g2,g3];exact⟨_,dO rfl rfl rfl (by simp only[E8,seval]<;>rfl) (by simp only[E8,seval]<;>rfl),_,_,rfl⟩
 by_cases g4:4611686018427387904<x
 ·simp only[Z8,seval,g1,g2,g3,g4];exact⟨_,dO rfl rfl rfl (by simp only[E8,seval]<;>rfl) (by simp only[E8,seval]<;>rfl),_,_,rfl⟩
 have g5:(c.qK=0)=False:=eq_false (by omega)
 simp only[Z8,seval,g1,g2,g3,g4,g5];exact⟨_,dO rfl rfl rfl (by simp only[E8,seval]<;>rfl) (by simp only[E8,seval]<;>rfl),_,_,rfl⟩
noncomputable def aE7 (o:Option (List cM)) (r:cM):Bool:=if h:((ol o).length:Int)<1000000 then Classical.choose (Classical.choose_spec (aBg o h r)).2 else false
theorem aOs (o:Option (List cM)) (hn:((ol o).length:Int)<1000000) (r:cM) (st:St) (d:Option Nat):aN (aC Tryz.prog) 250 [ov gJ o,.agg (aZ r)] st d=some { dst:=d,val:=.v (.bool (aE7 o r))}:=by
 have h:=(Classical.choose_spec (aBg o hn r)).1
 rw[Classical.choose_spec (Classical.choose_spec (aBg o hn r)).2] at h;rw[show aE7 o r=Classical.choose (Classical.choose_spec (aBg o hn r)).2 from dif_pos hn];exact bI (bE (Gt o) (rH r)) h (.v _)
theorem aOt (o:Option (List Int)) (hn:((ol o).length:Int)<999999) (x:Int):∃r,aC Tryz.prog 235 [ov aK o,.v (.int .i64 x)]=some r∧(r=ov aK o∨∃L:List Int,r=.uniq 3 1 L.length (aK L)∧L.length=(ol o).length+1):=by
 rw[cG Tryz.func235 rfl aJH (by kernel_rfl) (by cases o<;>rfl)]
 simp only[ZG,seval,Bool.false_and,Prod.mk.injEq,Wb];refine mC (fun m st=>∃k:Nat,(st.env 0=ov aK o∧st.env 1=.v (.int .i64 x)∧st.env 5=.v (.int .i64 k))∧k≤(ol o).length∧m=(ol o).length-k)
  (fun e st=>e=.exit 0∧∃k:Nat,(st.env 0=ov aK o∧st.env 1=.v (.int .i64 x)∧st.env 5=.v (.int .i64 k))∧k≤(ol o).length) (ol o).length ?step ?start ?rest
 case step =>
  rintro m st ⟨k,hI,hk,hm⟩
  by_cases bB:(k:Int)<(ol o).length
  ·have q0:(0:Int)≤k:=by omega
   have hw:IntKind.i64.wrap ((k:Int)+1)=((k+1:Nat):Int):=by rw[qA _ (by omega) (by omega)];omega
   by_cases h1:gx (0:Int) (ol o) (k:Int)<x
   ·apply Ea ((ol o).length-(k+1))
    ·simp only[ZG,seval,Bool.false_and,Prod.mk.injEq,Wb,hI,bB,q0,h1,hw];rfl
    ·exact⟨k+1,by simp only[E8,seval,hI],by omega,rfl⟩
   ·apply JK (.exit 0)
    ·simp only[ZG,seval,Bool.false_and,Prod.mk.injEq,Wb,hI,bB,q0,h1];rfl
    ·exact⟨rfl,k,by simp only[E8,seval,hI],hk⟩
  ·apply JK (.exit 0)
   ·simp only[ZG,seval,Bool.false_and,Prod.mk.injEq,Wb,hI,bB];rfl
   ·exact⟨rfl,k,by simp only[E8,seval,hI],hk⟩
 case start=>exact⟨0,by simp only[E8,seval]<;>rfl,by omega,by omega⟩
 case rest =>
  rintro e st ⟨rfl,k,hI,hk⟩
  have e1:ol (o.map (·.take k))=(ol o).take k:=by cases o<;>simp[ol]
  have e2:ol (o.map (·.drop k))=(ol o).drop k:=by cases o<;>simp[ol]
  have n1:((((ol o).take k).length:Nat):Int)<1000000:=by rw[List.length_take];omega
  have n2:((((ol o).drop k).length:Nat):Int)<1000000:=by rw[List.length_drop];omega
  have n3:((((ol o).take k++[x]).length:Nat):Int)<1000000:=by rw[List.length_append,List.length_take];simp;omega
  have q0:(0:Int)≤k:=by omega
  have q1:(k:Int)≤((ol o).length:Int):=by omega
  have go:∃r,some (AV.uniq 3 1 ((ol o).take k++[x]++(ol o).drop k).length (aK ((ol o).take k++[x]++(ol o).drop k)))=some r∧(r=ov aK o∨∃L:List Int,r=.uniq 3 1 L.length (aK L)∧L.length=(ol o).length+1) :=
   ⟨_,rfl,.inr ⟨_,rfl,by simp;omega⟩⟩
  by_cases bB:(k:Int)<(ol o).length
  ·by_cases h2:gx (0:Int) (ol o) (k:Int)=x
   ·simp only[ZG,seval,Bool.false_and,Prod.mk.injEq,Wb,hI,bB,q0,bt h2];exact⟨_,bT rfl (by simp only[E8,seval,hI]<;>rfl) (bO o),.inl rfl⟩
   ·simp only[ZG,seval,Bool.false_and,Prod.mk.injEq,Wb,Am,An,and_self,hI,bB,q0,q1,bf h2,Int.toNat_natCast,e1,e2,Nc _ n1,Ec _ _ _ _ n1,FC _ _ _ _ n3 n2];refine⟨_,sF rfl (by simp only[E8,seval]<;>rfl) (by simp only[E8,seval]<;>rfl) (gD _),.inr ⟨_,rfl,by simp;omega⟩⟩
  ·simp only[ZG,seval,Bool.false_and,Prod.mk.injEq,Wb,Am,An,and_self,hI,bB,q0,q1,Int.toNat_natCast,e1,e2,Nc _ n1,Ec _ _ _ _ n1,FC _ _ _ _ n3 n2];refine⟨_,sF rfl (by simp only[E8,seval]<;>rfl) (by simp only[E8,seval]<;>rfl) (gD _),.inr ⟨_,rfl,by simp;omega⟩⟩
theorem aOu (o:Option (List Int)) (hn:((ol o).length:Int)<1000000) (a:Int):aC Tryz.prog 49 [ov aK o,.v (.int .i64 a)]=some (.v (.bool (decide (a∈ol o)))):=by
 cases o with
 | none=>rw[show ol (none:Option (List Int))=[] from rfl];simp only[List.not_mem_nil,decide_false];exact aJI a
 | some l=>exact c49 l a hn
theorem aE8 (o:Option (List Int)) (hn:((ol o).length:Int)<1000000) (a:Int) (st:St) (d:Option Nat):aN (aC Tryz.prog) 49 [ov aK o,.v (.int .i64 a)] st d=some { dst:=d,val:=.v (.bool (decide (a∈ol o)))}:=bI (bE (bO o) (.v _)) (aOu o hn a) (.v _)
theorem aOv (t:uJ) (L:Option (List kF)) (Q:Option (List Int)) (hL:t.dV=ov cK L) (hQ:t.gU=ov aK Q) (nL:((ol L).length:Int)<1000000) (nQ:((ol Q).length:Int)<1000000)
 (B:Option (List Int)) (nB:((ol B).length:Int)<1000000) (R:Option (List cM)) (nR:((ol R).length:Int)<1000000) :
 ∃r,aC Tryz.prog 248 [.agg (eZ t),ov bC B,ov gJ R]=some r∧∃a:Int,r=.v (.int .u64 a):=by
 rw[cL Tryz.func248 rfl aJJ (by cases B<;>cases R<;>rfl)]
 simp only[Z8,seval];refine cH (fun m st=>∃(k:Nat) (a:Int),(st.env 1=ov bC B∧st.env 2=ov gJ R∧st.env 3=.ptr 3 0 0∧st.heap 3 0=some (.cells (eZ t))∧st.env 7=.v (.int .u64 a)∧st.env 8=.v (.int .i64 k))∧k≤(ol B).length∧m=(ol B).length-k)
  (fun e st=>e=.exit 0∧∃a:Int,st.env 7=.v (.int .u64 a)) (ol B).length ?step ?start ?rest
 case step =>
  rintro m st ⟨k,a,hI,hk,hm⟩
  by_cases bB:(k:Int)<(ol B).length
  ·have q0:(0:Int)≤k:=by omega
   have hw:IntKind.i64.wrap ((k:Int)+1)=((k+1:Nat):Int):=by rw[qA _ (by omega) (by omega)];omega
   by_cases h1:(k:Int)<(ol L).length
   ·cases h2:(gx rU (ol L) (k:Int)).has
    ·apply oN ((ol B).length-(k+1))
     ·simp only[Z8,seval,hI,bB,q0,hL,hQ,h1,h2,hw];rfl
     ·exact⟨k+1,_,by simp only[E8,seval,hI]<;>rfl,by omega,rfl⟩
    ·by_cases h3:(k:Int)∈ol Q
     ·apply oN ((ol B).length-(k+1))
      ·simp only[Z8,seval,hI,bB,q0,hL,hQ,h1,h2,aE8 Q nQ,h3,decide_true,hw];rfl
      ·exact⟨k+1,_,by simp only[E8,seval,hI]<;>rfl,by omega,rfl⟩
     ·cases h4:aE7 R (gx rU (ol L) (k:Int)).root
      all_goals
       refine oP (st':=?_) ?_ ((ol B).length-(k+1)) (by omega) ?_
       rotate_left
       ·simp only[Z8,seval,hI,bB,q0,hL,hQ,h1,h2,aE8 Q nQ,h3,decide_false,aOs R nR,h4,hw];rfl
       ·exact⟨k+1,_,by simp only[E8,seval,hI]<;>rfl,by omega,rfl⟩
   ·apply oT (.exit 0)
    ·simp only[Z8,seval,hI,bB,q0,hL,h1];rfl
    ·exact⟨rfl,a,by simp only[E8,seval,hI]⟩
  ·apply oT (.exit 0)
   ·simp only[Z8,seval,hI,bB];rfl
   ·exact⟨rfl,a,by simp only[E8,seval,hI]⟩
 case start=>exact⟨0,0,by simp only[E8,seval]<;>rfl,by omega,by omega⟩
 case rest =>
  rintro e st ⟨rfl,a,h⟩
  simp only[Z8,seval,h];exact⟨_,bT rfl (by simp only[E8,seval,h]<;>rfl) (by first|exact .v _|simp only[dY,h]),_,rfl⟩
theorem aOw (ns:List Node) (hn:(ns.length:Int)<1000000) (l:List Int) (hl:l.length=ns.length) (r:cM) (a:Int):∃x,aC Tryz.prog 243 [.agg (cP ⟨ns⟩),.sl l.length (bC l),.agg (aZ r),.v (.int .u64 a)]=some x∧∃m:List Int,x=.uniq 23 1 m.length (bC m)∧m.length=ns.length:=by
 have Fz:(l.length:Int)<1000000:=by omega
 have rr:=dW ns r
 rw[cL Tryz.func243 rfl aJK rfl];by_cases g1:0≤aM ns r
 case neg =>
  simp only[Z8,seval,Eb _ Fz,jA _ _ hn,g1];exact⟨_,sF rfl (by simp only[E8,seval]<;>rfl) (by simp only[E8,seval]<;>rfl) (hU _),l,rfl,hl⟩
 by_cases g2:(nd ns (aM ns r)).status=2
 ·simp only[Z8,seval,Eb _ Fz,jA _ _ hn,g1,rr,bt g2];exact⟨_,sF rfl (by simp only[E8,seval]<;>rfl) (by simp only[E8,seval]<;>rfl) (hU _),l,rfl,hl⟩
 by_cases g3:r=dK
 ·subst g3;simp only[Z8,seval,Eb _ Fz,jA _ _ hn,g1,rr,bf g2];exact⟨_,sF rfl (by simp only[E8,seval]<;>rfl) (by simp only[E8,seval]<;>rfl) (hU _),l,rfl,hl⟩
 have q1:aM ns r<(l.length:Int):=by omega
 have q2:(aM ns r).toNat<l.length:=by omega
 have q3:(aM ns r).toNat+1≤l.length:=by omega
 have hy:=l7 g1 q1
 have Vf:∀z:Int,dJ (bC l) (aM ns r).toNat [.v (.int .u64 z)] ((aM ns r).toNat+1)=bC (l.set (aM ns r).toNat z):=fun z=>by
  have:=J4 l (aM ns r) z q2
  simpa using this
 have ld:=J5 (T:=23) (n:=l.length) (k:=1) g1 q1 RY (by decide) (by decide)
 rw[Nat.mul_one] at ld;simp only[Z8,seval,Eb _ Fz,jA ns r hn,g1,rr,bf g2,g3,q1,q2,q3,hy,Vf,ld,Nat.mul_one];exact⟨_,sF rfl (by simp only[E8,seval]<;>rfl) (by simp only[E8,seval]<;>rfl) (hU _),_,by rw[List.length_set],by rw[List.length_set];exact hl⟩
theorem aBh (r:cM):gJ [r]=aZ r:=by simp[gJ]
theorem J6 (r:cM):jC (some (.row 27 32 1 (aZ r)))=some (.sl 1 (gJ [r])):=by rw[← aBh];exact vP 1 [r]
noncomputable def aJL (t:uJ) (B:Option (List Int)) (r:cM):Int:=if h:∃a:Int,aC Tryz.prog 248 [.agg (eZ t),ov bC B,ov gJ (some [r])]=some (.v (.int .u64 a)) then Classical.choose h else 0
theorem aJM (t:uJ) (L:Option (List kF)) (Q:Option (List Int)) (hL:t.dV=ov cK L) (hQ:t.gU=ov aK Q) (nL:((ol L).length:Int)<1000000) (nQ:((ol Q).length:Int)<1000000)
 (B:Option (List Int)) (nB:((ol B).length:Int)<1000000) (r:cM) (s g:Nat) (st:St) (d:Option Nat) (hh:st.heap s g=some (.row 27 32 1 (aZ r))) :
 aN (aC Tryz.prog) 248 [.agg (eZ t),ov bC B,.own s g] st d=some { dst:=d,val:=.v (.int .u64 (aJL t B r))}:=by
 obtain⟨x,hx,a,rfl⟩:=aOv t L Q hL hQ nL nQ B nB (some [r]) (by simp[ol])
 have he:∃a:Int,aC Tryz.prog 248 [.agg (eZ t),ov bC B,ov gJ (some [r])]=some (.v (.int .u64 a)):=⟨a,hx⟩
 have hf:Flat (.agg (eZ t)):=(Mr t).2 ⟨by rw[hL];exact qJ L,by rw[hQ];exact bO Q⟩
 rw[show aJL t B r=Classical.choose he from dif_pos he];rw[mU,List.map_cons,List.map_cons,List.map_cons,List.map_nil,dX hf,dX (dR B),vA,hh,J6,bR,bR,bR,gR];exact DE (Classical.choose_spec he)
theorem aOx (ns:List Node) (hn:(ns.length:Int)<1000000) (h0:0<ns.length) (t:uJ) (L:Option (List kF)) (Q:Option (List Int)) (hL:t.dV=ov cK L) (hQ:t.gU=ov aK Q) (nL:((ol L).length:Int)<1000000) (nQ:((ol Q).length:Int)<1000000)
 (B:Option (List Int)) (nB:((ol B).length:Int)<1000000) :
 ∃x,aC Tryz.prog 241 [.agg (cP ⟨ns⟩),.agg (eZ t),ov bC B]=some x∧∃m:List Int,x=.uniq 23 1 m.length (bC m)∧m.length=ns.length:=by
 have kw:=fun r g=>aJM t L Q hL hQ nL nQ B nB r 33 g
 rw[cL Tryz.func241 rfl aJN (by cases B<;>rfl)]
 simp only[Z8,seval];refine cH (fun m st=>∃k:Nat,(st.env 3=.ptr 3 0 0∧st.heap 3 0=some (.cells (cP ⟨ns⟩))∧st.env 4=.ptr 4 0 0∧st.heap 4 0=some (.cells (eZ t))∧st.env 2=ov bC B∧st.env 8=.v (.int .i64 k))∧((k=0∧st.env 7=.v (.slice none 0 0))∨∃(l:List Int) (g:Nat),st.env 7=.own 38 g∧g<st.aQ 38∧st.heap 38 g=some (.row 23 1 l.length (bC l))∧l.length=k)∧k≤ns.length∧m=ns.length-k)
  (fun e st=>e=.exit 0∧∃(l:List Int) (g:Nat),st.env 7=.own 38 g∧st.heap 38 g=some (.row 23 1 l.length (bC l))∧l.length=ns.length) ns.length ?step ?start ?rest
 case step =>
  rintro m st ⟨k,hI,h7,hk,hm⟩
  by_cases bB:(k:Int)<ns.length
  ·have q0:(0:Int)≤k:=by omega
   have hw:IntKind.i64.wrap ((k:Int)+1)=((k+1:Nat):Int):=by rw[qA _ (by omega) (by omega)];omega
   by_cases h1:(nd ns k).status=2
   ·rcases h7 with ⟨tP,h7⟩|⟨l,g,h7,hg,Fo,hl⟩
    ·apply oN (ns.length-(k+1))
     ·simp only[Z8,seval,hI,h7,bB,q0,bt h1,hw];rfl
     ·exact⟨k+1,by simp only[E8,seval,hI],.inr ⟨[0],st.aQ 38,by simp only[E8,seval]<;>rfl,by simp only[E8,seval]<;>omega,by simp only[E8,seval]<;>rfl,by simp;omega⟩,by omega,rfl⟩
    ·have nl:(l.length:Int)<1000000:=by omega
     apply oN (ns.length-(k+1))
     ·simp only[Z8,seval,hI,h7,Fo,bB,q0,bt h1,hw,xJ _ _ _ _ nl];rfl
     ·exact⟨k+1,by simp only[E8,seval,hI],.inr ⟨_,st.aQ 38,by simp only[E8,seval]<;>rfl,by simp only[E8,seval]<;>omega,by simp only[E8,seval]<;>rfl,by rw[List.length_append];simp;omega⟩,by omega,rfl⟩
   ·rcases h7 with ⟨tP,h7⟩|⟨l,g,h7,hg,Fo,hl⟩
    ·apply oN (ns.length-(k+1))
     ·simp only[Z8,seval,hI,h7,bB,q0,bf h1,kw (nd ns k).block.root,hw];rfl
     ·exact⟨k+1,by simp only[E8,seval,hI],.inr ⟨[_],st.aQ 38,by simp only[E8,seval]<;>rfl,by simp only[E8,seval]<;>omega,by simp only[E8,seval]<;>rfl,by simp;omega⟩,by omega,rfl⟩
    ·have nl:(l.length:Int)<1000000:=by omega
     apply oN (ns.length-(k+1))
     ·simp only[Z8,seval,hI,h7,Fo,bB,q0,bf h1,kw (nd ns k).block.root,hw,xJ _ _ _ _ nl];rfl
     ·exact⟨k+1,by simp only[E8,seval,hI],.inr ⟨_,st.aQ 38,by simp only[E8,seval]<;>rfl,by simp only[E8,seval]<;>omega,by simp only[E8,seval]<;>rfl,by rw[List.length_append];simp;omega⟩,by omega,rfl⟩
  ·have Fy:k=ns.length:=by omega
   rcases h7 with ⟨tP,h7⟩|⟨l,g,h7,hg,Fo,hl⟩
   ·omega
   ·apply oT (.exit 0)
    ·simp only[Z8,seval,hI,bB];rfl
    ·exact⟨rfl,l,g,by simp only[E8,seval,h7],by simp only[E8,seval,Fo],by omega⟩
 case start=>exact⟨0,by simp only[E8,seval]<;>rfl,.inl ⟨rfl,by simp only[E8,seval]⟩,by omega,by omega⟩
 case rest =>
  rintro e st ⟨rfl,l,g,h7,Fo,hl⟩
  simp only[Z8,seval,h7];exact⟨_,sF rfl (by simp only[E8,seval,h7]<;>rfl) (by simp only[E8,seval,Fo]<;>rfl) (hU _),l,rfl,hl⟩
theorem aOy (ns:List Node) (hu:gZ ns) (hn:(ns.length:Int)<1000000) (h0:0<ns.length) (l:List Int) (hl:l.length=ns.length) :
 ∃x,aC Tryz.prog 242 [.agg (cP ⟨ns⟩),.sl l.length (bC l)]=some x∧∃m:List Int,x=.uniq 23 1 m.length (bC m)∧m.length=ns.length:=by
 rw[cL Tryz.func242 rfl aJO rfl];simp only[Z8,seval];refine cH (fun m st=>∃k:Nat,(st.env 2=.ptr 2 0 0∧st.heap 2 0=some (.cells (cP ⟨ns⟩))∧st.env 1=.sl l.length (bC l)∧st.env 6=.v (.int .i64 k))∧((k=0∧st.env 5=.v (.slice none 0 0))∨∃(l:List Int) (g:Nat),st.env 5=.own 38 g∧g<st.aQ 38∧st.heap 38 g=some (.row 23 1 l.length (bC l))∧l.length=k)∧k≤ns.length∧m=ns.length-k)
  (fun e st=>e=.exit 0∧∃(l:List Int) (g:Nat),st.env 5=.own 38 g∧st.heap 38 g=some (.row 23 1 l.length (bC l))∧l.length=ns.length) ns.length ?step ?start ?rest
 case step =>
  rintro m st ⟨k,hI,h5,hk,hm⟩
  by_cases bB:(k:Int)<ns.length
  ·have q0:(0:Int)≤k:=by omega
   have hw:IntKind.i64.wrap ((k:Int)+1)=((k+1:Nat):Int):=by rw[qA _ (by omega) (by omega)];omega
   have kd:=k64 ns hu hn k (RI hu q0 bB ns.length bB)
   have hrg:=WW ns k
   have hdl:=Ub ns k ns.length
   obtain⟨D,hD⟩:∃D,Fp ns k ns.length=D:=⟨_,rfl⟩
   rw[hD] at kd hrg hdl;simp only[Z8,seval,hI,bB,q0,kd];refine YY (fun mm st'=>∃(j:Nat) (a:Int),(st'.env 2=.ptr 2 0 0∧st'.heap 2 0=some (.cells (cP ⟨ns⟩))∧st'.env 1=.sl l.length (bC l)∧st'.env 6=.v (.int .i64 k)∧st'.env 5=st.env 5∧st'.aQ 38=st.aQ 38∧(∀g,st'.heap 38 g=st.heap 38 g)∧st'.env 7=.v (.int .u64 a)∧st'.env 8=.own 19 (st.aQ 19)∧st'.heap 19 (st.aQ 19)=some (.row 3 1 D.length (aK D))∧st'.env 9=.v (.int .i64 j))∧j≤D.length∧mm=D.length-j)
    (fun e st'=>e=.exit 2∧∃a:Int,(st'.env 2=.ptr 2 0 0∧st'.heap 2 0=some (.cells (cP ⟨ns⟩))∧st'.env 1=.sl l.length (bC l)∧st'.env 6=.v (.int .i64 k)∧st'.env 5=st.env 5∧st'.aQ 38=st.aQ 38∧(∀g,st'.heap 38 g=st.heap 38 g)∧st'.env 7=.v (.int .u64 a))) D.length ?J7 ?SH ?LA
   case J7 =>
    rintro mm st' ⟨j,a,hJ,hj,hmm⟩
    by_cases hjl:(j:Int)<D.length
    ·have p0:(0:Int)≤j:=by omega
     have hw2:IntKind.i64.wrap ((j:Int)+1)=((j+1:Nat):Int):=by rw[qA _ (by omega) (by omega)];omega
     obtain⟨hjt,hje⟩:=wN p0 hjl
     have hx:=hrg _ (List.getElem_mem hjt)
     rw[← hje] at hx;have x0:=hx.1
     have x1:it D j<(l.length:Int):=by omega
     have gi:=oZ p0 hjl
     apply oN (D.length-(j+1))
     ·simp only[Z8,seval,hJ,hjl,p0,x0,x1,gi,hw2];rfl
     ·exact⟨j+1,IntKind.u64.wrap (a+gx (0:Int) l (it D j)),by simp only[E8,seval,hJ,implies_true,and_self],by omega,rfl⟩
    ·apply oT (.exit 2)
     ·simp only[Z8,seval,hJ,hjl];rfl
     ·exact⟨rfl,a,by simp only[E8,seval,hJ,implies_true,and_self]⟩
   case SH=>exact⟨0,0,by simp only[E8,seval,hI,implies_true,and_self]<;>rfl,by omega,by omega⟩
   case LA =>
    rintro e st' ⟨rfl,a,hJ⟩
    obtain⟨j2,j2',j1,j6,j5,jc,jh,j7⟩:=hJ
    rcases h5 with ⟨tP,h5⟩|⟨l',g,h5,hg,zT,Fz⟩
    ·rw[h5] at j5;refine H7 (st':=?s3) ?h3 (ns.length-(k+1)) (by omega) ?q3
     case h3 =>
      simp only[Z8,seval,j2,j2',j1,j6,j5,jc,j7,hw];rfl
     case q3=>exact⟨k+1,by simp only[E8,seval,j2,j2',j1],.inr ⟨[a],st.aQ 38,by simp only[E8,seval,jc]<;>rfl,by simp only[E8,seval,jc]<;>omega,by simp only[E8,seval,jc]<;>rfl,by simp;omega⟩,by omega,rfl⟩
    ·rw[h5] at j5;have nl:(l'.length:Int)<1000000:=by omega
     have jhh:=jh g
     rw[zT] at jhh;refine H7 (st':=?s4) ?h4 (ns.length-(k+1)) (by omega) ?q4
     case h4 =>
      simp only[Z8,seval,j2,j2',j1,j6,j5,jc,jhh,j7,hw,xJ _ _ _ _ nl];rfl
     case q4=>exact⟨k+1,by simp only[E8,seval,j2,j2',j1],.inr ⟨l'++[a],st.aQ 38,by simp only[E8,seval,jc]<;>rfl,by simp only[E8,seval,jc]<;>omega,by simp only[E8,seval,jc]<;>rfl,by rw[List.length_append];simp;omega⟩,by omega,rfl⟩
  ·have Fy:k=ns.length:=by omega
   rcases h5 with ⟨tP,h5⟩|⟨l,g,h5,hg,zT,hl⟩
   ·omega
   ·apply oT (.exit 0)
    ·simp only[Z8,seval,hI,bB];rfl
    ·exact⟨rfl,l,g,by simp only[E8,seval,h5],by simp only[E8,seval,zT],by omega⟩
 case start=>exact⟨0,by simp only[E8,seval]<;>rfl,.inl ⟨rfl,by simp only[E8,seval]⟩,by omega,by omega⟩
 case rest =>
  rintro e st ⟨rfl,l,g,h5,zT,hl⟩
  simp only[Z8,seval,h5];exact⟨_,sF rfl (by simp only[E8,seval,h5]<;>rfl) (by simp only[E8,seval,zT]<;>rfl) (hU _),l,rfl,hl⟩
theorem aOz {s:aP} {v:SV} {q:Int} (h:GI s v q):∃x,aC Tryz.prog 223 [.agg (aB s)]=some x∧∃m:List Int,x=.uniq 23 1 m.length (bC m)∧m.length=v.ns.length:=by
 have hf:=h.sd.flat
 have hn:=h.sd.nn
 obtain⟨r1,e1,o,rfl,ho⟩:=aOo h.sd
 have k239:=kx e1 (cO hf) (dR o)
 obtain⟨r2,e2,a,c,rfl,_⟩:=aJj o ho
 have ZU:=kx e2 (cO (dR o)) (.eE _ (bE (.v _) (.v _)))
 have hcb:Flat s.cFg.jI:=h.sd.fl.1
 obtain⟨r3,e3,a3,c3,rfl⟩:=aOr s.cFg hcb a
 have k240:=kx e3 (bE ((xV _).2 hcb) (.v _)) (.eE _ (bE (.v _) (.v _)))
 obtain⟨r4,e4,m1,rfl,hm1⟩:=aOx v.ns hn h.pos s.fV v.L v.Q h.sd.dV h.sd.gU h.sd.nL h.sd.nQ o ho
 have hfv:Flat (.agg (eZ s.fV)):=(Mr _).2 ⟨h.sd.fl.2.1,h.sd.fl.2.2.1⟩
 have k241:∀(st:St),aN (aC Tryz.prog) 241 [.agg (cP ⟨v.ns⟩),.agg (eZ s.fV),ov bC o] st (some 28)=_:=fun st=>jB (st:=st) (d:=28) (lN (nJ _) hfv (dR o)) e4
 obtain⟨r5,e5,m2,rfl,hm2⟩:=aOw v.ns hn m1 hm1 s.iD a3
 have k243:∀(st:St) (g:Nat),st.heap 28 g=some (.row 23 1 m1.length (bC m1))→aN (aC Tryz.prog) 243 [.agg (cP ⟨v.ns⟩),.own 28 g,.agg (aZ s.iD),.v (.int .u64 a3)] st (some 37)=some { dst:=some 37,val:=.own 37 (st.aQ 37),new:=some (37,[.row 23 1 m2.length (bC m2)])}:=by
  intro st g hh;rw[mU,List.map_cons,List.map_cons,List.map_cons,List.map_cons,List.map_nil,Ih,vA,hh,uZ,Qb,Pw,bR,bR,bR,bR,gR];exact J8 e5 (CI m2)
 obtain⟨r6,e6,m3,rfl,hm3⟩:=aOy v.ns h.up hn h.pos m2 hm2
 have k242:∀(st:St) (g:Nat),st.heap 37 g=some (.row 23 1 m2.length (bC m2))→aN (aC Tryz.prog) 242 [.agg (cP ⟨v.ns⟩),.own 37 g] st (some 38)=some { dst:=some 38,val:=.own 38 (st.aQ 38),new:=some (38,[.row 23 1 m3.length (bC m3)])}:=by
  intro st g hh;rw[mU,List.map_cons,List.map_cons,List.map_nil,Ih,vA,hh,uZ,bR,bR,gR];exact J8 e6 (CI m3)
 rw[cL Tryz.func223 rfl aJP rfl];simp only[Z8,seval,k239,ZU,eA,k240,h.sd.tree,k241,k243,k242];exact⟨_,sF rfl (by simp only[E8,seval]<;>rfl) (by simp only[E8,seval]<;>rfl) (hU _),m3,rfl,hm3⟩
noncomputable def AD (s:aP) (v:SV) (i:Int):fR:=if 0≤i∧i<v.ns.length then (if Bi s (nd v.ns i).block.slot<Bi s s.now then (nd v.ns i).block.dS.pj else (nd v.ns i).block.dN) else iM
theorem aOA {s:aP} {v:SV} (hs:SD s v) (hp:s.cFg.qK≠0) (i:Int):aC Tryz.prog 252 [.agg (aB s),.v (.int .i64 i)]=some (.agg (bY (AD s v i))):=by
 have hf:=hs.flat
 rw[cL Tryz.func252 rfl aJQ rfl];refine jR ?_
 by_cases g1:0≤i
 case neg =>
  have hv:AD s v i=iM:=if_neg (fun h=>g1 h.1)
  simp only[Z8,seval,Vs hs,g1,Bool.false_and];exact⟨_,fF rfl (by simp only[E8,seval]<;>rfl) (by simp only[Z8,seval]<;>rfl) (by simp only[dY,and_self]),by rw[hv]⟩
 by_cases g2:i<(v.ns.length:Int)
 case neg =>
  have hv:AD s v i=iM:=if_neg (fun h=>g2 h.2)
  simp only[Z8,seval,Vs hs,g1,g2,Bool.and_false];exact⟨_,fF rfl (by simp only[E8,seval]<;>rfl) (by simp only[Z8,seval]<;>rfl) (by simp only[dY,and_self]),by rw[hv]⟩
 by_cases g3:Bi s (nd v.ns i).block.slot<Bi s s.now
 ·have hv:AD s v i=(nd v.ns i).block.dS.pj:=by unfold AD;rw[if_pos ⟨g1,g2⟩,if_pos g3]
  simp only[Z8,seval,Vs hs,g1,g2,hs.tree,sH s hp hf,g3];exact⟨_,fF rfl (by simp only[E8,seval]<;>rfl) (by simp only[Z8,seval]<;>rfl) (by simp only[dY,and_self]),by rw[hv]⟩
 ·have hv:AD s v i=(nd v.ns i).block.dN:=by unfold AD;rw[if_pos ⟨g1,g2⟩,if_neg g3]
  simp only[Z8,seval,Vs hs,g1,g2,hs.tree,sH s hp hf,g3];exact⟨_,fF rfl (by simp only[E8,seval]<;>rfl) (by simp only[Z8,seval]<;>rfl) (by simp only[dY,and_self]),by rw[hv]⟩
theorem aBj {s:aP} {v:SV} (hs:SD s v) (hp:s.cFg.qK≠0) (i:Int) (st:St) (d:Option Nat):aN (aC Tryz.prog) 252 [.agg (aB s),.v (.int .i64 i)] st d=some { dst:=d,val:=.agg (bY (AD s v i))}:=bI (bE hs.flat (.v _)) (aOA hs hp i) (.agg _ (dA _))
theorem aJR {s:aP} {v:SV} (hs:SD s v) (hp:s.cFg.qK≠0) (i:Int):∃r,aC Tryz.prog 249 [.agg (aB s),.v (.int .i64 i)]=some r∧∃b:Bool,r=.v (.bool b):=by
 have hf:=hs.flat
 rw[cL Tryz.func249 rfl aJS rfl];by_cases g1:0≤i
 case neg =>
  simp only[Z8,seval,Vs hs,g1,Bool.false_and];exact⟨_,bT rfl (by simp only[E8,seval]<;>rfl) (by first|exact .v _|simp only[dY]),_,rfl⟩
 by_cases g2:i<(v.ns.length:Int)
 case neg =>
  simp only[Z8,seval,Vs hs,g1,g2,Bool.and_false];exact⟨_,bT rfl (by simp only[E8,seval]<;>rfl) (by first|exact .v _|simp only[dY]),_,rfl⟩
 by_cases g3:(nd v.ns i).status=2
 ·simp only[Z8,seval,Vs hs,g1,g2,hs.tree,bt g3];exact⟨_,bT rfl (by simp only[E8,seval]<;>rfl) (by first|exact .v _|simp only[dY]),_,rfl⟩
 by_cases g4:s.aG.dN.aL=0
 ·simp only[Z8,seval,Vs hs,g1,g2,hs.tree,bf g3,aBj hs hp,bt g4];exact⟨_,bT rfl (by simp only[E8,seval]<;>rfl) (by first|exact .v _|simp only[dY]),_,rfl⟩
 by_cases g5:(AD s v i).aL=s.aG.dN.aL
 ·simp only[Z8,seval,Vs hs,g1,g2,hs.tree,bf g3,aBj hs hp,bf g4,bt g5];exact⟨_,bT rfl (by simp only[E8,seval]<;>rfl) (by first|exact .v _|simp only[dY]),_,rfl⟩
 by_cases g6:Bi s s.now≤(AD s v i).aL
 ·simp only[Z8,seval,Vs hs,g1,g2,hs.tree,bf g3,aBj hs hp,bf g4,bf g5,sH s hp hf,g6];exact⟨_,bT rfl (by simp only[E8,seval]<;>rfl) (by first|exact .v _|simp only[dY]),_,rfl⟩
 ·simp only[Z8,seval,Vs hs,g1,g2,hs.tree,bf g3,aBj hs hp,bf g4,bf g5,sH s hp hf,g6];exact⟨_,bT rfl (by simp only[E8,seval]<;>rfl) (by first|exact .v _|simp only[dY]),_,rfl⟩
theorem aFa (ns:List Node) (i x:Int):∀k:Nat,x∈Rx ns i k→(0≤x∧x<k)∧(nd ns x).up=i:=by
 intro k;induction k with
 | zero=>intro h;simp[Rx] at h
 | succ k ih =>
   intro h;unfold Rx at h;split at h
   ·rename_i hc;rcases List.mem_append.1 h with h|h
    ·have:=ih h;omega
    ·have hx:=List.mem_singleton.1 h
     subst hx;exact⟨by omega,hc⟩
   ·have:=ih h;omega
theorem FD {ns:List Node} (hu:gZ ns) (hr:(nd ns 0).up=-1) {i x:Int} (h:x∈vV ns i):i<x∧0≤x∧x<ns.length:=by
 unfold vV at h;split at h
 ·simp at h
 ·rename_i hi;obtain⟨⟨x0,x1⟩,Vf⟩:=aFa ns i x _ h
  by_cases hx:x=0
  ·subst hx;rw[hr] at Vf;omega
  ·have:=(hu x (by omega) x1).2;omega
theorem aJT {s:aP} {v:SV} (hs:SD s v) (hu:gZ v.ns) (hr:(nd v.ns 0).up=-1) (hp:s.cFg.qK≠0):∀(n:Nat) (i:Int),((v.ns.length:Int)-i).toNat≤n→∃b:Bool,aC Tryz.prog 244 [.agg (aB s),.v (.int .i64 i)]=some (.v (.bool b)):=by
 have base:∀(i:Int),vV v.ns i=[]→∃b:Bool,aC Tryz.prog 244 [.agg (aB s),.v (.int .i64 i)]=some (.v (.bool b)):=by
  intro i hc;obtain⟨r,hr9,b,rfl⟩:=aJR hs hp i
  have J9:=kx hr9 (bE hs.flat (.v _)) (.v _)
  have kc:=fun st d=>aDF v.ns hu hr hs.nn i hc st d
  suffices h:∃r,aC Tryz.prog 244 [.agg (aB s),.v (.int .i64 i)]=some r∧∃b:Bool,r=.v (.bool b) by
   obtain⟨r,h,b,rfl⟩:=h;exact⟨b,h⟩
  rw[cL Tryz.func244 rfl aDS rfl];cases b
  ·simp only[Z8,seval,J9,hs.tree,kc];refine cH (fun m st=>st.env 5=.v (.slice none 0 0)∧st.env 6=.v (.int .i64 0)∧m=0) (fun e st=>e=.exit 0) 0 ?step ?start ?rest
   case step =>
    rintro m st ⟨h5,h6,_⟩
    apply oT (.exit 0)
    ·simp only[Z8,seval,h5,h6,Int.lt_irrefl];rfl
    ·exact rfl
   case start=>exact⟨by simp only[E8,seval]<;>rfl,by simp only[E8,seval]<;>rfl,rfl⟩
   case rest =>
    rintro e st rfl
    simp only[Z8,seval];exact⟨_,bT rfl (by simp only[E8,seval]<;>rfl) (by first|exact .v _|simp only[dY]),_,rfl⟩
  ·simp only[Z8,seval,J9];exact⟨_,bT rfl (by simp only[E8,seval]<;>rfl) (by first|exact .v _|simp only[dY]),_,rfl⟩
 intro n;induction n with
 | zero =>
   intro i hi;exact base i (KE hu hr (by omega))
 | succ n ih =>
   intro i hi;by_cases hc:vV v.ns i=[]
   ·exact base i hc
   obtain⟨r,hr9,b,rfl⟩:=aJR hs hp i
   have J9:=kx hr9 (bE hs.flat (.v _)) (.v _)
   have kc:=fun st d=>aIN v.ns hu hr hs.nn i hc st d
   have hB:∀x:Int,∃b:Bool,x∈vV v.ns i→aC Tryz.prog 244 [.agg (aB s),.v (.int .i64 x)]=some (.v (.bool b)):=by
    intro x;by_cases hx:x∈vV v.ns i
    ·have:=FD hu hr hx
     obtain⟨b,hb⟩:=ih x (by omega)
     exact⟨b,fun _=>hb⟩
    ·exact⟨false,fun h=>absurd h hx⟩
   obtain⟨B,hB⟩:∃B:Int→Bool,∀x,x∈vV v.ns i→aC Tryz.prog 244 [.agg (aB s),.v (.int .i64 x)]=some (.v (.bool (B x))):=⟨fun x=>Classical.choose (hB x),fun x=>Classical.choose_spec (hB x)⟩
   have hgt:∀x∈vV v.ns i,i<x∧0≤x∧x<v.ns.length:=fun x hx=>FD hu hr hx
   have hin:((vV v.ns i).length:Int)<1000000:=by
    have h1:(vV v.ns i).length≤v.ns.length:=by
     unfold vV;split
     ·simp
     ·exact Uc v.ns i v.ns.length
    have:=hs.nn;omega
   obtain⟨l,el⟩:∃l,vV v.ns i=l:=⟨_,rfl⟩
   rw[el] at kc hB hin;suffices h:∃r,aC Tryz.prog 244 [.agg (aB s),.v (.int .i64 i)]=some r∧∃b:Bool,r=.v (.bool b) by
    obtain⟨r,h,b,rfl⟩:=h;exact⟨b,h⟩
   rw[cL Tryz.func244 rfl aDS rfl];cases b
   case true =>
    simp only[Z8,seval,J9];exact⟨_,bT rfl (by simp only[E8,seval]<;>rfl) (by first|exact .v _|simp only[dY]),_,rfl⟩
   simp only[Z8,seval,J9,hs.tree,kc];refine cH (fun m st=>∃k:Nat,(st.env 2=.ptr 2 0 0∧st.heap 2 0=some (.cells (aB s))∧st.env 5=.own 13 0∧st.heap 13 0=some (.row 3 1 l.length (aK l))∧st.env 6=.v (.int .i64 k))∧(∀j:Nat,j<k→¬(B (it l (j:Int))=true))∧k≤l.length∧m=l.length-k)
    (fun e st=>(e=.ret∧∃k:Nat,k<l.length∧(B (it l (k:Int))=true)∧(∀j:Nat,j<k→¬(B (it l (j:Int))=true))∧st.env 4=.v (.bool true))∨(e=.exit 0∧(∀j:Nat,j<l.length→¬(B (it l (j:Int))=true))∧st.env 2=.ptr 2 0 0∧st.heap 2 0=some (.cells (aB s))∧st.env 5=.own 13 0∧st.heap 13 0=some (.row 3 1 l.length (aK l)))) (l.length) ?step ?start ?rest
   case step =>
    rintro m st ⟨k,hI,hj,hk,hm⟩
    by_cases bB:(k:Int)<l.length
    ·have q0:(0:Int)≤k:=by omega
     have hw:IntKind.i64.wrap ((k:Int)+1)=((k+1:Nat):Int):=by rw[qA _ (by omega) (by omega)];omega
     have gi:=oZ q0 bB
     have hm2:it l (k:Int)∈l:=by obtain⟨h1,h2⟩:=wN q0 bB;rw[h2];exact List.getElem_mem h1
     have kb:=kx (hB _ hm2) (bE hs.flat (.v _)) (.v _)
     by_cases hh:B (it l (k:Int))=true
     ·apply oT (.ret)
      ·simp only[Z8,seval,hI,bB,q0,kb,gi,hh];rfl
      ·exact .inl ⟨rfl,k,by omega,hh,hj,by simp only[E8,seval,kb,gi]⟩
     ·have hn:B (it l (k:Int))=false:=by simpa using hh
      apply oN (l.length-(k+1))
      ·simp only[Z8,seval,hI,bB,q0,kb,gi,hn,hw];rfl
      ·exact⟨k+1,by simp only[E8,seval,hI],fun j h=>(Nat.lt_succ_iff_lt_or_eq.1 h).elim (hj j) fun e=>by subst e;exact hh,by omega,rfl⟩
    ·apply oT (.exit 0)
     ·simp only[Z8,seval,hI,bB,bB];rfl
     ·exact .inr ⟨rfl,fun j h=>hj j (by omega),by simp only[E8,seval,hI]⟩
   case start=>exact⟨0,by simp only[E8,seval]<;>rfl,fun j h=>by omega,by omega,by omega⟩
   case rest =>
    rintro e st (⟨rfl,k,hk,hh,hj,h⟩|⟨rfl,hj,hI⟩)
    ·simp only[Z8,seval];exact⟨_,bT rfl (by simp only[E8,seval,h]<;>rfl) (by first|exact .v _|simp only[dY,h]),_,rfl⟩
    ·simp only[Z8,seval];exact⟨_,bT rfl (by simp only[E8,seval]<;>rfl) (by first|exact .v _|simp only[dY]),_,rfl⟩
theorem aOD {s:aP} {v:SV} {q:Int} (h:GI s v q):∃x,aC Tryz.prog 224 [.agg (aB s)]=some x∧∃m:List Bool,x=.uniq 4 1 m.length (mP m)∧m.length=v.ns.length:=by
 have hn:=h.sd.nn
 have h0:=h.pos
 obtain⟨B,hB⟩:∃B:Int→Bool,∀x,aC Tryz.prog 244 [.agg (aB s),.v (.int .i64 x)]=some (.v (.bool (B x))):=⟨fun x=>Classical.choose (aJT h.sd h.up h.KC h.sp _ x (Nat.le_refl _)),fun x=>Classical.choose_spec (aJT h.sd h.up h.KC h.sp _ x (Nat.le_refl _))⟩
 have kb:∀(x:Int) (st:St) (d:Option Nat),aN (aC Tryz.prog) 244 [.agg (aB s),.v (.int .i64 x)] st d=some { dst:=d,val:=.v (.bool (B x))}:=fun x=>kx (hB x) (bE h.sd.flat (.v _)) (.v _)
 rw[cL Tryz.func224 rfl aJU rfl];simp only[Z8,seval];refine cH (fun m st=>∃k:Nat,(st.env 1=.ptr 1 0 0∧st.heap 1 0=some (.cells (aB s))∧st.env 4=.v (.int .i64 k))∧((k=0∧st.env 3=.v (.slice none 0 0))∨∃(l:List Bool) (g:Nat),st.env 3=.own 18 g∧g<st.aQ 18∧st.heap 18 g=some (.row 4 1 l.length (mP l))∧l.length=k)∧k≤v.ns.length∧m=v.ns.length-k)
  (fun e st=>e=.exit 0∧∃(l:List Bool) (g:Nat),st.env 3=.own 18 g∧st.heap 18 g=some (.row 4 1 l.length (mP l))∧l.length=v.ns.length) v.ns.length ?step ?start ?rest
 case step =>
  rintro m st ⟨k,hI,h5,hk,hm⟩
  by_cases bB:(k:Int)<v.ns.length
  ·have q0:(0:Int)≤k:=by omega
   have hw:IntKind.i64.wrap ((k:Int)+1)=((k+1:Nat):Int):=by rw[qA _ (by omega) (by omega)];omega
   rcases h5 with ⟨tP,h5⟩|⟨l',g,h5,hg,zT,Fz⟩
   ·apply oN (v.ns.length-(k+1))
    ·simp only[Z8,seval,hI,h5,bB,q0,h.sd.tree,kb,hw];rfl
    ·exact⟨k+1,by simp only[E8,seval,hI],.inr ⟨[B k],st.aQ 18,by simp only[E8,seval]<;>rfl,by simp only[E8,seval]<;>omega,by simp only[E8,seval]<;>rfl,by simp;omega⟩,by omega,rfl⟩
   ·have nl:(l'.length:Int)<1000000:=by omega
    apply oN (v.ns.length-(k+1))
    ·simp only[Z8,seval,hI,h5,zT,bB,q0,h.sd.tree,kb,hw,LB _ _ _ _ nl];rfl
    ·exact⟨k+1,by simp only[E8,seval,hI],.inr ⟨l'++[B k],st.aQ 18,by simp only[E8,seval]<;>rfl,by simp only[E8,seval]<;>omega,by simp only[E8,seval]<;>rfl,by rw[List.length_append];simp;omega⟩,by omega,rfl⟩
  ·have Fy:k=v.ns.length:=by omega
   rcases h5 with ⟨tP,h5⟩|⟨l,g,h5,hg,zT,hl⟩
   ·omega
   ·apply oT (.exit 0)
    ·simp only[Z8,seval,hI,bB,h.sd.tree];rfl
    ·exact⟨rfl,l,g,by simp only[E8,seval,h5],by simp only[E8,seval,zT],by omega⟩
 case start=>exact⟨0,by simp only[E8,seval]<;>rfl,.inl ⟨rfl,by simp only[E8,seval]⟩,by omega,by omega⟩
 case rest =>
  rintro e st ⟨rfl,l,g,h5,zT,hl⟩
  simp only[Z8,seval,h5];exact⟨_,sF rfl (by simp only[E8,seval,h5]<;>rfl) (by simp only[E8,seval,zT]<;>rfl) (Sa _),l,rfl,hl⟩
theorem vB {x:AV} (h:Flat x):iZ x=[]:=by
 have one:∀c,Flat c→gH c=[]:=fun c hc=>by cases hc<;>rfl
 cases h with
 | agg cs h =>
   simp only[iZ];rw[List.flatMap_eq_nil_iff];exact fun c hc=>one c (h c hc)
 | _=>rfl
theorem SI {args:List AV} (h:∀x∈args,Flat x):args.flatMap iZ=[]:=List.flatMap_eq_nil_iff.2 fun x hx=>vB (h x hx)
theorem LC {call:Nat→List AV→Option AV} {g:Nat} {args:List AV} {st:St} {d:Option Nat} (h:∀x∈args,Flat x):fC call g args st d=aN call g args st d:=by
 unfold fC;rw[SI h]
theorem Gu {call:Nat→List AV→Option AV} {g:Nat} {args:List AV} {r:AV} {st:St} {d:Option Nat} (hf:∀x∈args,Flat x) (h:call g args=some r) (hr:Flat r):fC call g args st d=some { dst:=d,val:=r }:=by
 rw[LC hf];exact bI hf h hr
noncomputable def Kr (call:Nat→List AV→Option AV) (g:Nat) (xs:Option (List AV)) (s k:Nat) (st:St) (d:Option Nat):Option qT :=
 cD xs fun xs=>cD (call g xs) fun r=>Dm r st d s k
theorem Ii {call:Nat→List AV→Option AV} {g:Nat} {args:List AV} {st:St} {d:Option Nat} {s k:Nat} (hk:args.flatMap iZ=[(s,k)]) (he:∀x∈args,WG x):fC call g args st d=Kr call g (cE (args.map (fO st))) s k st d:=by
 unfold fC Kr;rw[hk];simp only
 rw[if_pos he];cases cE (args.map (fO st))<;>rfl
theorem DF {call:Nat→List AV→Option AV} {g:Nat} {xs:List AV} {r:AV} {s k:Nat} {st:St} {d:Option Nat} (h:call g xs=some r) (hr:Flat r):Kr call g (some xs) s k st d=some { dst:=d,val:=r,dJ:=some (s,k,none)}:=by
 unfold Kr Dm;simp only[cU,h,if_pos hr]
theorem aBk {call:Nat→List AV→Option AV} {g:Nat} {xs:List AV} {e sz n:Nat} {cs:List AV} {s k:Nat} {st:St} {d:Nat} (h:call g xs=some (.uniq e sz n cs)) (hm:∀c∈cs,fM c):Kr call g (some xs) s k st (some d)=some { dst:=some d,val:=.own d (st.aQ d),dJ:=some (s,k,none),new:=some (d,[.row e sz n cs])}:=by
 have hnf:¬Flat (.uniq e sz n cs):=by intro h;cases h
 unfold Kr Dm;simp only[cU,h,if_neg hnf,if_pos hm]
theorem K0 {call:Nat→List AV→Option AV} {g:Nat} {args:List AV} {e sz n:Nat} {cs:List AV} {st:St} {d:Nat} (hf:∀x∈args,Flat x) (h:call g args=some (.uniq e sz n cs)):fC call g args st (some d)=some { dst:=some d,val:=.own d (st.aQ d),new:=some (d,[.row e sz n cs])}:=by
 have hnf:¬Flat (.uniq e sz n cs):=by intro h;cases h
 rw[LC hf];unfold aN;rw[if_pos hf,h];simp only[cU];unfold iW;rw[if_neg hnf];rfl
end Go.Ab.Tryz
