/-
  Part 12 of the proof: an evaluator of programs, its soundness, and what functions of this program compute.
-/
import Derived.Test.YtmcjkemalibacaaGreatK11
import Derived.Test.YtmcjkemalibacaaGreatK10
set_option linter.all false
set_option maxRecDepth 20000
set_option maxHeartbeats 40000000
namespace Go.Ab.Tryz
open Classical Go.Proofs Go.Ab
theorem bP (st:St) (s g:Nat):cN st (.own s g)=jG (st.heap s g):=by
 unfold cN jG;rw[if_neg (mW s g)];cases h:st.heap s g with
 | none=>simp only[h]
 | some e=>cases e<;>simp only[h]
theorem SD.fl {s:aL} {v:SV} (h:SD s v):Flat s.cFg.iP∧Flat s.gH.eA∧Flat s.gH.gW∧Flat s.cD.early∧Flat s.cD.bK∧Flat s.tree.nodes∧Flat s.tables:=(wP s).1 h.flat
noncomputable def Cy (s:aL) (v:SV) (c1 c2:dP):SV :=
 if jW s v (rK s c1) (tQ s c2) then v else
 if tQ s c2=s.aU.fin then { v with T:=nz (rV (ol v.T) (rK s c1).aG)} else
 { v with T:=nz (rV (ol v.T) (rK s c1).aG),ns:=(jT v.ns (aM v.ns (tQ s c2).root) v.ns.length).1,O:=nz ((ol v.O).filter fun b=>decide ((vO s (tQ s c2).aG).1<b.slot))}
noncomputable def uU (s:aL) (v:SV) (c1 c2:dP):aL :=
 if jW s v (rK s c1) (tQ s c2) then s else
 if tQ s c2=s.aU.fin then { s with aU:=⟨rK s c1,tQ s c2⟩,tables:=ov aI (nz (rV (ol v.T) (rK s c1).aG))} else
 { s with aU:=⟨rK s c1,tQ s c2⟩,tables:=ov aI (nz (rV (ol v.T) (rK s c1).aG)),
          tree:=⟨.sl (jT v.ns (aM v.ns (tQ s c2).root) v.ns.length).1.length (bZ (jT v.ns (aM v.ns (tQ s c2).root) v.ns.length).1)⟩,
          eR:=if aM (jT v.ns (aM v.ns (tQ s c2).root) v.ns.length).1 s.eR<0 then dR else s.eR,
          cD:={ s.cD with bK:=ov aF (nz ((ol v.O).filter fun b=>decide ((vO s (tQ s c2).aG).1<b.slot)))} }
theorem Wy {ns:List Node} (i:Int):(jT ns i ns.length).1.length≤ns.length:=Iy ns i ns.length
theorem SD.dQ {s:aL} {v:SV} (h:SD s v) (hu:gM v.ns) (c1 c2:dP):SD (uU s v c1 c2) (Cy s v c1 c2):=by
 have hT:((ol (nz (rV (ol v.T) (rK s c1).aG))).length:Int)<1000000:=by rw[nA];have:=List.length_filter_le (fun t:Table=>decide ((rK s c1).aG≤t.ck.aG)) (ol v.T);have:=h.nT;unfold rV;omega
 have hB:∀t∈ol (nz (rV (ol v.T) (rK s c1).aG)),qJ t:=by rw[nA];exact fun t m=>h.tB t (List.mem_filter.1 m).1
 unfold uU Cy;split
 ·exact h
 split
 ·exact⟨h.iP,h.eA,h.gW,h.early,h.bK,h.tree,rfl,h.eV,hB,h.nB,h.nL,h.nQ,h.nE,h.nO,hT,h.nn⟩
 ·refine⟨h.iP,h.eA,h.gW,h.early,rfl,rfl,rfl,h.eV,hB,h.nB,h.nL,h.nQ,h.nE, ?_,hT, ?_⟩
  ·rw[nA];have:=List.length_filter_le (fun b:Block=>decide ((vO s (tQ s c2).aG).1<b.slot)) (ol v.O);have:=h.nO;omega
  ·have:=Wy (ns:=v.ns) (aM v.ns (tQ s c2).root);have:=h.nn;show ((jT v.ns (aM v.ns (tQ s c2).root) v.ns.length).1.length:Int)<1000000;omega
theorem c61 {s:aL} {v:SV} (hs:SD s v) (hu:gM v.ns) (hp:s.cFg.kE≠0) (c1 c2:dP):aB Tryz.prog 61 [.agg (aA s),.agg (aY c1),.agg (aY c2)]=some (.agg (aA (uU s v c1 c2))):=by
 have hf:=hs.flat
 have hn:=hs.nO
 have pH:=hs.fl
 have Js:=k59 hs hu hp c1 c2
 rw[cG Tryz.func61 rfl aQc (by kernel_rfl) rfl]
 refine iN ?_
 by_cases b1:jW s v (rK s c1) (tQ s c2)
 ·have hv:uU s v c1 c2=s:=if_pos b1
  have hc:Jr s v c1 c2=.eE [.agg (aY gN),.agg (aY gN),.v (.bool false)]:=if_pos b1
  rw[hc] at Js
  simp only[ZG,seval,Bool.false_and,Prod.mk.injEq,sU,Js,dM];exact⟨_,fK rfl (by simp only[E8,seval,hf]<;>rfl) (by simp only[Z8,seval,hf]<;>rfl) (by simp only[dV,and_self,hf]),by rw[hv]⟩
 have hc:Jr s v c1 c2=.eE [.agg (aY (rK s c1)),.agg (aY (tQ s c2)),.v (.bool true)]:=if_neg b1
 rw[hc] at Js
 have hv:uU s v c1 c2=_:=if_neg b1
 generalize hJ:rK s c1=J at *
 generalize hF:tQ s c2=F at *
 have YV:=eZ v.ns F.root
 have hF0:0≤aM v.ns F.root:=by rcases Int.lt_or_le (aM v.ns F.root) 0 with h|h;exact absurd (.inr (.inl h)) b1;exact h
 have aCl:=aPZ v.T hs.nT (fun t m=>(hs.tB t m).fl) J.aG
 have kp:=k34 v.ns hu hs.nn (aM v.ns F.root) ⟨hF0,YV.2⟩
 by_cases e1:rV (ol v.T) J.aG=[]
 ·have hz:(nz (rV (ol v.T) J.aG))=none:=if_pos e1
  rw[show Nn 118 34 aI (rV (ol v.T) J.aG)=.v (.slice none 0 0) from if_pos e1] at aCl;have Wz:=kx aCl (bE hs.fT (.v _)) (.v _)
  by_cases e2:F=s.aU.fin
  ·rw[if_pos e2,hz] at hv;subst e2;simp only[ZG,seval,Bool.false_and,Prod.mk.injEq,sU,Js,dM,hs.tables,Wz,decide_true,decide_false];exact⟨_,fK rfl (by simp only[E8,seval,hf,pH,and_self]<;>rfl) (by simp only[Z8,seval,hf,pH,and_self]<;>rfl) (by simp only[dV,and_self,hf,pH,and_self]),by rw[hv];rfl⟩
  rw[if_neg e2,hz] at hv;obtain⟨Xa,en⟩:∃Xa,(jT v.ns (aM v.ns F.root) v.ns.length).1=Xa:=⟨_,rfl⟩
  have Gj:(Xa.length:Int)<1000000:=by have:=Wy (ns:=v.ns) (aM v.ns F.root);have:=hs.nn;rw[← en];omega
  unfold z8 at kp;rw[en] at kp hv;obtain⟨x,ex⟩:∃x,(Nd F.aG s.cFg.kE).1=x:=⟨_,rfl⟩
  rw[show (vO s F.aG).1=x from ex] at hv;by_cases e3:aM Xa s.eR<0
  ·rw[if_pos e3] at hv;obtain⟨S1,eS⟩:∃S1:aL,S1={ cFg:=s.cFg,gH:=s.gH,aU:=⟨J,F⟩,cD:=s.cD,tree:=⟨.sl Xa.length (bZ Xa)⟩,now:=s.now,eR:=dR,tables:=.v (.slice none 0 0)}:=⟨_,rfl⟩
   have hS:Flat (.agg (aA S1)):=by rw[eS];simp only[dV,pH,and_self]
   have Xb:=fun st d=>Vc S1 hS F.aG st d
   simp only[vO,eS,ex] at Xb
   simp only[ZG,seval,Bool.false_and,Prod.mk.injEq,sU,Js,dM,hs.tables,Wz,decide_true,decide_false,e2,hs.tree,mQ _ _ hs.nn,kp,mQ _ _ Gj,e3,Xb,hs.bK];have GO:S1.cD.bK=ov aF v.O:=by rw[eS];exact hs.bK
   refine jH (fun m st=>∃k:Nat,(st.env 3=.ptr 3 0 0∧st.heap 3 0=some (.cells (aA S1))∧st.env 6=.ptr 6 0 0∧st.heap 6 0=some (.cells (aA fZ))∧st.env 11=.v (.int .u64 x)∧st.env 14=.v (.int .i64 k))∧(((((ol v.O).take k).filter (fun b=>decide (x<b.slot)))=[]∧st.env 13=.v (.slice none 0 0))∨((((ol v.O).take k).filter (fun b=>decide (x<b.slot)))≠[]∧∃g,st.env 13=.own 99 g∧g<st.aQ 99∧st.heap 99 g=some (.row 74 238 (((ol v.O).take k).filter (fun b=>decide (x<b.slot))).length (aF (((ol v.O).take k).filter (fun b=>decide (x<b.slot)))))))∧k≤(ol v.O).length∧m=(ol v.O).length-k)
    (fun e st=>e=.exit 0∧(((((ol v.O).take (ol v.O).length).filter (fun b=>decide (x<b.slot)))=[]∧st.env 13=.v (.slice none 0 0))∨((((ol v.O).take (ol v.O).length).filter (fun b=>decide (x<b.slot)))≠[]∧∃g,st.env 13=.own 99 g∧g<st.aQ 99∧st.heap 99 g=some (.row 74 238 (((ol v.O).take (ol v.O).length).filter (fun b=>decide (x<b.slot))).length (aF (((ol v.O).take (ol v.O).length).filter (fun b=>decide (x<b.slot)))))))∧st.env 3=.ptr 3 0 0∧st.heap 3 0=some (.cells (aA S1))∧st.env 6=.ptr 6 0 0∧st.heap 6 0=some (.cells (aA fZ))∧st.env 11=.v (.int .u64 x)) ((ol v.O).length) ?step ?start ?rest
   case step =>
    rintro m st ⟨k,hI,h5,hk,hm⟩
    have Gk:(((((ol v.O).take k).filter (fun b=>decide (x<b.slot))).length:Nat):Int)<1000000:=by have:=List.length_filter_le (fun b=>decide (x<b.slot)) ((ol v.O).take k);have h2:=List.length_take_le' k (ol v.O);omega
    by_cases bA:(k:Int)<(ol v.O).length
    ·have q0:(0:Int)≤k:=by omega
     have hw:IntKind.i64.wrap ((k:Int)+1)=((k+1:Nat):Int):=by rw[mZ _ (by omega) (by omega)];omega
     have hs:=yP dY (fun b=>decide (x<b.slot)) (ol v.O) k (by omega)
     by_cases hh:x<(gx dY (ol v.O) (k:Int)).slot
     ·rw[if_pos (decide_eq_true hh)] at hs;rcases h5 with ⟨hy,h5⟩|⟨hy,g,h5⟩
      ·rw[hy] at hs;apply Am ((ol v.O).length-(k+1))
       ·simp only[ZG,seval,Bool.false_and,Prod.mk.injEq,hI,h5,bA,hw,q0,sU,GO,hh];rfl
       ·exact⟨k+1,by simp only[E8,seval,hI],.inr ⟨by rw[hs];simp,_,by simp only[E8,seval]<;>rfl,(by simp only[E8,seval]<;>omega),(by rw[hs];simp only[E8,seval]<;>rfl)⟩,by omega,rfl⟩
      ·apply Am ((ol v.O).length-(k+1))
       ·simp only[ZG,seval,Bool.false_and,Prod.mk.injEq,hI,h5,Gk,bA,hw,q0,sU,GO,hh];rfl
       ·exact⟨k+1,by simp only[E8,seval,hI],.inr ⟨by rw[hs];simp,_,by simp only[E8,seval]<;>rfl,(by simp only[E8,seval]<;>omega),(by rw[hs];simp only[E8,seval]<;>rfl)⟩,by omega,rfl⟩
     ·rw[if_neg (by simpa using hh),List.append_nil] at hs
      apply Am ((ol v.O).length-(k+1))
      ·simp only[ZG,seval,Bool.false_and,Prod.mk.injEq,hI,bA,hw,q0,sU,GO,hh];rfl
      ·exact⟨k+1,by simp only[E8,seval,hI],by rw[hs];simpa only[E8,seval] using h5,by omega,rfl⟩
    ·have Az:k=(ol v.O).length:=by omega
     rw[Az] at h5;apply AX (.exit 0)
     ·simp only[ZG,seval,Bool.false_and,Prod.mk.injEq,hI,bA,sU,GO];rfl
     ·exact⟨rfl,by simpa only[E8,seval] using h5,by simp only[E8,seval,hI]⟩
   case start=>exact⟨0,by simp only[E8,seval,eS]<;>rfl,.inl ⟨rfl,by simp only[E8,seval]⟩,by omega,by omega⟩
   case rest =>
    rintro e st ⟨rfl,⟨hy,h5⟩|⟨hy,g,h5,hg,Ak⟩,hI⟩
    ·rw[List.take_length] at hy;rw[show nz ((ol v.O).filter fun b=>decide (x<b.slot))=none from if_pos hy] at hv
     rw[eS] at hI;simp only[ZG,seval,Bool.false_and,Prod.mk.injEq,sU,h5,hI];exact⟨_,fK rfl (by simp only[E8,seval,hI,pH,and_self]<;>rfl) (by simp only[Z8,seval,hI,pH,and_self]<;>rfl) (by simp only[dV,and_self,hI,pH,and_self]),by rw[hv];rfl⟩
    ·rw[List.take_length] at hy Ak;rw[show nz ((ol v.O).filter fun b=>decide (x<b.slot))=some ((ol v.O).filter fun b=>decide (x<b.slot)) from if_neg hy] at hv
     rw[eS] at hI;simp only[ZG,seval,Bool.false_and,Prod.mk.injEq,sU,h5,Ak,hI];exact⟨_,by apply eG;rfl;all_goals simp only[aH,Z8,seval,hI,Ak,pH,bQ,gG,bP,cV,uG,dV]<;>rfl,by rw[hv];rfl⟩
  rw[if_neg e3] at hv;obtain⟨S1,eS⟩:∃S1:aL,S1={ cFg:=s.cFg,gH:=s.gH,aU:=⟨J,F⟩,cD:=s.cD,tree:=⟨.sl Xa.length (bZ Xa)⟩,now:=s.now,eR:=s.eR,tables:=.v (.slice none 0 0)}:=⟨_,rfl⟩
  have hS:Flat (.agg (aA S1)):=by rw[eS];simp only[dV,pH,and_self]
  have Xb:=fun st d=>Vc S1 hS F.aG st d
  simp only[vO,eS,ex] at Xb
  simp only[ZG,seval,Bool.false_and,Prod.mk.injEq,sU,Js,dM,hs.tables,Wz,decide_true,decide_false,e2,hs.tree,mQ _ _ hs.nn,kp,mQ _ _ Gj,e3,Xb,hs.bK];have GO:S1.cD.bK=ov aF v.O:=by rw[eS];exact hs.bK
  refine jH (fun m st=>∃k:Nat,(st.env 3=.ptr 3 0 0∧st.heap 3 0=some (.cells (aA S1))∧st.env 6=.ptr 6 0 0∧st.heap 6 0=some (.cells (aA fZ))∧st.env 11=.v (.int .u64 x)∧st.env 14=.v (.int .i64 k))∧(((((ol v.O).take k).filter (fun b=>decide (x<b.slot)))=[]∧st.env 13=.v (.slice none 0 0))∨((((ol v.O).take k).filter (fun b=>decide (x<b.slot)))≠[]∧∃g,st.env 13=.own 99 g∧g<st.aQ 99∧st.heap 99 g=some (.row 74 238 (((ol v.O).take k).filter (fun b=>decide (x<b.slot))).length (aF (((ol v.O).take k).filter (fun b=>decide (x<b.slot)))))))∧k≤(ol v.O).length∧m=(ol v.O).length-k)
   (fun e st=>e=.exit 0∧(((((ol v.O).take (ol v.O).length).filter (fun b=>decide (x<b.slot)))=[]∧st.env 13=.v (.slice none 0 0))∨((((ol v.O).take (ol v.O).length).filter (fun b=>decide (x<b.slot)))≠[]∧∃g,st.env 13=.own 99 g∧g<st.aQ 99∧st.heap 99 g=some (.row 74 238 (((ol v.O).take (ol v.O).length).filter (fun b=>decide (x<b.slot))).length (aF (((ol v.O).take (ol v.O).length).filter (fun b=>decide (x<b.slot)))))))∧st.env 3=.ptr 3 0 0∧st.heap 3 0=some (.cells (aA S1))∧st.env 6=.ptr 6 0 0∧st.heap 6 0=some (.cells (aA fZ))∧st.env 11=.v (.int .u64 x)) ((ol v.O).length) ?step ?start ?rest
  case step =>
   rintro m st ⟨k,hI,h5,hk,hm⟩
   have Gk:(((((ol v.O).take k).filter (fun b=>decide (x<b.slot))).length:Nat):Int)<1000000:=by have:=List.length_filter_le (fun b=>decide (x<b.slot)) ((ol v.O).take k);have h2:=List.length_take_le' k (ol v.O);omega
   by_cases bA:(k:Int)<(ol v.O).length
   ·have q0:(0:Int)≤k:=by omega
    have hw:IntKind.i64.wrap ((k:Int)+1)=((k+1:Nat):Int):=by rw[mZ _ (by omega) (by omega)];omega
    have hs:=yP dY (fun b=>decide (x<b.slot)) (ol v.O) k (by omega)
    by_cases hh:x<(gx dY (ol v.O) (k:Int)).slot
    ·rw[if_pos (decide_eq_true hh)] at hs;rcases h5 with ⟨hy,h5⟩|⟨hy,g,h5⟩
     ·rw[hy] at hs;apply Am ((ol v.O).length-(k+1))
      ·simp only[ZG,seval,Bool.false_and,Prod.mk.injEq,hI,h5,bA,hw,q0,sU,GO,hh];rfl
      ·exact⟨k+1,by simp only[E8,seval,hI],.inr ⟨by rw[hs];simp,_,by simp only[E8,seval]<;>rfl,(by simp only[E8,seval]<;>omega),(by rw[hs];simp only[E8,seval]<;>rfl)⟩,by omega,rfl⟩
     ·apply Am ((ol v.O).length-(k+1))
      ·simp only[ZG,seval,Bool.false_and,Prod.mk.injEq,hI,h5,Gk,bA,hw,q0,sU,GO,hh];rfl
      ·exact⟨k+1,by simp only[E8,seval,hI],.inr ⟨by rw[hs];simp,_,by simp only[E8,seval]<;>rfl,(by simp only[E8,seval]<;>omega),(by rw[hs];simp only[E8,seval]<;>rfl)⟩,by omega,rfl⟩
    ·rw[if_neg (by simpa using hh),List.append_nil] at hs
     apply Am ((ol v.O).length-(k+1))
     ·simp only[ZG,seval,Bool.false_and,Prod.mk.injEq,hI,bA,hw,q0,sU,GO,hh];rfl
     ·exact⟨k+1,by simp only[E8,seval,hI],by rw[hs];simpa only[E8,seval] using h5,by omega,rfl⟩
   ·have Az:k=(ol v.O).length:=by omega
    rw[Az] at h5;apply AX (.exit 0)
    ·simp only[ZG,seval,Bool.false_and,Prod.mk.injEq,hI,bA,sU,GO];rfl
    ·exact⟨rfl,by simpa only[E8,seval] using h5,by simp only[E8,seval,hI]⟩
  case start=>exact⟨0,by simp only[E8,seval,eS]<;>rfl,.inl ⟨rfl,by simp only[E8,seval]⟩,by omega,by omega⟩
  case rest =>
   rintro e st ⟨rfl,⟨hy,h5⟩|⟨hy,g,h5,hg,Ak⟩,hI⟩
   ·rw[List.take_length] at hy;rw[show nz ((ol v.O).filter fun b=>decide (x<b.slot))=none from if_pos hy] at hv
    rw[eS] at hI;simp only[ZG,seval,Bool.false_and,Prod.mk.injEq,sU,h5,hI];exact⟨_,fK rfl (by simp only[E8,seval,hI,pH,and_self]<;>rfl) (by simp only[Z8,seval,hI,pH,and_self]<;>rfl) (by simp only[dV,and_self,hI,pH,and_self]),by rw[hv];rfl⟩
   ·rw[List.take_length] at hy Ak;rw[show nz ((ol v.O).filter fun b=>decide (x<b.slot))=some ((ol v.O).filter fun b=>decide (x<b.slot)) from if_neg hy] at hv
    rw[eS] at hI;simp only[ZG,seval,Bool.false_and,Prod.mk.injEq,sU,h5,Ak,hI];exact⟨_,by apply eG;rfl;all_goals simp only[aH,Z8,seval,hI,Ak,pH,bQ,gG,bP,cV,uG,dV]<;>rfl,by rw[hv];rfl⟩
 ·have hz:(nz (rV (ol v.T) J.aG))=some (rV (ol v.T) J.aG):=if_neg e1
  rw[show Nn 118 34 aI (rV (ol v.T) J.aG)=.uniq 118 34 (rV (ol v.T) J.aG).length (aI (rV (ol v.T) J.aG)) from if_neg e1] at aCl;have Wz:∀(st:St),aN (aB Tryz.prog) 128 [ov aI v.T,.v (.int .u64 J.aG)] st (some 30)=_:=fun st=>jF (st:=st) (d:=30) (bE hs.fT (.v _)) aCl
  have SN:∀t∈rV (ol v.T) J.aG,Flat t.iP:=fun t m=>(hs.tB t (List.mem_filter.1 m).1).fl
  have hex:=Nr (rV (ol v.T) J.aG).length (rV (ol v.T) J.aG) SN
  by_cases e2:F=s.aU.fin
  ·rw[if_pos e2,hz] at hv;subst e2;simp only[ZG,seval,Bool.false_and,Prod.mk.injEq,sU,Js,dM,hs.tables,Wz,decide_true,decide_false];exact⟨_,by apply eG;rfl;all_goals simp only[aH,Z8,seval,pH,bQ,gG,bP,cV,hex]<;>rfl,by rw[hv];rfl⟩
  rw[if_neg e2,hz] at hv;obtain⟨Xa,en⟩:∃Xa,(jT v.ns (aM v.ns F.root) v.ns.length).1=Xa:=⟨_,rfl⟩
  have Gj:(Xa.length:Int)<1000000:=by have:=Wy (ns:=v.ns) (aM v.ns F.root);have:=hs.nn;rw[← en];omega
  unfold z8 at kp;rw[en] at kp hv;obtain⟨x,ex⟩:∃x,(Nd F.aG s.cFg.kE).1=x:=⟨_,rfl⟩
  rw[show (vO s F.aG).1=x from ex] at hv;by_cases e3:aM Xa s.eR<0
  ·rw[if_pos e3] at hv;obtain⟨S1,eS⟩:∃S1:aL,S1={ cFg:=s.cFg,gH:=s.gH,aU:=⟨J,F⟩,cD:=s.cD,tree:=⟨.sl Xa.length (bZ Xa)⟩,now:=s.now,eR:=dR,tables:=.own 30 0 }:=⟨_,rfl⟩
   have hS:∀st:St,st.heap 30 0=some (.row 118 34 (rV (ol v.T) J.aG).length (aI (rV (ol v.T) J.aG)))→fO st (.agg (aA S1))=some (.agg (aA { S1 with tables:=.sl (rV (ol v.T) J.aG).length (aI (rV (ol v.T) J.aG))})):=by
    intro st h;rw[eS];simp only[bQ,gG,bP,h,hex,cV,dV,pH,cK]
   have Xb:∀(st:St) (d:Option Nat),st.heap 30 0=some (.row 118 34 (rV (ol v.T) J.aG).length (aI (rV (ol v.T) J.aG)))→aN (aB Tryz.prog) 99 [.agg (aA S1),.v (.int .u64 F.aG)] st d=some { dst:=d,val:=.eE [.v (.int .u64 (vO S1 F.aG).1),.v (.bool ((vO S1 F.aG).2 == 0))]}:=by
    intro st d h;rw[jS,List.map_cons,List.map_cons,List.map_nil,hS st h,Lf,bN,bN,fR];exact A4 (c99 _ F.aG) (by intro x hx;simp only[List.mem_cons,List.not_mem_nil,or_false] at hx;rcases hx with rfl|rfl<;>exact .v _) (.eE _ (bE (.v _) (.v _)))
   simp only[vO,eS,ex] at Xb
   simp only[ZG,seval,Bool.false_and,Prod.mk.injEq,sU,Js,dM,hs.tables,Wz,decide_true,decide_false,e2,hs.tree,mQ _ _ hs.nn,kp,mQ _ _ Gj,e3,Xb,hs.bK];have GO:S1.cD.bK=ov aF v.O:=by rw[eS];exact hs.bK
   refine jH (fun m st=>∃k:Nat,(st.env 3=.ptr 3 0 0∧st.heap 3 0=some (.cells (aA S1))∧st.env 6=.ptr 6 0 0∧st.heap 6 0=some (.cells (aA fZ))∧st.env 11=.v (.int .u64 x)∧st.heap 30 0=some (.row 118 34 (rV (ol v.T) J.aG).length (aI (rV (ol v.T) J.aG)))∧st.env 14=.v (.int .i64 k))∧(((((ol v.O).take k).filter (fun b=>decide (x<b.slot)))=[]∧st.env 13=.v (.slice none 0 0))∨((((ol v.O).take k).filter (fun b=>decide (x<b.slot)))≠[]∧∃g,st.env 13=.own 99 g∧g<st.aQ 99∧st.heap 99 g=some (.row 74 238 (((ol v.O).take k).filter (fun b=>decide (x<b.slot))).length (aF (((ol v.O).take k).filter (fun b=>decide (x<b.slot)))))))∧k≤(ol v.O).length∧m=(ol v.O).length-k)
    (fun e st=>e=.exit 0∧(((((ol v.O).take (ol v.O).length).filter (fun b=>decide (x<b.slot)))=[]∧st.env 13=.v (.slice none 0 0))∨((((ol v.O).take (ol v.O).length).filter (fun b=>decide (x<b.slot)))≠[]∧∃g,st.env 13=.own 99 g∧g<st.aQ 99∧st.heap 99 g=some (.row 74 238 (((ol v.O).take (ol v.O).length).filter (fun b=>decide (x<b.slot))).length (aF (((ol v.O).take (ol v.O).length).filter (fun b=>decide (x<b.slot)))))))∧st.env 3=.ptr 3 0 0∧st.heap 3 0=some (.cells (aA S1))∧st.env 6=.ptr 6 0 0∧st.heap 6 0=some (.cells (aA fZ))∧st.env 11=.v (.int .u64 x)∧st.heap 30 0=some (.row 118 34 (rV (ol v.T) J.aG).length (aI (rV (ol v.T) J.aG)))) ((ol v.O).length) ?step ?start ?rest
   case step =>
    rintro m st ⟨k,hI,h5,hk,hm⟩
    have Gk:(((((ol v.O).take k).filter (fun b=>decide (x<b.slot))).length:Nat):Int)<1000000:=by have:=List.length_filter_le (fun b=>decide (x<b.slot)) ((ol v.O).take k);have h2:=List.length_take_le' k (ol v.O);omega
    by_cases bA:(k:Int)<(ol v.O).length
    ·have q0:(0:Int)≤k:=by omega
     have hw:IntKind.i64.wrap ((k:Int)+1)=((k+1:Nat):Int):=by rw[mZ _ (by omega) (by omega)];omega
     have hs:=yP dY (fun b=>decide (x<b.slot)) (ol v.O) k (by omega)
     by_cases hh:x<(gx dY (ol v.O) (k:Int)).slot
     ·rw[if_pos (decide_eq_true hh)] at hs;rcases h5 with ⟨hy,h5⟩|⟨hy,g,h5⟩
      ·rw[hy] at hs;apply Am ((ol v.O).length-(k+1))
       ·simp only[ZG,seval,Bool.false_and,Prod.mk.injEq,hI,h5,bA,hw,q0,sU,GO,hh];rfl
       ·exact⟨k+1,by simp only[E8,seval,hI],.inr ⟨by rw[hs];simp,_,by simp only[E8,seval]<;>rfl,(by simp only[E8,seval]<;>omega),(by rw[hs];simp only[E8,seval]<;>rfl)⟩,by omega,rfl⟩
      ·apply Am ((ol v.O).length-(k+1))
       ·simp only[ZG,seval,Bool.false_and,Prod.mk.injEq,hI,h5,Gk,bA,hw,q0,sU,GO,hh];rfl
       ·exact⟨k+1,by simp only[E8,seval,hI],.inr ⟨by rw[hs];simp,_,by simp only[E8,seval]<;>rfl,(by simp only[E8,seval]<;>omega),(by rw[hs];simp only[E8,seval]<;>rfl)⟩,by omega,rfl⟩
     ·rw[if_neg (by simpa using hh),List.append_nil] at hs
      apply Am ((ol v.O).length-(k+1))
      ·simp only[ZG,seval,Bool.false_and,Prod.mk.injEq,hI,bA,hw,q0,sU,GO,hh];rfl
      ·exact⟨k+1,by simp only[E8,seval,hI],by rw[hs];simpa only[E8,seval] using h5,by omega,rfl⟩
    ·have Az:k=(ol v.O).length:=by omega
     rw[Az] at h5;apply AX (.exit 0)
     ·simp only[ZG,seval,Bool.false_and,Prod.mk.injEq,hI,bA,sU,GO];rfl
     ·exact⟨rfl,by simpa only[E8,seval] using h5,by simp only[E8,seval,hI]⟩
   case start=>exact⟨0,by simp only[E8,seval,eS]<;>rfl,.inl ⟨rfl,by simp only[E8,seval]⟩,by omega,by omega⟩
   case rest =>
    rintro e st ⟨rfl,⟨hy,h5⟩|⟨hy,g,h5,hg,Ak⟩,hI⟩
    ·rw[List.take_length] at hy;rw[show nz ((ol v.O).filter fun b=>decide (x<b.slot))=none from if_pos hy] at hv
     rw[eS] at hI;simp only[ZG,seval,Bool.false_and,Prod.mk.injEq,sU,h5,hI];exact⟨_,by apply eG;rfl;all_goals simp only[aH,Z8,seval,hI,pH,bQ,gG,bP,cV,uG,dV,hex]<;>rfl,by rw[hv];rfl⟩
    ·rw[List.take_length] at hy Ak;rw[show nz ((ol v.O).filter fun b=>decide (x<b.slot))=some ((ol v.O).filter fun b=>decide (x<b.slot)) from if_neg hy] at hv
     rw[eS] at hI;simp only[ZG,seval,Bool.false_and,Prod.mk.injEq,sU,h5,Ak,hI];exact⟨_,by apply eG;rfl;all_goals simp only[aH,Z8,seval,hI,Ak,pH,bQ,gG,bP,cV,uG,dV,hex]<;>rfl,by rw[hv];rfl⟩
  rw[if_neg e3] at hv;obtain⟨S1,eS⟩:∃S1:aL,S1={ cFg:=s.cFg,gH:=s.gH,aU:=⟨J,F⟩,cD:=s.cD,tree:=⟨.sl Xa.length (bZ Xa)⟩,now:=s.now,eR:=s.eR,tables:=.own 30 0 }:=⟨_,rfl⟩
  have hS:∀st:St,st.heap 30 0=some (.row 118 34 (rV (ol v.T) J.aG).length (aI (rV (ol v.T) J.aG)))→fO st (.agg (aA S1))=some (.agg (aA { S1 with tables:=.sl (rV (ol v.T) J.aG).length (aI (rV (ol v.T) J.aG))})):=by
   intro st h;rw[eS];simp only[bQ,gG,bP,h,hex,cV,dV,pH,cK]
  have Xb:∀(st:St) (d:Option Nat),st.heap 30 0=some (.row 118 34 (rV (ol v.T) J.aG).length (aI (rV (ol v.T) J.aG)))→aN (aB Tryz.prog) 99 [.agg (aA S1),.v (.int .u64 F.aG)] st d=some { dst:=d,val:=.eE [.v (.int .u64 (vO S1 F.aG).1),.v (.bool ((vO S1 F.aG).2 == 0))]}:=by
   intro st d h;rw[jS,List.map_cons,List.map_cons,List.map_nil,hS st h,Lf,bN,bN,fR];exact A4 (c99 _ F.aG) (by intro x hx;simp only[List.mem_cons,List.not_mem_nil,or_false] at hx;rcases hx with rfl|rfl<;>exact .v _) (.eE _ (bE (.v _) (.v _)))
  simp only[vO,eS,ex] at Xb
  simp only[ZG,seval,Bool.false_and,Prod.mk.injEq,sU,Js,dM,hs.tables,Wz,decide_true,decide_false,e2,hs.tree,mQ _ _ hs.nn,kp,mQ _ _ Gj,e3,Xb,hs.bK];have GO:S1.cD.bK=ov aF v.O:=by rw[eS];exact hs.bK
  refine jH (fun m st=>∃k:Nat,(st.env 3=.ptr 3 0 0∧st.heap 3 0=some (.cells (aA S1))∧st.env 6=.ptr 6 0 0∧st.heap 6 0=some (.cells (aA fZ))∧st.env 11=.v (.int .u64 x)∧st.heap 30 0=some (.row 118 34 (rV (ol v.T) J.aG).length (aI (rV (ol v.T) J.aG)))∧st.env 14=.v (.int .i64 k))∧(((((ol v.O).take k).filter (fun b=>decide (x<b.slot)))=[]∧st.env 13=.v (.slice none 0 0))∨((((ol v.O).take k).filter (fun b=>decide (x<b.slot)))≠[]∧∃g,st.env 13=.own 99 g∧g<st.aQ 99∧st.heap 99 g=some (.row 74 238 (((ol v.O).take k).filter (fun b=>decide (x<b.slot))).length (aF (((ol v.O).take k).filter (fun b=>decide (x<b.slot)))))))∧k≤(ol v.O).length∧m=(ol v.O).length-k)
   (fun e st=>e=.exit 0∧(((((ol v.O).take (ol v.O).length).filter (fun b=>decide (x<b.slot)))=[]∧st.env 13=.v (.slice none 0 0))∨((((ol v.O).take (ol v.O).length).filter (fun b=>decide (x<b.slot)))≠[]∧∃g,st.env 13=.own 99 g∧g<st.aQ 99∧st.heap 99 g=some (.row 74 238 (((ol v.O).take (ol v.O).length).filter (fun b=>decide (x<b.slot))).length (aF (((ol v.O).take (ol v.O).length).filter (fun b=>decide (x<b.slot)))))))∧st.env 3=.ptr 3 0 0∧st.heap 3 0=some (.cells (aA S1))∧st.env 6=.ptr 6 0 0∧st.heap 6 0=some (.cells (aA fZ))∧st.env 11=.v (.int .u64 x)∧st.heap 30 0=some (.row 118 34 (rV (ol v.T) J.aG).length (aI (rV (ol v.T) J.aG)))) ((ol v.O).length) ?step ?start ?rest
  case step =>
   rintro m st ⟨k,hI,h5,hk,hm⟩
   have Gk:(((((ol v.O).take k).filter (fun b=>decide (x<b.slot))).length:Nat):Int)<1000000:=by have:=List.length_filter_le (fun b=>decide (x<b.slot)) ((ol v.O).take k);have h2:=List.length_take_le' k (ol v.O);omega
   by_cases bA:(k:Int)<(ol v.O).length
   ·have q0:(0:Int)≤k:=by omega
    have hw:IntKind.i64.wrap ((k:Int)+1)=((k+1:Nat):Int):=by rw[mZ _ (by omega) (by omega)];omega
    have hs:=yP dY (fun b=>decide (x<b.slot)) (ol v.O) k (by omega)
    by_cases hh:x<(gx dY (ol v.O) (k:Int)).slot
    ·rw[if_pos (decide_eq_true hh)] at hs;rcases h5 with ⟨hy,h5⟩|⟨hy,g,h5⟩
     ·rw[hy] at hs;apply Am ((ol v.O).length-(k+1))
      ·simp only[ZG,seval,Bool.false_and,Prod.mk.injEq,hI,h5,bA,hw,q0,sU,GO,hh];rfl
      ·exact⟨k+1,by simp only[E8,seval,hI],.inr ⟨by rw[hs];simp,_,by simp only[E8,seval]<;>rfl,(by simp only[E8,seval]<;>omega),(by rw[hs];simp only[E8,seval]<;>rfl)⟩,by omega,rfl⟩
     ·apply Am ((ol v.O).length-(k+1))
      ·simp only[ZG,seval,Bool.false_and,Prod.mk.injEq,hI,h5,Gk,bA,hw,q0,sU,GO,hh];rfl
      ·exact⟨k+1,by simp only[E8,seval,hI],.inr ⟨by rw[hs];simp,_,by simp only[E8,seval]<;>rfl,(by simp only[E8,seval]<;>omega),(by rw[hs];simp only[E8,seval]<;>rfl)⟩,by omega,rfl⟩
    ·rw[if_neg (by simpa using hh),List.append_nil] at hs
     apply Am ((ol v.O).length-(k+1))
     ·simp only[ZG,seval,Bool.false_and,Prod.mk.injEq,hI,bA,hw,q0,sU,GO,hh];rfl
     ·exact⟨k+1,by simp only[E8,seval,hI],by rw[hs];simpa only[E8,seval] using h5,by omega,rfl⟩
   ·have Az:k=(ol v.O).length:=by omega
    rw[Az] at h5;apply AX (.exit 0)
    ·simp only[ZG,seval,Bool.false_and,Prod.mk.injEq,hI,bA,sU,GO];rfl
    ·exact⟨rfl,by simpa only[E8,seval] using h5,by simp only[E8,seval,hI]⟩
  case start=>exact⟨0,by simp only[E8,seval,eS]<;>rfl,.inl ⟨rfl,by simp only[E8,seval]⟩,by omega,by omega⟩
  case rest =>
   rintro e st ⟨rfl,⟨hy,h5⟩|⟨hy,g,h5,hg,Ak⟩,hI⟩
   ·rw[List.take_length] at hy;rw[show nz ((ol v.O).filter fun b=>decide (x<b.slot))=none from if_pos hy] at hv
    rw[eS] at hI;simp only[ZG,seval,Bool.false_and,Prod.mk.injEq,sU,h5,hI];exact⟨_,by apply eG;rfl;all_goals simp only[aH,Z8,seval,hI,pH,bQ,gG,bP,cV,uG,dV,hex]<;>rfl,by rw[hv];rfl⟩
   ·rw[List.take_length] at hy Ak;rw[show nz ((ol v.O).filter fun b=>decide (x<b.slot))=some ((ol v.O).filter fun b=>decide (x<b.slot)) from if_neg hy] at hv
    rw[eS] at hI;simp only[ZG,seval,Bool.false_and,Prod.mk.injEq,sU,h5,Ak,hI];exact⟨_,by apply eG;rfl;all_goals simp only[aH,Z8,seval,hI,Ak,pH,bQ,gG,bP,cV,uG,dV,hex]<;>rfl,by rw[hv];rfl⟩
theorem k61 {s:aL} {v:SV} (hs:SD s v) (hu:gM v.ns) (hp:s.cFg.kE≠0) (c1 c2:dP) (st:St) (d:Option Nat):aN (aB Tryz.prog) 61 [.agg (aA s),.agg (aY c1),.agg (aY c2)] st d=some { dst:=d,val:=.agg (aA (uU s v c1 c2))}:=bG (mD hs.flat (.agg _ (bM c1)) (.agg _ (bM c2))) (c61 hs hu hp c1 c2) (hs.dQ hu c1 c2).flat
theorem Bf {α:Type} (s g:Nat) (cs:List α→List AV) (o:Option (List α)):fJ (.own s g) (ov cs o)=True:=by cases o<;>rfl
theorem Bg {α:Type} (s g:Nat) (cs:List α→List AV) (o:Option (List α)):fJ (ov cs o) (.own s g)=True:=by cases o<;>rfl
theorem Hc {α:Type} (s g n:Nat) (cs:List α→List AV) (o:Option (List α)):fJ (.ptr s g n) (ov cs o)=True:=by cases o<;>rfl
theorem Hd {α:Type} (s g n:Nat) (cs:List α→List AV) (o:Option (List α)):fJ (ov cs o) (.ptr s g n)=True:=by cases o<;>rfl
theorem aKU (t:Table) (b:Option (List Int)) (hb:t.iP=ov bJ b) (hl:((ol b).length:Int)<1000000):aB Tryz.prog 158 [.agg (cA t)]=some (.agg (cA ⟨t.ck,ov bJ (some (ol b))⟩)):=by
 rw[cL Tryz.func158 rfl aKV rfl];refine iN ?_
 simp only[Z8,seval,hb,Ek _ hl];exact⟨_,by apply eG;rfl;all_goals simp only[aH,Z8,seval,bQ,tH,bP,uH]<;>rfl,rfl⟩
def aQd (o:Option (List Table)) (t':Table) (L:List Table):Prop:=L.length=(ol o).length+1∧(∀x∈L,x∈ol o∨x=t')∧∀x∈ol o,x∈L
theorem aQe (o:Option (List Table)) (hn:((ol o).length:Int)<999999) (hT:∀x∈ol o,Flat x.iP) (t:Table) (b:Option (List Int)) (hb:t.iP=ov bJ b) (hl:((ol b).length:Int)<1000000) :
 ∃r,aB Tryz.prog 195 [ov aI o,.agg (cA t)]=some r∧∃L,aQd o ⟨t.ck,ov bJ (some (ol b))⟩ L∧r=.uniq 118 34 L.length (aI L):=by
 have hfT:Flat (.agg (cA t)):=(iE t).2 (by rw[hb];exact dU b)
 have hf2:Flat (.agg (cA ⟨t.ck,ov bJ (some (ol b))⟩)):=(iE _).2 (dU (some (ol b)))
 have hto:=fY o hT
 have aGh:=kx (aKU t b hb hl) (cU hfT) hf2
 rw[cG Tryz.func195 rfl aKX (by kernel_rfl) (by cases o<;>rfl)]
 simp only[ZG,seval,Bool.false_and,Prod.mk.injEq,ME];refine jH (fun m st=>∃k:Nat,(st.env 0=ov aI o∧st.env 3=.ptr 3 0 0∧st.heap 3 0=some (.cells (cA t))∧st.env 5=.v (.int .i64 k))∧k≤(ol o).length∧m=(ol o).length-k)
  (fun e st=>e=.exit 0∧∃k:Nat,(st.env 0=ov aI o∧st.env 3=.ptr 3 0 0∧st.heap 3 0=some (.cells (cA t))∧st.env 5=.v (.int .i64 k))∧k≤(ol o).length) (ol o).length ?step ?start ?rest
 case step =>
  rintro m st ⟨k,hI,hk,hm⟩
  by_cases bA:(k:Int)<(ol o).length
  ·have q0:(0:Int)≤k:=by omega
   have hw:IntKind.i64.wrap ((k:Int)+1)=((k+1:Nat):Int):=by rw[mZ _ (by omega) (by omega)];omega
   by_cases h1:aKQ (gx dX (ol o) (k:Int)).ck t.ck<0
   ·apply Am ((ol o).length-(k+1))
    ·simp only[ZG,seval,Bool.false_and,Prod.mk.injEq,ME,hI,bA,q0,aKR,h1,hw];rfl
    ·exact⟨k+1,by simp only[E8,seval,hI],by omega,rfl⟩
   ·apply AX (.exit 0)
    ·simp only[ZG,seval,Bool.false_and,Prod.mk.injEq,ME,hI,bA,q0,aKR,h1];rfl
    ·exact⟨rfl,k,by simp only[E8,seval,hI],hk⟩
  ·apply AX (.exit 0)
   ·simp only[ZG,seval,Bool.false_and,Prod.mk.injEq,ME,hI,bA];rfl
   ·exact⟨rfl,k,by simp only[E8,seval,hI],hk⟩
 case start=>exact⟨0,by simp only[E8,seval]<;>rfl,by omega,by omega⟩
 case rest =>
  rintro e st ⟨rfl,k,hI,hk⟩
  have e1:ol (o.map (·.take k))=(ol o).take k:=by cases o<;>simp[ol]
  have e2:ol (o.map (·.drop k))=(ol o).drop k:=by cases o<;>simp[ol]
  have n1:(((ol (o.map (·.take k))).length:Nat):Int)<1000000:=by rw[e1,List.length_take];omega
  have n2:(((ol (o.map (·.drop k))).length:Nat):Int)<1000000:=by rw[e2,List.length_drop];omega
  have n3:(((ol (o.map (·.take k))++[(⟨t.ck,ov bJ (some (ol b))⟩:Table)]).length:Nat):Int)<1000000:=by rw[List.length_append,e1,List.length_take];simp;omega
  have q0:(0:Int)≤k:=by omega
  have q1:(k:Int)≤((ol o).length:Int):=by omega
  have hr:∀x∈aI (ol (o.map (·.take k))++[(⟨t.ck,ov bJ (some (ol b))⟩:Table)]++ol (o.map (·.drop k))),Flat x:=by
   refine jV _ fun x m=>?_
   rw[e1,e2] at m;rcases List.mem_append.1 m with m|m
   ·rcases List.mem_append.1 m with m|m
    ·exact hT x (List.mem_of_mem_take m)
    ·rw[List.mem_singleton.1 m];exact dU (some (ol b))
   ·exact hT x (List.mem_of_mem_drop m)
  simp only[ZG,seval,Bool.false_and,Prod.mk.injEq,ME,Bf,Bg,and_self,hI,q0,q1,Int.toNat_natCast,aGh,EJ _ n1,Qn _ _ _ _ n1,EK _ _ _ _ n3 n2];refine⟨_,tO rfl (by simp only[E8,seval]<;>rfl) (by simp only[E8,seval]<;>rfl) hr,_,⟨?_,fun x m=>?_,fun x m=>?_⟩,rfl⟩
  ·rw[e1,e2,List.length_append,List.length_append,List.length_take,List.length_drop];simp;omega
  ·rw[e1,e2] at m;rcases List.mem_append.1 m with m|m
   ·rcases List.mem_append.1 m with m|m
    ·exact .inl (List.mem_of_mem_take m)
    ·exact .inr (List.mem_singleton.1 m)
   ·exact .inl (List.mem_of_mem_drop m)
  ·rw[e1,e2];rw[← List.take_append_drop k (ol o)] at m;rcases List.mem_append.1 m with m|m
   ·exact List.mem_append_left _ (List.mem_append_left _ m)
   ·exact List.mem_append_right _ m
theorem aQg (o:Option (List Table)) (hn:((ol o).length:Int)<999999) (hT:∀x∈ol o,qJ x) (t:Table) (ht:qJ t) (n lG:Int) :
 ∃r,aB Tryz.prog 172 [ov aI o,.agg (cA t),.v (.int .i64 n),.v (.int .i64 lG)]=some r∧∃o' e,r=.eE [ov aI o',.v (.int .i64 e)]∧e≠21∧((ol o').length:Int)≤max ((ol o).length:Int) lG∧(∀x∈ol o',qJ x)∧(ol o ⊆ ol o')∧(e=0→o'≠some []∧∀x∈ol o',x∈ol o∨∃B,x.iP=ov bJ (some B)∧(B.length:Int)=n):=by
 obtain⟨b,hb,hl⟩:=id ht
 have hfT:Flat (.agg (cA t)):=(iE t).2 ht.fl
 have hto:=fY o fun x m=>(hT x m).fl
 obtain⟨r,hr,e,rfl,he,hlen⟩:=aEV t b hb hl n
 have GP:=kx hr (bE hfT (.v _)) (.v _)
 have Gj:((ol o).length:Int)<1000000:=by omega
 have aGi:=SL o Gj hto
 rw[cL Tryz.func172 rfl aKY (by cases o<;>rfl)]
 by_cases g1:e=0
 case neg =>
  simp only[Z8,seval,GP,bf g1,nC _ _ fun x m=>(hT x m).fl]
  exact⟨_,dK rfl rfl rfl (by simp only[E8,seval,nC _ _ fun x m=>(hT x m).fl]<;>rfl) (by simp only[E8,seval,nC _ _ fun x m=>(hT x m).fl]<;>rfl),o,e,rfl,he,by omega,hT,fun x m=>m,fun h=>absurd h g1⟩
 by_cases g2:0≤Ja (ol o) t.ck
 ·simp only[Z8,seval,GP,bt g1,aGi,g2];exact⟨_,dK rfl rfl rfl (by simp only[E8,seval,nC _ _ fun x m=>(hT x m).fl]<;>rfl) (by simp only[E8,seval,nC _ _ fun x m=>(hT x m).fl]<;>rfl),o,9,rfl,by decide,by omega,hT,fun x m=>m,fun h=>by cases h⟩
 by_cases g3:lG≤((ol o).length:Int)
 ·simp only[Z8,seval,GP,bt g1,aGi,g2,g3];exact⟨_,dK rfl rfl rfl (by simp only[E8,seval,nC _ _ fun x m=>(hT x m).fl]<;>rfl) (by simp only[E8,seval,nC _ _ fun x m=>(hT x m).fl]<;>rfl),o,11,rfl,by decide,by omega,hT,fun x m=>m,fun h=>by cases h⟩
 obtain⟨r2,hr2,L,⟨Sx,hL2,hL3⟩,rfl⟩:=aQe o hn (fun x m=>(hT x m).fl) t b hb hl
 have hTL:∀x∈L,qJ x:=fun x m=>(hL2 x m).elim (hT x) fun e=>by rw[e];exact⟨some (ol b),rfl,hl⟩
 have k195:∀(st:St),aN (aB Tryz.prog) 195 [ov aI o,.agg (cA t)] st (some 31)=_:=fun st=>jF (st:=st) (d:=31) (bE hto hfT) hr2
 have hex:=Nr L.length L fun x m=>(hTL x m).fl
 simp only[Z8,seval,GP,bt g1,aGi,g2,g3,k195];exact⟨_,dK rfl rfl rfl (by simp only[E8,seval,hex]<;>rfl) (by simp only[E8,seval,hex]<;>rfl),some L,0,rfl,by decide,by show ((L.length:Nat):Int)≤_;omega,hTL,hL3,fun _=>⟨fun e=>by injection e with e;rw[e] at Sx;simp at Sx,fun x m=>(hL2 x m).imp id fun e=>by rw[e];exact⟨ol b,rfl,hlen g1⟩⟩⟩
theorem aKZ {s:aL} {v:SV} (hs:SD s v) (hn:((ol v.T).length:Int)<999999) (t:Table) (ht:qJ t) :
 ∃r,aB Tryz.prog 117 [.agg (aA s),.agg (cA t)]=some r∧∃s' e,r=.eE [.agg (aA s'),.v (.int .i64 e)]∧Flat (.agg (aA s'))∧e≠21∧(e=0→∃o',s'={ s with tables:=ov aI o' }∧((ol o').length:Int)≤max ((ol v.T).length:Int) s.cFg.lG.qC∧(∀x∈ol o',qJ x)∧(ol v.T ⊆ ol o')∧o'≠some []∧∀x∈ol o',x∈ol v.T∨∃B,x.iP=ov bJ (some B)∧(B.length:Int)=(ol v.B).length):=by
 have hf:=hs.flat
 have pH:=hs.fl
 have hfT:Flat (.agg (cA t)):=(iE t).2 ht.fl
 have hz:Flat (.agg (aA fZ)):=by simp only[dV,fZ,mO,Lg,El,Qo,and_self]
 obtain⟨r,hr,e,rfl,he⟩:=aP4 t ht (ol v.B).length
 have GP:=kx hr (bE hfT (.v _)) (.v _)
 obtain⟨r2,hr2,o',e2,rfl,he2,Tx,hT2,hsub,hne2⟩:=aQg v.T hn hs.tB t ht (ol v.B).length s.cFg.lG.qC
 have hf2:Flat (ov aI o'):=fY o' fun x m=>(hT2 x m).fl
 have k172:=kx hr2 (by simp only[List.mem_cons,List.not_mem_nil,or_false,forall_eq_or_imp,forall_eq,aF7,and_true];exact⟨hs.fT,hfT⟩) (.eE _ (bE hf2 (.v _)))
 rw[cL Tryz.func117 rfl aK0 rfl];by_cases g1:e=0
 case neg =>
  simp only[Z8,seval,Wu hs,GP,bf g1];exact⟨_,by apply dK;rfl;all_goals simp only[aH,bY,Z8,seval,hz]<;>rfl,fZ,e,rfl,hz,he,fun h=>absurd h g1⟩
 by_cases g2:t.ck.aG<s.aU.gJ.aG
 ·simp only[Z8,seval,Wu hs,GP,bt g1,g2];exact⟨_,by apply dK;rfl;all_goals simp only[aH,bY,Z8,seval,hz]<;>rfl,fZ,13,rfl,hz,by decide,fun h=>by cases h⟩
 by_cases g3:e2=0
 case neg =>
  simp only[Z8,seval,Wu hs,GP,bt g1,g2,hs.tables,k172,dM,bf g3];exact⟨_,by apply dK;rfl;all_goals simp only[aH,bY,Z8,seval,hz]<;>rfl,fZ,e2,rfl,hz,he2,fun h=>absurd h g3⟩
 ·have hf3:Flat (.agg (aA { s with tables:=ov aI o' })):=by simp only[dV,pH,hf2,and_self]
  simp only[Z8,seval,Wu hs,GP,bt g1,g2,hs.tables,k172,dM,bt g3];exact⟨_,by apply dK;rfl;all_goals simp only[aH,bY,Z8,seval,hf3]<;>rfl,_,0,rfl,hf3,by decide,fun _=>⟨o',rfl,Tx,hT2,hsub,hne2 g3⟩⟩
noncomputable def BH (v:SV):Int:=uF (fun k=>0≤aM v.ns (gx dY (ol v.O) k).parent) (ol v.O).length
theorem aK1 {s:aL} {v:SV} (hs:SD s v):aB Tryz.prog 218 [.agg (aA s)]=some (.v (.int .i64 (BH v))):=by
 have hn:=hs.nO
 rw[cL Tryz.func218 rfl aK2 rfl];refine iN ?_
 simp only[Z8,seval,hs.bK];refine cF (fun m st=>∃k:Nat,(st.env 1=.ptr 1 0 0∧st.heap 1 0=some (.cells (aA s))∧st.env 3=.v (.int .i64 k))∧(∀j:Nat,j<k→¬(0≤aM v.ns (gx dY (ol v.O) (j:Int)).parent))∧k≤(ol v.O).length∧m=(ol v.O).length-k)
  (fun e st=>(e=.ret∧∃k:Nat,k<(ol v.O).length∧(0≤aM v.ns (gx dY (ol v.O) (k:Int)).parent)∧(∀j:Nat,j<k→¬(0≤aM v.ns (gx dY (ol v.O) (j:Int)).parent))∧st.env 2=.v (.int .i64 (k:Nat)))∨(e=.exit 0∧(∀j:Nat,j<(ol v.O).length→¬(0≤aM v.ns (gx dY (ol v.O) (j:Int)).parent))∧st.env 1=.ptr 1 0 0∧st.heap 1 0=some (.cells (aA s)))) ((ol v.O).length) ?step ?start ?rest
 case step =>
  rintro m st ⟨k,hI,hj,hk,hm⟩
  by_cases bA:(k:Int)<(ol v.O).length
  ·have q0:(0:Int)≤k:=by omega
   have hw:IntKind.i64.wrap ((k:Int)+1)=((k+1:Nat):Int):=by rw[mZ _ (by omega) (by omega)];omega
   by_cases hh:0≤aM v.ns (gx dY (ol v.O) (k:Int)).parent
   ·apply oT (.ret)
    ·simp only[Z8,seval,hI,bA,q0,hs.bK,hs.tree,mQ _ _ hs.nn,hh];rfl
    ·exact .inl ⟨rfl,k,by omega,hh,hj,by simp only[E8,seval,hs.bK,hs.tree,mQ _ _ hs.nn]⟩
   ·apply oN ((ol v.O).length-(k+1))
    ·simp only[Z8,seval,hI,bA,q0,hs.bK,hs.tree,mQ _ _ hs.nn,hh,hw];rfl
    ·exact⟨k+1,by simp only[E8,seval,hI],fun j h=>(Nat.lt_succ_iff_lt_or_eq.1 h).elim (hj j) fun e=>by subst e;exact hh,by omega,rfl⟩
  ·apply oT (.exit 0)
   ·simp only[Z8,seval,hI,bA,hs.bK,hs.tree,mQ _ _ hs.nn];rfl
   ·exact .inr ⟨rfl,fun j h=>hj j (by omega),by simp only[E8,seval,hI]⟩
 case start=>exact⟨0,by simp only[E8,seval]<;>rfl,fun j h=>by omega,by omega,by omega⟩
 case rest =>
  rintro e st (⟨rfl,k,hk,hh,hj,h⟩|⟨rfl,hj,hI⟩)
  ·have hv:BH v=k:=Bd hh hj _ hk
   simp only[Z8,seval];exact⟨_,bX rfl (by simp only[E8,seval,h]<;>rfl) (by first|exact .v _|simp only[dV,h]),by rw[hv]⟩
  ·have hv:BH v=-1:=tG _ hj
   simp only[Z8,seval];exact⟨_,bX rfl (by simp only[E8,seval]<;>rfl) (by first|exact .v _|simp only[dV]),by rw[hv]⟩
theorem MF {s:aL} {v:SV} (hs:SD s v) (st:St) (d:Option Nat):aN (aB Tryz.prog) 218 [.agg (aA s)] st d=some { dst:=d,val:=.v (.int .i64 (BH v))}:=bG (cU hs.flat) (aK1 hs) (.v _)
noncomputable def EL (e:Int) (r:cJ) (a:List kN × Int) (x:Int):List kN × Int :=
 if (gx tI a.1 x).has=false∨(gx tI a.1 x).aG<e then (a.1.set x.toNat ⟨true,e,r⟩,IntKind.i64.wrap (a.2+1)) else a
noncomputable def uI (L:List kN) (e:Int) (r:cJ) (V:List Int):List kN × Int:=V.foldl (EL e r) (L,0)
theorem C3 (e:Int) (r:cJ) (a:List kN × Int) (x:Int):(EL e r a x).1.length=a.1.length:=by unfold EL;split<;>simp
theorem Qp (L:List kN) (e:Int) (r:cJ) (V:List Int):(uI L e r V).1.length=L.length:=by
 unfold uI;suffices h:∀(V:List Int) (a:List kN × Int),(V.foldl (EL e r) a).1.length=a.1.length from h V _
 intro V;induction V with
 | nil=>intro a;rfl
 | cons x V ih=>intro a;rw[List.foldl_cons,ih,C3]
theorem UD (L:List kN) (e:Int) (r:cJ) (V:List Int) (k:Nat) (h:k<V.length):uI L e r (V.take (k+1))=EL e r (uI L e r (V.take k)) (gx (0:Int) V k):=by
 unfold uI;rw[List.take_succ_eq_append_getElem h,List.foldl_append];simp[gx,h]
theorem aQh (o:Option (List kN)) (hn:((ol o).length:Int)<1000000) (e:Int) (r:cJ) (V:Option (List Int)) (hV:((ol V).length:Int)<1000000) (hr:∀x∈ol V,0≤x∧x<(ol o).length) :
 aB Tryz.prog 110 [ov dC o,.v (.int .u64 e),.agg (bD r),ov aK V]=some (.eE [.sl (ol o).length (dC (uI (ol o) e r (ol V)).1),.v (.int .i64 (uI (ol o) e r (ol V)).2)]):=by
 rw[cL Tryz.func110 rfl aK3 (by cases o<;>cases V<;>rfl)]
 refine iN ?_
 simp only[Z8,seval,MG _ hn];refine cF (fun m st=>∃(k:Nat) (l:List kN) (c:Int),(st.env 1=.v (.int .u64 e)∧st.env 6=.ptr 6 0 0∧st.heap 6 0=some (.cells (bD r))∧st.env 3=ov aK V∧st.env 10=.own 15 0∧st.heap 15 0=some (.row 100 34 l.length (dC l))∧st.env 11=.v (.int .i64 c)∧st.env 12=.v (.int .i64 k))∧uI (ol o) e r ((ol V).take k)=(l,c)∧l.length=(ol o).length∧k≤(ol V).length∧m=(ol V).length-k)
  (fun ex st=>ex=.exit 0∧∃(l:List kN) (c:Int),(st.env 10=.own 15 0∧st.heap 15 0=some (.row 100 34 l.length (dC l))∧st.env 11=.v (.int .i64 c))∧uI (ol o) e r (ol V)=(l,c)∧l.length=(ol o).length) (ol V).length ?step ?start ?rest
 case step =>
  rintro m st ⟨k,l,c,hI,hc,hl,hk,hm⟩
  by_cases bA:(k:Int)<(ol V).length
  ·have q0:(0:Int)≤k:=by omega
   have hw:IntKind.i64.wrap ((k:Int)+1)=((k+1:Nat):Int):=by rw[mZ _ (by omega) (by omega)];omega
   have yB:=UD (ol o) e r (ol V) k (by omega)
   rw[hc] at yB;unfold EL at yB;have hx:=hr _ (pF (z:=(0:Int)) q0 bA)
   obtain⟨x,ex⟩:∃x,gx (0:Int) (ol V) (k:Int)=x:=⟨_,rfl⟩
   rw[ex] at hx yB;have x0:0≤x:=hx.1
   have x1:x<(l.length:Int):=by rw[hl];exact hx.2
   have x2:x.toNat<l.length:=by omega
   have x3:x.toNat * 34+34≤l.length * 34:=by omega
   have ld:=ZH (T:=100) (n:=l.length) (k:=34) x0 x1 aE0 (by decide) (by decide)
   by_cases h1:(gx tI l x).has=true
   ·by_cases h2:(gx tI l x).aG<e
    ·rw[if_pos (.inr h2)] at yB;apply oN ((ol V).length-(k+1))
     ·simp only[Z8,seval,hI,bA,q0,ex,x0,x1,x2,x3,ld,h1,h2,GQ _ _ _ x2,hw];rfl
     ·exact⟨k+1,_,_,by simp only[E8,seval,hI,List.length_set]<;>exact⟨rfl,rfl⟩,yB,by rw[List.length_set,hl],by omega,rfl⟩
    ·rw[if_neg (by simp only[h1,h2,Bool.true_eq_false,or_self,not_false_eq_true])] at yB
     apply oN ((ol V).length-(k+1))
     ·simp only[Z8,seval,hI,bA,q0,ex,x0,x1,x2,x3,ld,h1,h2,hw];rfl
     ·exact⟨k+1,l,c,by simp only[E8,seval,hI],yB,hl,by omega,rfl⟩
   ·have DM:(gx tI l x).has=false:=by simpa using h1
    rw[if_pos (.inl DM)] at yB;apply oN ((ol V).length-(k+1))
    ·simp only[Z8,seval,hI,bA,q0,ex,x0,x1,x2,x3,ld,DM,GQ _ _ _ x2,hw];rfl
    ·exact⟨k+1,_,_,by simp only[E8,seval,hI,List.length_set]<;>exact⟨rfl,rfl⟩,yB,by rw[List.length_set,hl],by omega,rfl⟩
  ·have Az:k=(ol V).length:=by omega
   rw[Az,List.take_length] at hc;apply oT (.exit 0)
   ·simp only[Z8,seval,hI,bA];rfl
   ·exact⟨rfl,l,c,by simp only[E8,seval,hI],hc,hl⟩
 case start=>exact⟨0,ol o,0,by simp only[E8,seval]<;>rfl,rfl,rfl,by omega,by omega⟩
 case rest =>
  rintro ex st ⟨rfl,l,c,hI,hc,hl⟩
  rw[hc];simp only[Z8,seval,hI];exact⟨_,dK rfl rfl rfl (by simp only[E8,seval,hI,Ve]<;>rfl) (by simp only[E8,seval,hI,Ve]<;>rfl),by rw[hl]⟩
theorem aK4 (o:Option (List kN)) (hn:((ol o).length:Int)<1000000) (e:Int) (r:cJ) (V:Option (List Int)) (hV:((ol V).length:Int)<1000000) (hr:∀x∈ol V,0≤x∧x<(ol o).length) (st:St) (d:Option Nat) :
 aN (aB Tryz.prog) 110 [ov dC o,.v (.int .u64 e),.agg (bD r),ov aK V] st d=some { dst:=d,val:=.eE [.sl (ol o).length (dC (uI (ol o) e r (ol V)).1),.v (.int .i64 (uI (ol o) e r (ol V)).2)]} :=
 bG (by simp only[List.mem_cons,List.not_mem_nil,or_false,forall_eq_or_imp,forall_eq,dV,and_self,and_true,true_and]) (aQh o hn e r V hV hr) (.eE _ (bE (.sl _ _ (mY _)) (.v _)))
noncomputable def Qq (s:aL) (v:SV) (a:sC) (V:List Int):aL:={ s with gH:={ s.gH with eA:=ov dC (some (uI (ol v.L) a.target.aG a.root V).1)} }
theorem c44 {s:aL} {v:SV} (hs:SD s v) (a:sC) (V:Option (List Int)) (ha:a.eU=ov aK V) (hV:((ol V).length:Int)<1000000) (hr:∀x∈ol V,0≤x∧x<(ol v.L).length) :
 aB Tryz.prog 44 [.agg (aA s),.agg (iB a)]=some (.agg (aA (Qq s v a (ol V)))):=by
 have pH:=hs.fl
 rw[cL Tryz.func44 rfl aQi rfl];refine iN ?_
 simp only[Z8,seval,hs.eA,ha,aK4 v.L hs.nL _ _ V hV hr,dM];exact⟨_,fK rfl (by simp only[E8,seval,pH,and_self]<;>rfl) (by simp only[Z8,seval,pH,and_self]<;>rfl) (by simp only[dV,and_self,pH,and_self]),by unfold Qq;simp only[ov,Qp]⟩
theorem Xc (ns:List Node) (r:cJ) (h:0≤aM ns r):(nd ns (aM ns r)).block.root=r:=by
 unfold aM at h ⊢
 cases hf:ns.findIdx? (fun n=>decide (n.block.root=r)) with
 | none=>rw[hf] at h;simp only at h;omega
 | some k =>
   obtain⟨hk,hp,_⟩:=List.findIdx?_eq_some_iff_getElem.1 hf
   simp only
   have:nd ns (k:Int)=ns[k]:=by simp[nd,hk]
   rw[this];exact of_decide_eq_true hp
theorem Ns {ns:List Node} {r:cJ} {j:Int} (h0:0≤j) (h1:j<ns.length) (hr:(nd ns j).block.root=r):0≤aM ns r:=by
 unfold aM;cases hf:ns.findIdx? (fun n=>decide (n.block.root=r)) with
 | none =>
   obtain⟨hj,e⟩:=Lc h0 h1
   have:=List.findIdx?_eq_none_iff.1 hf ns[j.toNat] (List.getElem_mem hj)
   rw[← e] at this;simp[hr] at this
 | some k=>simp only;omega
structure GI (s:aL) (v:SV) (q:Int):Prop where
 sd:SD s v
 up:gM v.ns
 DT:(nd v.ns 0).up=-1
 pos:0<v.ns.length
 nl:(v.ns.length:Int)≤s.cFg.lG.sF
 UE:s.cFg.lG.sF≤4096
 kE:1≤s.cFg.kE∧s.cFg.kE≤64
 MH:(ol v.L).length=(ol v.B).length
 nB:((ol v.B).length:Int)≤1024
 nO:((ol v.O).length:Int)≤s.cFg.lG.wQ
 MI:s.cFg.lG.wQ≤64
 nE:((ol v.E).length:Int)≤s.cFg.lG.qD
 SO:s.cFg.lG.qD≤256
 nT:((ol v.T).length:Int)≤s.cFg.lG.qC
 SP:s.cFg.lG.qC≤64
 nQ:((ol v.Q).length:Int)≤q
 P1:q≤900000
 gJ:0≤aM v.ns s.aU.gJ.root
theorem GI.sp {s:aL} {v:SV} {q:Int} (h:GI s v q):s.cFg.kE≠0:=by have:=h.kE.1;omega
theorem wR (s:aL) (v:SV) (c1 c2:dP):(uU s v c1 c2).cFg=s.cFg:=by unfold uU;split;rfl;split<;>rfl
theorem Nt (s:aL) (v:SV) (c1 c2:dP):(uU s v c1 c2).now=s.now:=by unfold uU;split;rfl;split<;>rfl
theorem GI.dQ {s:aL} {v:SV} {q:Int} (h:GI s v q) (c1 c2:dP):GI (uU s v c1 c2) (Cy s v c1 c2) q:=by
 have hsd:=h.sd.dQ h.up c1 c2
 by_cases b:jW s v (rK s c1) (tQ s c2)
 ·rw[show uU s v c1 c2=s from if_pos b,show Cy s v c1 c2=v from if_pos b];exact h
 have hJ:0≤aM v.ns (rK s c1).root:=by rcases Int.lt_or_le (aM v.ns (rK s c1).root) 0 with g|g;exact absurd (.inl g) b;exact g
 have hF:0≤aM v.ns (tQ s c2).root:=by rcases Int.lt_or_le (aM v.ns (tQ s c2).root) 0 with g|g;exact absurd (.inr (.inl g)) b;exact g
 have hA:tP v.ns (aM v.ns (tQ s c2).root) (aM v.ns (rK s c1).root)=true:=by
  cases g:tP v.ns (aM v.ns (tQ s c2).root) (aM v.ns (rK s c1).root)
  ·exact absurd (.inr (.inr (.inr (.inr (.inr (.inr (.inl g))))))) b
  ·rfl
 have hT:((ol (nz (rV (ol v.T) (rK s c1).aG))).length:Int)≤s.cFg.lG.qC:=by
  rw[nA];have:=List.length_filter_le (fun t:Table=>decide ((rK s c1).aG≤t.ck.aG)) (ol v.T);have:=h.nT;unfold rV;omega
 by_cases e:tQ s c2=s.aU.fin
 ·have hS:uU s v c1 c2=_:=(if_neg b).trans (if_pos e)
  have hW:Cy s v c1 c2=_:=(if_neg b).trans (if_pos e)
  rw[hS,hW] at hsd ⊢;exact⟨hsd,h.up,h.DT,h.pos,h.nl,h.UE,h.kE,h.MH,h.nB,h.nO,h.MI,h.nE,h.SO,hT,h.SP,h.nQ,h.P1,hJ⟩
 ·have hS:uU s v c1 c2=_:=(if_neg b).trans (if_neg e)
  have hW:Cy s v c1 c2=_:=(if_neg b).trans (if_neg e)
  rw[hS,hW] at hsd ⊢;have rF:=eZ v.ns (tQ s c2).root
  have rJ:=eZ v.ns (rK s c1).root
  have Sr:=Ng h.up hF rF.2
  have h1:=LH h.up Sr
  have h2:=LH h.up hA
  have hz:=YS h.up Sr
  have hlen:=Wy (ns:=v.ns) (aM v.ns (tQ s c2).root)
  have SQ:=h.nl
  refine⟨hsd,aB9 h.up Sr, ?_, ?_, ?_,h.UE,h.kE,h.MH,h.nB, ?_,h.MI,h.nE,h.SO,hT,h.SP,h.nQ,h.P1, ?_⟩
  ·rw[hz] at h1;show (nd (jT v.ns (aM v.ns (tQ s c2).root) v.ns.length).1 0).up=-1
   rw[h1.2.2,if_pos rfl]
  ·have:=h1.2.1;have:=h1.1
   show 0<(jT v.ns (aM v.ns (tQ s c2).root) v.ns.length).1.length
   omega
  ·show (((jT v.ns (aM v.ns (tQ s c2).root) v.ns.length).1.length:Nat):Int)≤s.cFg.lG.sF
   omega
  ·show ((ol (nz _)).length:Int)≤s.cFg.lG.wQ
   rw[nA];have:=List.length_filter_le (fun b:Block=>decide ((vO s (tQ s c2).aG).1<b.slot)) (ol v.O);have:=h.nO;omega
  ·refine Ns h2.1 h2.2.1 ?_
   rw[h2.2.2];exact Xc _ _ hJ
noncomputable def Cz (v:SV) (b:Block):List Node:=v.ns++[⟨b,aM v.ns b.parent,Ty b⟩]
noncomputable def Qr (s:aL) (v:SV) (b:Block):aL:={ s with tree:=⟨.sl (Cz v b).length (bZ (Cz v b))⟩}
noncomputable def Nu (v:SV) (b:Block):SV:={ v with ns:=Cz v b }
noncomputable def P2 (s:aL) (v:SV) (b:Block):aL:=uU (Qr s v b) (Nu v b) b.gJ b.fin
noncomputable def P3 (s:aL) (v:SV) (b:Block):SV:=Cy (Qr s v b) (Nu v b) b.gJ b.fin
noncomputable def sV (s:aL) (v:SV) (b:Block):aL:=if xM s b.slot<xM s s.now then uU (P2 s v b) (P3 s v b) b.dW.pj b.dW.pf else P2 s v b
noncomputable def lH (s:aL) (v:SV) (b:Block):SV:=if xM s b.slot<xM s s.now then Cy (P2 s v b) (P3 s v b) b.dW.pj b.dW.pf else P3 s v b
theorem C4 (b:Block):TG (Ty b)=true:=by unfold Ty;split<;>rfl
theorem ZI {s:aL} {v:SV} {q:Int} (h:GI s v q) {b:Block} (hb:Kg s v b=0):BC v.ns b (Ty b)=0∧(v.ns.length:Int)<s.cFg.lG.sF∧0≤aM v.ns b.parent:=by
 unfold Kg at hb;by_cases g1:b.root=dR
 ·rw[if_pos g1] at hb;omega
 rw[if_neg g1] at hb;by_cases g2:KnB v b.root
 ·rw[if_pos g2] at hb;omega
 rw[if_neg g2] at hb;by_cases g3:s.now<b.slot
 ·rw[if_pos g3] at hb;omega
 rw[if_neg g3] at hb;by_cases g4:b.slot≤(vO s s.aU.fin.aG).1
 ·rw[if_pos g4] at hb;omega
 rw[if_neg g4] at hb;by_cases g5:aM v.ns b.parent<0
 ·rw[if_pos g5] at hb;omega
 rw[if_neg g5] at hb;by_cases g6:b.slot≤(nd v.ns (aM v.ns b.parent)).block.slot
 ·rw[if_pos g6] at hb;omega
 rw[if_neg g6] at hb;by_cases g7:(nd v.ns (aM v.ns b.parent)).status=2
 ·rw[if_pos g7] at hb;omega
 rw[if_neg g7] at hb;by_cases g8:¬GM s v b
 ·rw[if_pos g8] at hb;omega
 rw[if_neg g8] at hb;by_cases g9:¬B8 s.cFg.BG (nd v.ns (aM v.ns b.parent)).block b
 ·rw[if_pos g9] at hb;omega
 rw[if_neg g9] at hb;by_cases P0:s.cFg.lG.sF≤(v.ns.length:Int)
 ·rw[if_pos P0] at hb;omega
 have:=h.UE
 refine⟨?_,by omega,by omega⟩
 unfold BC;rw[C4,if_neg (by simp),if_neg (fun h=>g2 (.inr h)),if_neg g5,if_neg g6,if_neg (by omega)]
theorem GI.Qr {s:aL} {v:SV} {q:Int} (h:GI s v q) {b:Block} (hb:(v.ns.length:Int)<s.cFg.lG.sF) (hp:0≤aM v.ns b.parent):GI (Qr s v b) (Nu v b) q:=by
 have hlen:(Cz v b).length=v.ns.length+1:=by unfold Cz;simp
 have hnB:=h.UE
 have hsd:SD (Tryz.Qr s v b) (Nu v b):=⟨h.sd.iP,h.sd.eA,h.sd.gW,h.sd.early,h.sd.bK,rfl,h.sd.tables,h.sd.eV,h.sd.tB,h.sd.nB,h.sd.nL,h.sd.nQ,h.sd.nE,h.sd.nO,h.sd.nT,by show ((Cz v b).length:Int)<1000000;omega⟩
 have rp:=eZ v.ns b.parent
 refine⟨hsd,fun i h0 h1=>?_, ?_, ?_, ?_,h.UE,h.kE,h.MH,h.nB,h.nO,h.MI,h.nE,h.SO,h.nT,h.SP,h.nQ,h.P1, ?_⟩
 ·have h1:i<((Cz v b).length:Int):=h1
  show 0≤(nd (Cz v b) i).up∧(nd (Cz v b) i).up<i
  by_cases hi:i<(v.ns.length:Int)
  ·unfold Cz;rw[Iz (by omega) hi];exact h.up i h0 hi
  ·unfold Cz;rw[DQ (by omega)];exact⟨hp,by show aM v.ns b.parent<i;omega⟩
 ·show (nd (Cz v b) 0).up=-1
  unfold Cz;rw[Iz (by omega) (by have:=h.pos;omega)];exact h.DT
 ·show 0<(Cz v b).length;omega
 ·show ((Cz v b).length:Int)≤s.cFg.lG.sF;omega
 ·show 0≤aM (Cz v b) s.aU.gJ.root
  have rj:=eZ v.ns s.aU.gJ.root
  refine Ns h.gJ (by omega) ?_
  unfold Cz;rw[Iz h.gJ rj.2];exact Xc _ _ h.gJ
theorem GI.ins {s:aL} {v:SV} {q:Int} (h:GI s v q) {b:Block} (hb:Kg s v b=0):GI (sV s v b) (lH s v b) q:=by
 obtain⟨_,h2,h3⟩:=ZI h hb
 have g1:=h.Qr h2 h3
 have g2:=g1.dQ b.gJ b.fin
 unfold sV lH;split
 ·exact g2.dQ _ _
 ·exact g2
theorem Bh (s:aL) (v:SV) (b:Block):(sV s v b).cFg=s.cFg∧(sV s v b).now=s.now:=by
 unfold sV;split
 ·rw[wR,Nt];unfold P2;rw[wR,Nt];exact⟨rfl,rfl⟩
 ·unfold P2;rw[wR,Nt];exact⟨rfl,rfl⟩
theorem aK5 {s:aL} {v:SV} {q:Int} (h:GI s v q) {b:Block} (hb:Kg s v b=0):aB Tryz.prog 217 [.agg (aA s),.agg (aV b)]=some (.agg (aA (sV s v b))):=by
 obtain⟨h1,h2,h3⟩:=ZI h hb
 have g1:=h.Qr h2 h3
 have g2:=g1.dQ b.gJ b.fin
 have hi:Gu v.ns b (Ty b)=.eE [.agg (cO ⟨Cz v b⟩),.v (.int .i64 0)]:=if_pos h1
 have P4:=aPc v.ns h.sd.nn b (Ty b)
 rw[hi] at P4
 have k61a:=k61 g1.sd g1.up g1.sp b.gJ b.fin
 have k61b:=k61 g2.sd g2.up g2.sp b.dW.pj b.dW.pf
 have hcfg:(uU (Tryz.Qr s v b) (Nu v b) b.gJ b.fin).cFg.kE=s.cFg.kE:=by rw[wR];rfl
 have UF:(uU (Tryz.Qr s v b) (Nu v b) b.gJ b.fin).now=s.now:=by rw[Nt];rfl
 have hep:∀x,xM (uU (Tryz.Qr s v b) (Nu v b) b.gJ b.fin) x=xM s x:=fun x=>by unfold xM;rw[hcfg]
 have k98':=Mp (uU (Tryz.Qr s v b) (Nu v b) b.gJ b.fin) g2.sp g2.sd.flat
 have e1:({ cFg:=s.cFg,gH:=s.gH,aU:=s.aU,cD:=s.cD,tree:=⟨.sl (Cz v b).length (bZ (Cz v b))⟩,now:=s.now,eR:=s.eR,tables:=s.tables }:aL)=Tryz.Qr s v b:=rfl
 rw[cL Tryz.func217 rfl aK6 rfl];refine iN ?_
 by_cases c:xM s b.slot<xM s s.now
 ·have hv:sV s v b=_:=if_pos c
  have GR:=(g2.dQ b.dW.pj b.dW.pf).sd.flat
  simp only[Z8,seval,h.sd.tree,aKN,P4,dM,e1,k61a,k98',hep,UF,c,k61b];exact⟨_,fK rfl (by simp only[E8,seval,GR]<;>rfl) (by simp only[Z8,seval,GR]<;>rfl) (by simp only[dV,and_self,GR]),by rw[hv];rfl⟩
 ·have hv:sV s v b=_:=if_neg c
  have GR:=g2.sd.flat
  simp only[Z8,seval,h.sd.tree,aKN,P4,dM,e1,k61a,k98',hep,UF,c];exact⟨_,fK rfl (by simp only[E8,seval,GR]<;>rfl) (by simp only[Z8,seval,GR]<;>rfl) (by simp only[dV,and_self,GR]),by rw[hv];rfl⟩
theorem Qs {L:List Block} {k:Nat} (hk:k≤L.length) (a g:Nat):∃X,(∀(st:St) (hi:Operand),st.ev hi=.v (.int .i64 k)→st.heap a g=some (.row 74 238 L.length (aF L))→dA Tryz.prog st 45 (.own a g) none (some hi)=some X) ∧
 (∀st:St,st.heap a g=some (.row 74 238 L.length (aF L))→aW st X=some ((L.take k).length,aF (L.take k))):=by
 have hl:(L.take k).length=k:=by simp;omega
 by_cases h0:k=0∧L.length=0
 ·obtain⟨rfl,h1⟩:=h0
  refine⟨.sl 0 [],fun st hi he hh=>?_,fun st hh=>by simp[aW,aF]⟩
  simp[dA,nK,hh,he,h1]
 ·refine⟨.vw a g 0 k,fun st hi he hh=>?_,fun st hh=>?_⟩
  ·have:¬((0:Int)=k∧¬((0:Int)=0∧0<L.length)):=by omega
   have h2:(0:Int)≤k∧(k:Int)≤L.length:=by omega
   simp only[dA,nK,hh,he,if_neg this,h2,Int.le_refl,and_self,if_true];simp
   intro h3 h4;rw[h4] at h0;simp at h0
   omega
  ·have hb:k * 238≤(aF L).length:=by rw[oW];exact Nat.mul_le_mul_right _ hk
   have:=wD (c:=aV) (sz:=238) bR L k
   simp only[aW,hh,Nat.zero_add,hb,if_true,List.drop_zero,hl];exact congrArg (fun z=>some (k,z)) this
theorem Da {L:List Block} {k:Nat} (hk:k≤L.length) (a g:Nat):∃X,(∀(st:St) (lo:Operand),st.ev lo=.v (.int .i64 k)→st.heap a g=some (.row 74 238 L.length (aF L))→dA Tryz.prog st 45 (.own a g) (some lo) none=some X) ∧
 (∀st:St,st.heap a g=some (.row 74 238 L.length (aF L))→aW st X=some ((L.drop k).length,aF (L.drop k))):=by
 have hl:(L.drop k).length=L.length-k:=by simp
 by_cases h0:k=L.length
 ·by_cases hz:0<k
  ·refine⟨.sl 0 [],fun st lo he hh=>?_,fun st hh=>by rw[h0];simp[aW,aF]⟩
   have:(k:Int)=L.length∧¬((k:Int)=0∧0<L.length):=by omega
   have h2:(0:Int)≤k∧(k:Int)≤L.length:=by omega
   simp only[dA,nK,hh,he,if_pos this,h2,Int.le_refl,and_self,if_true]
  ·refine⟨.sl 0 [],fun st lo he hh=>?_,fun st hh=>by rw[h0];simp[aW,aF]⟩
   have:(k:Int)=L.length∧¬((k:Int)=0∧0<L.length):=by omega
   have h2:(0:Int)≤k∧(k:Int)≤L.length:=by omega
   simp only[dA,nK,hh,he,if_pos this,h2,Int.le_refl,and_self,if_true]
 ·refine⟨.vw a g (k * 238) (L.length-k),fun st lo he hh=>?_,fun st hh=>?_⟩
  ·have h1:¬((k:Int)=L.length∧¬((k:Int)=0∧0<L.length)):=by omega
   have h2:((L.length:Int)-(k:Int)).toNat=L.length-k:=by omega
   have h3:(0:Int)≤k∧(k:Int)≤L.length:=by omega
   simp only[dA,nK,hh,he,if_neg h1,h3,Int.le_refl,and_self,if_true,h2,Int.toNat_natCast]
  ·have hb:k * 238+(L.length-k) * 238≤(aF L).length:=by rw[oW,← Nat.add_mul];exact Nat.mul_le_mul_right _ (by omega)
   have:=Bi (c:=aV) (sz:=238) bR L k
   have h3:((aF L).drop (k * 238)).length=(L.length-k) * 238:=by rw[List.length_drop,oW,Nat.sub_mul]
   simp only[aW,hh,hb,if_true,hl];rw[List.take_of_length_le (by omega)]
   exact congrArg (fun z=>some (L.length-k,z)) this
theorem GI.eR {s:aL} {v:SV} {q:Int} (h:GI s v q) (r:cJ):GI { s with eR:=r } v q :=
 ⟨⟨h.sd.iP,h.sd.eA,h.sd.gW,h.sd.early,h.sd.bK,h.sd.tree,h.sd.tables,h.sd.eV,h.sd.tB,h.sd.nB,h.sd.nL,h.sd.nQ,h.sd.nE,h.sd.nO,h.sd.nT,h.sd.nn⟩,h.up,h.DT,h.pos,h.nl,h.UE,h.kE,h.MH,h.nB,h.nO,h.MI,h.nE,h.SO,h.nT,h.SP,h.nQ,h.P1,h.gJ⟩
def mR (s:aL) (x:AV):aL:={ s with cD:={ s.cD with bK:=x }}
theorem GI.UG {s:aL} {v:SV} {q:Int} (h:GI s v q) (O:Option (List Block)) (hO:((ol O).length:Int)≤s.cFg.lG.wQ):GI (mR s (ov aF O)) { v with O:=O } q :=
 ⟨⟨h.sd.iP,h.sd.eA,h.sd.gW,h.sd.early,rfl,h.sd.tree,h.sd.tables,h.sd.eV,h.sd.tB,h.sd.nB,h.sd.nL,h.sd.nQ,h.sd.nE,by have:=h.MI;show ((ol O).length:Int)<1000000;omega,h.sd.nT,h.sd.nn⟩,h.up,h.DT,h.pos,h.nl,h.UE,h.kE,h.MH,h.nB,hO,h.MI,h.nE,h.SO,h.nT,h.SP,h.nQ,h.P1,h.gJ⟩
theorem UH (s:aL) (v:SV) (c1 c2:dP):(ol (Cy s v c1 c2).O).length≤(ol v.O).length:=by
 unfold Cy;split
 ·exact Nat.le_refl _
 split
 ·exact Nat.le_refl _
 ·show (ol (nz _)).length≤_
  rw[nA];exact List.length_filter_le _ _
theorem UI (s:aL) (v:SV) (b:Block):(ol (lH s v b).O).length≤(ol v.O).length:=by
 unfold lH;split
 ·exact Nat.le_trans (UH _ _ _ _) (UH _ _ _ _)
 ·exact UH _ _ _ _
theorem zM {s:aL} {v:SV} (h:SD s v) {O:List Block} {a g:Nat} (st:St) (hh:st.heap a g=some (.row 74 238 O.length (aF O))):fO st (.agg (aA (mR s (.own a g))))=some (.agg (aA (mR s (ov aF (some O))))):=by
 have pH:=h.fl
 unfold mR;simp only[bQ,gG,bP,hh,uG,cV,dV,pH,cK];rfl
def Rg (x:Int):Prop:=0≤x∧x<18446744073709551616
structure RB (b:Block):Prop where
 sl:Rg b.slot
 j:Rg b.gJ.aG
 f:Rg b.fin.aG
 pj:Rg b.dW.pj.aG
 pf:Rg b.dW.pf.aG
def Pr (r:cJ):Prop:=r≠dR∧r≠mkRoot 99
theorem Xd {α:Type} (l:List α):nz l≠some []:=by
 unfold nz;split
 ·nofun
 ·rename_i h;intro e;injection e with e;exact h e
structure NEv (v:SV):Prop where
 q:v.Q≠some []
 e:v.E≠some []
 o:v.O≠some []
 t:v.T≠some []
 ea:∀a∈ol v.E,∃V,a.eU=ov aK (some V)∧V≠[]
 tb:∀t∈ol v.T,∃B,t.iP=ov bJ (some B)∧B≠[]
structure RG (s:aL) (v:SV):Prop where
 now:0≤s.now∧s.now≤1099511627776
 j:Rg s.aU.gJ.aG
 f:Rg s.aU.fin.aG
 nd:∀n∈v.ns,RB n.block∧n.block.slot≤s.now
 or:∀b∈ol v.O,RB b∧Pr b.root
 rt:∀n∈v.ns,Pr n.block.root
 fe:s.aU.fin.aG≤s.aU.gJ.aG∧s.aU.gJ.aG≤xM s s.now
 ds:(v.ns.map fun n=>n.block.root).Nodup
 tb:∃t∈ol v.T,t.ck=s.aU.gJ
 ne:NEv v
theorem Qt {ns:List Node} {i:Int} (h0:0≤i) (h1:i<ns.length):nd ns i∈ns:=by
 obtain⟨h,e⟩:=Lc h0 h1
 rw[e];exact List.getElem_mem h
theorem Vf (ns:List Node) (i:Int):∀k:Nat,k≤ns.length→∀n∈(jT ns i k).1,∃a∈ns,n.block=a.block∧n.status=a.status
 | 0,_,n,hn=>by simp[jT] at hn
 | k+1,hk,n,hn=>by
   unfold jT at hn;simp only at hn
   split at hn
   ·rcases List.mem_append.1 hn with hn|hn
    ·exact Vf ns i k (by omega) n hn
    ·rw[List.mem_singleton] at hn;subst hn;exact⟨nd ns k,Qt (by omega) (by omega),rfl,rfl⟩
   ·exact Vf ns i k (by omega) n hn
theorem ZJ (ns:List Node) (i:Int):∀k:Nat,k≤ns.length→((jT ns i k).1.map (·.block)).Sublist ((ns.take k).map (·.block))
 | 0,_=>by simp[jT]
 | k+1,hk=>by
   have ih:=ZJ ns i k (by omega)
   have e:ns.take (k+1)=ns.take k++[nd ns k]:=by
    rw[List.take_succ_eq_append_getElem (by omega)]
    have h:k<ns.length:=by omega
    simp[Go.Ab.nd,h]
   unfold jT;simp only
   rw[e,List.map_append];split
   ·rw[List.map_append];exact ih.append (by simp)
   ·exact ih.trans (List.sublist_append_left ..)
theorem C5 {ns:List Node} (h:(ns.map fun n=>n.block.root).Nodup) (i:Int):((jT ns i ns.length).1.map fun n=>n.block.root).Nodup:=by
 have h1:=(ZJ ns i ns.length (Nat.le_refl _)).map (·.root)
 rw[List.take_length] at h1;simp only[List.map_map] at h1;exact h.sublist h1
theorem RG.dQ {s:aL} {v:SV} (r:RG s v) {c1 c2:dP} (r1:Rg c1.aG) (r2:Rg c2.aG):RG (uU s v c1 c2) (Cy s v c1 c2):=by
 have hJ:Rg (rK s c1).aG:=by unfold rK;split;exact r1;exact r.j
 have hF:Rg (tQ s c2).aG:=by unfold tQ;split;exact r2;exact r.f
 by_cases b:jW s v (rK s c1) (tQ s c2)
 ·rw[show uU s v c1 c2=s from if_pos b,show Cy s v c1 c2=v from if_pos b];exact r
 have fe:(tQ s c2).aG≤(rK s c1).aG∧(rK s c1).aG≤xM s s.now:=by
  unfold jW at b;simp only[not_or] at b;obtain⟨_,_,_,_,_,_,_,b8,b9,_⟩:=b
  omega
 have tb:∃t∈ol (nz (rV (ol v.T) (rK s c1).aG)),t.ck=rK s c1:=by
  unfold jW at b;simp only[not_or] at b;obtain⟨_,_,_,_,_,_,_,_,_,b10⟩:=b
  unfold Ja at b10;rcases qZ (fun k=>(gx dX (ol v.T) k).ck=rK s c1) (ol v.T).length with ⟨e,_⟩|⟨k,h1,h2,_,h3⟩
  ·rw[e] at b10;omega
  ·refine⟨gx dX (ol v.T) k, ?_,h2⟩
   rw[nA];refine List.mem_filter.2 ⟨pF (by omega) (by omega),decide_eq_true ?_⟩
   rw[h2];exact Int.le_refl _
 by_cases e:tQ s c2=s.aU.fin
 ·rw[show uU s v c1 c2=_ from (if_neg b).trans (if_pos e),show Cy s v c1 c2=_ from (if_neg b).trans (if_pos e)];exact⟨r.now,hJ,hF,r.nd,r.or,r.rt,fe,r.ds,tb,⟨r.ne.q,r.ne.e,r.ne.o,Xd _,r.ne.ea,fun t ht=>r.ne.tb t (by have ht:t∈ol (nz (rV (ol v.T) (rK s c1).aG)):=ht;rw[nA] at ht;exact (List.mem_filter.1 ht).1)⟩⟩
 ·rw[show uU s v c1 c2=_ from (if_neg b).trans (if_neg e),show Cy s v c1 c2=_ from (if_neg b).trans (if_neg e)];refine⟨r.now,hJ,hF,fun n hn=>?_,fun o ho=>?_,fun n hn=>?_,fe,C5 r.ds _,tb,⟨r.ne.q,r.ne.e,Xd _,Xd _,r.ne.ea,fun t ht=>r.ne.tb t (by have ht:t∈ol (nz (rV (ol v.T) (rK s c1).aG)):=ht;rw[nA] at ht;exact (List.mem_filter.1 ht).1)⟩⟩
  ·obtain⟨a,ha,e1,_⟩:=Vf _ _ _ (Nat.le_refl _) n hn
   rw[e1];exact r.nd a ha
  ·have ho:o∈ol (nz ((ol v.O).filter fun b=>decide ((vO s (tQ s c2).aG).1<b.slot))):=ho
   rw[nA] at ho;exact r.or o (List.mem_filter.1 ho).1
  ·obtain⟨a,ha,e1,_⟩:=Vf _ _ _ (Nat.le_refl _) n hn
   rw[e1];exact r.rt a ha
theorem P5 {s:aL} {v:SV} {b:Block} (hb:Kg s v b=0∨Kg s v b=10):b.slot≤s.now:=by
 unfold Kg at hb;by_cases g1:b.root=dR
 ·rw[if_pos g1] at hb;omega
 rw[if_neg g1] at hb;by_cases g2:KnB v b.root
 ·rw[if_pos g2] at hb;omega
 rw[if_neg g2] at hb;by_cases g3:s.now<b.slot
 ·rw[if_pos g3] at hb;omega
 ·omega
theorem aCn {s:aL} {v:SV} {b:Block} (hb:Kg s v b=0):aM v.ns b.root<0:=by
 rcases Int.lt_or_le (aM v.ns b.root) 0 with h|h
 ·exact h
 ·unfold Kg at hb;by_cases g1:b.root=dR
  ·rw[if_pos g1] at hb;omega
  ·rw[if_neg g1,if_pos (.inr h)] at hb;omega
theorem C6 {ns:List Node} {r:cJ} (h:aM ns r<0):r ∉ ns.map fun n=>n.block.root:=by
 intro hm;obtain⟨n,hn,e⟩:=List.mem_map.1 hm
 obtain⟨k,hk,rfl⟩:=List.getElem_of_mem hn
 have:0≤aM ns r:=Ns (j:=(k:Int)) (by omega) (by omega) (by
  have:Go.Ab.nd ns (k:Int)=ns[k]:=by simp[Go.Ab.nd,hk]
  rw[this];exact e)
 omega
theorem RG.ins {s:aL} {v:SV} (r:RG s v) {b:Block} (rb:RB b∧Pr b.root) (hc:Kg s v b=0):RG (sV s v b) (lH s v b):=by
 have hs:=P5 (.inl hc)
 have g1:RG (Tryz.Qr s v b) (Nu v b):=⟨r.now,r.j,r.f,fun n hn=>by
  rcases List.mem_append.1 (show n∈v.ns++[⟨b,aM v.ns b.parent,Ty b⟩] from hn) with hn|hn
  ·exact r.nd n hn
  ·rw[List.mem_singleton] at hn;subst hn;exact⟨rb.1,hs⟩,r.or,fun n hn=>by
  rcases List.mem_append.1 (show n∈v.ns++[⟨b,aM v.ns b.parent,Ty b⟩] from hn) with hn|hn
  ·exact r.rt n hn
  ·rw[List.mem_singleton] at hn;subst hn;exact rb.2,r.fe,by
  show ((v.ns++[(⟨b,aM v.ns b.parent,Ty b⟩:Node)]).map fun n:Node=>n.block.root).Nodup
  rw[List.map_append];refine List.nodup_append.2 ⟨r.ds,by simp,fun x hx y hy=>?_⟩
  simp only[List.map_cons,List.map_nil,List.mem_singleton] at hy;rintro rfl
  exact C6 (aCn hc) (hy ▸ hx),r.tb,⟨r.ne.q,r.ne.e,r.ne.o,r.ne.t,r.ne.ea,r.ne.tb⟩⟩
 have g2:=g1.dQ rb.1.j rb.1.f
 unfold sV lH;split
 ·exact RG.dQ g2 rb.1.pj rb.1.pf
 ·exact g2
theorem RG.UG {s:aL} {v:SV} (r:RG s v) (O:Option (List Block)) (x:AV) (h:∀b∈ol O,RB b∧Pr b.root) (hO:O≠some []):RG (mR s x) { v with O:=O }:=⟨r.now,r.j,r.f,r.nd,h,r.rt,r.fe,r.ds,r.tb,⟨r.ne.q,r.ne.e,hO,r.ne.t,r.ne.ea,r.ne.tb⟩⟩
theorem RG.eR {s:aL} {v:SV} (r:RG s v) (x:cJ):RG { s with eR:=x } v:=⟨r.now,r.j,r.f,r.nd,r.or,r.rt,r.fe,r.ds,r.tb,r.ne⟩
theorem GI.mono {s:aL} {v:SV} {q q':Int} (h:GI s v q) (h1:q≤q') (h2:q'≤900000):GI s v q' :=
 ⟨h.sd,h.up,h.DT,h.pos,h.nl,h.UE,h.kE,h.MH,h.nB,h.nO,h.MI,h.nE,h.SO,h.nT,h.SP,by have:=h.nQ;omega,h2,h.gJ⟩
theorem Jb:Flat (.agg (aA fZ)):=by simp only[dV,fZ,mO,Lg,El,Qo,and_self]
def StR (s:aL) (q:Int) (r:AV):Prop:=∃(s':aL) (e:Int),r=.eE [.agg (aA s'),.v (.int .i64 e)]∧Flat (.agg (aA s'))∧e≠21∧(e=0→∃v',GI s' v' q∧RG s' v'∧s'.cFg=s.cFg)
def StN (s:aL) (v:SV) (q:Int) (r:AV):Prop:=∃(s':aL) (e:Int),r=.eE [.agg (aA s'),.v (.int .i64 e)]∧Flat (.agg (aA s'))∧e≠21∧(e=0→∃v',GI s' v' q∧RG s' v'∧s'.cFg=s.cFg∧v'.ns=v.ns)
theorem aGj (s:aL) (v:SV) (b:Block):Kg s v b≠21:=by
 unfold Kg;repeat (split;simp)
 simp
theorem BI (x:Int) (h1:0≤x) (h2:x<18446744073709551616):IntKind.u64.wrap x=x:=by
 unfold IntKind.wrap;simp[IntKind.signed,IntKind.bits]
 omega
theorem P6 {x:Int} (h0:0≤x) (h1:x<18446744073709551616):IntKind.u64.wrap ((BitVec.ofInt IntKind.u64.bits x &&& BitVec.ofInt IntKind.u64.bits 4294967295).toNat:Int)=x % 4294967296:=by
 obtain⟨n,rfl⟩:=Int.eq_ofNat_of_zero_le h0
 have hn:n<18446744073709551616:=by omega
 have e:(BitVec.ofInt IntKind.u64.bits (n:Int) &&& BitVec.ofInt IntKind.u64.bits 4294967295).toNat=n % 4294967296:=by
  rw[BitVec.toNat_and];have e1:(BitVec.ofInt IntKind.u64.bits (n:Int)).toNat=n:=by
   rw[BitVec.toNat_ofInt];show ((n:Int) % ((2 ^ 64:Nat):Int)).toNat=n
   omega
  have e2:(BitVec.ofInt IntKind.u64.bits 4294967295).toNat=2 ^ 32-1:=by decide
  rw[e1,e2,Nat.and_two_pow_sub_one_eq_mod]
 rw[e,BI _ (by omega) (by omega)]
 omega
theorem MJ (x:Int) (h0:0≤x):x.fdiv (2 ^ min 32 IntKind.u64.bits)=x / 4294967296:=by
 have e:(2:Int) ^ min 32 IntKind.u64.bits=4294967296:=by decide
 rw[e,Int.fdiv_eq_ediv_of_nonneg _ (by omega)]
theorem aK7:bL Tryz.f187=true:=by kernel_rfl
theorem aQk {x y:Int} (x0:0≤x) (x1:x<18446744073709551616) (y0:0≤y) (y1:y≤64):aB Tryz.prog 187 [.v (.int .u64 x),.v (.int .u64 y)]=some (.eE [.v (.int .u64 (x * y / 18446744073709551616)),.v (.int .u64 (IntKind.u64.wrap (x * y)))]):=by
 have a1:=P6 x0 x1
 have a2:=P6 y0 (by omega)
 have s1:=MJ x x0
 have s2:=MJ y y0
 have hy:y % 4294967296=y:=by omega
 have hy1:y / 4294967296=0:=by omega
 rw[hy] at a2;rw[hy1] at s2;obtain⟨p,hp⟩:∃p,p=x % 4294967296:=⟨_,rfl⟩
 obtain⟨r,hr⟩:∃r,r=x / 4294967296:=⟨_,rfl⟩
 have hx:x=r * 4294967296+p:=by omega
 have p0:0≤p∧p<4294967296:=by omega
 have r0:0≤r∧r<4294967296:=by omega
 rw[← hp] at a1;rw[← hr] at s1;have py:0≤p * y∧p * y≤4294967296 * 64:=⟨Int.mul_nonneg p0.1 y0,Int.mul_le_mul (by omega) y1 y0 (by omega)⟩
 have ry:0≤r * y∧r * y≤4294967295 * 64:=⟨Int.mul_nonneg r0.1 y0,Int.mul_le_mul (by omega) y1 y0 (by omega)⟩
 obtain⟨A,hA⟩:∃A,A=p * y:=⟨_,rfl⟩
 obtain⟨B,hB⟩:∃B,B=r * y:=⟨_,rfl⟩
 have hxy:x * y=B * 4294967296+A:=by rw[hx,Int.add_mul,Int.mul_right_comm,← hA,← hB]
 rw[← hA] at py;rw[← hB] at ry;have w1:IntKind.u64.wrap A=A:=BI _ (by omega) (by omega)
 have w2:IntKind.u64.wrap B=B:=BI _ (by omega) (by omega)
 have s3:=MJ A (by omega)
 obtain⟨C,hC⟩:∃C,C=B+A / 4294967296:=⟨_,rfl⟩
 have w3:IntKind.u64.wrap (B+A / 4294967296)=C:=by rw[BI _ (by omega) (by omega),hC]
 have a3:=P6 (x:=C) (by omega) (by omega)
 have s4:=MJ C (by omega)
 have s5:=MJ (C % 4294967296) (by omega)
 have w4:IntKind.u64.wrap (C % 4294967296)=C % 4294967296:=BI _ (by omega) (by omega)
 have w5:IntKind.u64.wrap 0=0:=rfl
 have z5:C % 4294967296 / 4294967296=0:=by omega
 have w6:IntKind.u64.wrap (C / 4294967296)=C / 4294967296:=BI _ (by omega) (by omega)
 have GR:x * y / 18446744073709551616=C / 4294967296:=by rw[hxy,hC];omega
 rw[GR];rw[cL Tryz.func187 rfl aK7 rfl];simp only[Z8,seval,a1,a2,s1,s2,← hA,← hB,w1,w2,s3,w3,a3,s4,Int.mul_zero,w5,Int.add_zero,w4,s5,z5,Int.zero_add,w6];exact dK rfl rfl rfl (by simp only[E8,seval]<;>rfl) (by simp only[E8,seval]<;>rfl)
theorem aQl (n:Int):aB Tryz.prog 152 [.v (.int .u64 n)]=some (.v (.bool (decide (1≤n) && decide (n≤64)))):=by
 rw[cL Tryz.func152 rfl aK9 rfl];by_cases h:1≤n
 all_goals
  simp only[Z8,seval,h,decide_true,decide_false,Bool.true_and,Bool.false_and];exact bX rfl (by simp only[E8,seval,h,decide_true,decide_false,Bool.true_and,Bool.false_and]<;>rfl) (.v _)
theorem aGk (n:Int) (st:St) (d:Option Nat):aN (aB Tryz.prog) 152 [.v (.int .u64 n)] st d=some { dst:=d,val:=.v (.bool (decide (1≤n) && decide (n≤64)))}:=bG (cU (.v _)) (aQl n) (.v _)
theorem c95 {e p:Int} (e0:0≤e) (e1:e<18446744073709551616):aB Tryz.prog 95 [.v (.int .u64 e),.v (.int .u64 p)]=some (.eE [.v (.int .u64 (Nd e p).1),.v (.int .i64 (Nd e p).2)]):=by
 unfold Nd;by_cases h:1≤p∧p≤64
 ·have h1:(decide (1≤p) && decide (p≤64))=true:=by simp[h]
  rw[if_pos h];have k187:=kx (aQk e0 e1 (y:=p) (by omega) h.2) (bE (.v _) (.v _)) (.eE _ (bE (.v _) (.v _)))
  have c153:aB Tryz.prog 153 [.v (.int .u64 e),.v (.int .u64 p)]=some (.eE [.v (.int .u64 (BD e p).1),.v (.int .i64 (BD e p).2)]):=by
   rw[cL Tryz.func153 rfl aLa rfl];have ht:Int.tdiv 18446744073709551615 p=18446744073709551615 / p:=Int.tdiv_eq_ediv_of_nonneg (by omega)
   have hd:(18446744073709551615 / p<e)↔18446744073709551615<e * p:=Int.ediv_lt_iff_lt_mul (by omega)
   have hm:0≤e * p:=Int.mul_nonneg e0 (by omega)
   have hq:=Int.ediv_le_self p (show (0:Int)≤18446744073709551615 by omega)
   have hq0:=Int.ediv_nonneg (show (0:Int)≤18446744073709551615 by omega) (show 0≤p by omega)
   have hw:IntKind.u64.wrap (18446744073709551615 / p)=18446744073709551615 / p:=BI _ hq0 (by omega)
   have hp0:p≠0:=by omega
   unfold BD;rw[ht,hw];by_cases g:e * p / 18446744073709551616=0
   ·rw[if_neg (fun k=>by have:=hd.1 k.2;omega)]
    simp only[Z8,seval,k187,dM,bt g];exact dK rfl rfl rfl (by simp only[E8,seval]<;>rfl) (by simp only[E8,seval]<;>rfl)
   ·rw[if_pos ⟨hp0,hd.2 (by omega)⟩]
    simp only[Z8,seval,k187,dM,bf g];exact dK rfl rfl rfl (by simp only[E8,seval]<;>rfl) (by simp only[E8,seval]<;>rfl)
  have k153:=kx c153 (bE (.v _) (.v _)) (.eE _ (bE (.v _) (.v _)))
  rw[cL Tryz.func95 rfl aLb rfl];simp only[Z8,seval,aGk,h1,k153,dM];exact dK rfl rfl rfl (by simp only[E8,seval]<;>rfl) (by simp only[E8,seval]<;>rfl)
 ·have h1:(decide (1≤p) && decide (p≤64))=false:=by
   rw[Bool.eq_false_iff];intro k;simp at k;exact h k
  rw[if_neg h];rw[cL Tryz.func95 rfl aLb rfl];simp only[Z8,seval,aGk,h1];exact dK rfl rfl rfl (by simp only[E8,seval]<;>rfl) (by simp only[E8,seval]<;>rfl)
theorem k95 {e p:Int} (h:Rg e) (st:St) (d:Option Nat):aN (aB Tryz.prog) 95 [.v (.int .u64 e),.v (.int .u64 p)] st d=some { dst:=d,val:=.eE [.v (.int .u64 (Nd e p).1),.v (.int .i64 (Nd e p).2)]}:=bG (bE (.v _) (.v _)) (c95 h.1 h.2) (.eE _ (bE (.v _) (.v _)))
theorem c94 {s:aL} (h:1≤s.cFg.kE∧s.cFg.kE≤64) (x:Int):aB Tryz.prog 94 [.v (.int .u64 x),.v (.int .u64 s.cFg.kE)]=some (.eE [.v (.int .u64 (xM s x)),.v (.int .i64 0)]):=by
 have h1:(decide (1≤s.cFg.kE) && decide (s.cFg.kE≤64))=true:=by simp[h]
 have h0:(s.cFg.kE=0)=False:=eq_false (by omega)
 rw[cL Tryz.func94 rfl aQn rfl];simp only[Z8,seval,aGk,h1,h0];exact dK rfl rfl rfl (by simp only[E8,seval,xM]<;>rfl) (by simp only[E8,seval,xM]<;>rfl)
theorem k94 {s:aL} (h:1≤s.cFg.kE∧s.cFg.kE≤64) (x:Int) (st:St) (d:Option Nat):aN (aB Tryz.prog) 94 [.v (.int .u64 x),.v (.int .u64 s.cFg.kE)] st d=some { dst:=d,val:=.eE [.v (.int .u64 (xM s x)),.v (.int .i64 0)]}:=bG (bE (.v _) (.v _)) (c94 h x) (.eE _ (bE (.v _) (.v _)))
theorem aCo (o:Option (List cJ)) (hn:((ol o).length:Int)<1000000) (r:cJ):∃x,aB Tryz.prog 250 [ov gY o,.agg (bD r)]=some x∧∃b:Bool,x=.v (.bool b):=by
 rw[cL Tryz.func250 rfl aLc (by cases o<;>rfl)]
 simp only[Z8,seval];refine cF (fun m st=>∃k:Nat,(st.env 0=ov gY o∧st.env 3=.ptr 3 0 0∧st.heap 3 0=some (.cells (bD r))∧st.env 5=.v (.int .i64 k))∧(∀j:Nat,j<k→¬(gx dR (ol o) (j:Int)=r))∧k≤(ol o).length∧m=(ol o).length-k)
  (fun e st=>(e=.ret∧∃k:Nat,k<(ol o).length∧(gx dR (ol o) (k:Int)=r)∧(∀j:Nat,j<k→¬(gx dR (ol o) (j:Int)=r))∧st.env 4=.v (.bool true))∨(e=.exit 0∧(∀j:Nat,j<(ol o).length→¬(gx dR (ol o) (j:Int)=r))∧st.env 0=ov gY o∧st.env 3=.ptr 3 0 0∧st.heap 3 0=some (.cells (bD r)))) ((ol o).length) ?step ?start ?rest
 case step =>
  rintro m st ⟨k,hI,hj,hk,hm⟩
  by_cases bA:(k:Int)<(ol o).length
  ·have q0:(0:Int)≤k:=by omega
   have hw:IntKind.i64.wrap ((k:Int)+1)=((k+1:Nat):Int):=by rw[mZ _ (by omega) (by omega)];omega
   by_cases hh:gx dR (ol o) (k:Int)=r
   ·apply oT (.ret)
    ·simp only[Z8,seval,hI,bA,q0,hh];rfl
    ·exact .inl ⟨rfl,k,by omega,hh,hj,by simp only[E8,seval]⟩
   ·apply oN ((ol o).length-(k+1))
    ·simp only[Z8,seval,hI,bA,q0,hh,hw];rfl
    ·exact⟨k+1,by simp only[E8,seval,hI],fun j h=>(Nat.lt_succ_iff_lt_or_eq.1 h).elim (hj j) fun e=>by subst e;exact hh,by omega,rfl⟩
  ·apply oT (.exit 0)
   ·simp only[Z8,seval,hI,bA];rfl
   ·exact .inr ⟨rfl,fun j h=>hj j (by omega),by simp only[E8,seval,hI]⟩
 case start=>exact⟨0,by simp only[E8,seval]<;>rfl,fun j h=>by omega,by omega,by omega⟩
 case rest =>
  rintro e st (⟨rfl,k,hk,hh,hj,h⟩|⟨rfl,hj,hI⟩)
  ·simp only[Z8,seval];exact⟨_,bX rfl (by simp only[E8,seval,h]<;>rfl) (by first|exact .v _|simp only[dV,h]),_,rfl⟩
  ·simp only[Z8,seval];exact⟨_,bX rfl (by simp only[E8,seval]<;>rfl) (by first|exact .v _|simp only[dV]),_,rfl⟩
theorem C7 (l:List Table) (c:dP):-1≤Ja l c∧Ja l c<l.length:=TX _ _
theorem aQo {s:aL} {v:SV} (hs:SD s v):∃x,aB Tryz.prog 239 [.agg (aA s)]=some x∧∃o:Option (List Int),x=ov bJ o∧((ol o).length:Int)<1000000:=by
 have SM:=hs.fT
 rw[cL Tryz.func239 rfl aLd rfl];have r1:=C7 (ol v.T) s.aU.gJ
 by_cases g1:Ja (ol v.T) s.aU.gJ<0
 ·simp only[Z8,seval,hs.tables,SL _ hs.nT SM,g1];exact⟨_,bX rfl (by simp only[E8,seval]<;>rfl) (by first|exact .v _|simp only[dV]),none,rfl,by simp[ol]⟩
 have q0:0≤Ja (ol v.T) s.aU.gJ:=by omega
 obtain⟨b,hb,hl⟩:=hs.tB _ (pF (z:=dX) q0 r1.2)
 simp only[Z8,seval,hs.tables,SL _ hs.nT SM,g1,q0,r1,hb];exact⟨_,bX rfl (by simp only[E8,seval,hb]<;>rfl) (dU b),b,rfl,hl⟩
theorem aQp (a b:Claim) (ha:Flat a.eU) (hb:Flat b.eU):∃x,aB Tryz.prog 234 [.agg (gU a),.agg (gU b)]=some x∧∃c:Bool,x=.v (.bool c):=by
 rw[cL Tryz.func234 rfl aLe rfl];by_cases g1:a.target=b.target
 ·by_cases g2:a.source=b.source
  ·by_cases g3:a.root=b.root
   all_goals
    have g4:¬a.source<b.source:=by omega
    have g5:¬b.source<a.source:=by omega
    simp only[Z8,seval,bt g1,bt g2,g3,g4,g5];exact⟨_,bX rfl (by simp only[E8,seval]<;>rfl) (by first|exact .v _|simp only[dV]),_,rfl⟩
  ·by_cases g4:a.source<b.source
   all_goals
    by_cases g5:b.source<a.source
    all_goals
     by_cases g6:b.target<a.target
     all_goals
      by_cases g7:a.target<b.target
      all_goals
       simp only[Z8,seval,bt g1,bf g2,g4,g5,g6,g7];exact⟨_,bX rfl (by simp only[E8,seval]<;>rfl) (by first|exact .v _|simp only[dV]),_,rfl⟩
 ·by_cases g4:a.source<b.source
  all_goals
   by_cases g5:b.source<a.source
   all_goals
    by_cases g6:b.target<a.target
    all_goals
     by_cases g7:a.target<b.target
     all_goals
      simp only[Z8,seval,bf g1,g4,g5,g6,g7];exact⟨_,bX rfl (by simp only[E8,seval]<;>rfl) (by first|exact .v _|simp only[dV]),_,rfl⟩
theorem aQq {s:aL} {v:SV} (hs:SD s v):∃x,aB Tryz.prog 209 [.agg (aA s)]=some x∧∃r:cJ,x=.agg (bD r):=by
 rw[cL Tryz.func209 rfl aLf rfl];have r1:=eZ v.ns s.aU.gJ.root
 by_cases g1:0≤aM v.ns s.aU.gJ.root
 ·by_cases g2:(nd v.ns (aM v.ns s.aU.gJ.root)).status=1
  ·simp only[Z8,seval,hs.tree,mQ _ _ hs.nn,g1,r1,bt g2];exact⟨_,fK rfl (by simp only[E8,seval]<;>rfl) (by simp only[Z8,seval]<;>rfl) (by simp only[dV,and_self]),_,rfl⟩
  ·simp only[Z8,seval,hs.tree,mQ _ _ hs.nn,g1,r1,bf g2];exact⟨_,fK rfl (by simp only[E8,seval]<;>rfl) (by simp only[Z8,seval]<;>rfl) (by simp only[dV,and_self]),_,rfl⟩
 ·simp only[Z8,seval,hs.tree,mQ _ _ hs.nn,g1];exact⟨_,fK rfl (by simp only[E8,seval]<;>rfl) (by simp only[Z8,seval]<;>rfl) (by simp only[dV,and_self]),_,rfl⟩
theorem aQr (c:Config) (hc:Flat c.iP) (x:Int):∃r,aB Tryz.prog 240 [.agg (bV c),.v (.int .u64 x)]=some r∧∃a e:Int,r=.eE [.v (.int .u64 a),.v (.int .i64 e)]:=by
 rw[cL Tryz.func240 rfl aLg rfl];by_cases g1:c.kE<1
 ·simp only[Z8,seval,g1];exact⟨_,dK rfl rfl rfl (by simp only[E8,seval]<;>rfl) (by simp only[E8,seval]<;>rfl),_,_,rfl⟩
 by_cases g2:64<c.kE
 ·simp only[Z8,seval,g1,g2];exact⟨_,dK rfl rfl rfl (by simp only[E8,seval]<;>rfl) (by simp only[E8,seval]<;>rfl),_,_,rfl⟩
 by_cases g3:100<c.He
 ·simp only[Z8,seval,g1,g2,g3];exact⟨_,dK rfl rfl rfl (by simp only[E8,seval]<;>rfl) (by simp only[E8,seval]<;>rfl),_,_,rfl⟩
 by_cases g4:4611686018427387904<x
 ·simp only[Z8,seval,g1,g2,g3,g4];exact⟨_,dK rfl rfl rfl (by simp only[E8,seval]<;>rfl) (by simp only[E8,seval]<;>rfl),_,_,rfl⟩
 have g5:(c.kE=0)=False:=eq_false (by omega)
 simp only[Z8,seval,g1,g2,g3,g4,g5];exact⟨_,dK rfl rfl rfl (by simp only[E8,seval]<;>rfl) (by simp only[E8,seval]<;>rfl),_,_,rfl⟩
noncomputable def aGl (o:Option (List cJ)) (r:cJ):Bool:=if h:((ol o).length:Int)<1000000 then Classical.choose (Classical.choose_spec (aCo o h r)).2 else false
theorem aQs (o:Option (List cJ)) (hn:((ol o).length:Int)<1000000) (r:cJ) (st:St) (d:Option Nat):aN (aB Tryz.prog) 250 [ov gY o,.agg (bD r)] st d=some { dst:=d,val:=.v (.bool (aGl o r))}:=by
 have h:=(Classical.choose_spec (aCo o hn r)).1
 rw[Classical.choose_spec (Classical.choose_spec (aCo o hn r)).2] at h;rw[show aGl o r=Classical.choose (Classical.choose_spec (aCo o hn r)).2 from dif_pos hn];exact bG (bE (Hf o) (qR r)) h (.v _)
theorem aQt (o:Option (List Int)) (hn:((ol o).length:Int)<999999) (x:Int):∃r,aB Tryz.prog 235 [ov aK o,.v (.int .i64 x)]=some r∧(r=ov aK o∨∃L:List Int,r=.uniq 3 1 L.length (aK L)∧L.length=(ol o).length+1):=by
 rw[cG Tryz.func235 rfl aLh (by kernel_rfl) (by cases o<;>rfl)]
 simp only[ZG,seval,Bool.false_and,Prod.mk.injEq,Xe];refine jH (fun m st=>∃k:Nat,(st.env 0=ov aK o∧st.env 1=.v (.int .i64 x)∧st.env 5=.v (.int .i64 k))∧k≤(ol o).length∧m=(ol o).length-k)
  (fun e st=>e=.exit 0∧∃k:Nat,(st.env 0=ov aK o∧st.env 1=.v (.int .i64 x)∧st.env 5=.v (.int .i64 k))∧k≤(ol o).length) (ol o).length ?step ?start ?rest
 case step =>
  rintro m st ⟨k,hI,hk,hm⟩
  by_cases bA:(k:Int)<(ol o).length
  ·have q0:(0:Int)≤k:=by omega
   have hw:IntKind.i64.wrap ((k:Int)+1)=((k+1:Nat):Int):=by rw[mZ _ (by omega) (by omega)];omega
   by_cases h1:gx (0:Int) (ol o) (k:Int)<x
   ·apply Am ((ol o).length-(k+1))
    ·simp only[ZG,seval,Bool.false_and,Prod.mk.injEq,Xe,hI,bA,q0,h1,hw];rfl
    ·exact⟨k+1,by simp only[E8,seval,hI],by omega,rfl⟩
   ·apply AX (.exit 0)
    ·simp only[ZG,seval,Bool.false_and,Prod.mk.injEq,Xe,hI,bA,q0,h1];rfl
    ·exact⟨rfl,k,by simp only[E8,seval,hI],hk⟩
  ·apply AX (.exit 0)
   ·simp only[ZG,seval,Bool.false_and,Prod.mk.injEq,Xe,hI,bA];rfl
   ·exact⟨rfl,k,by simp only[E8,seval,hI],hk⟩
 case start=>exact⟨0,by simp only[E8,seval]<;>rfl,by omega,by omega⟩
 case rest =>
  rintro e st ⟨rfl,k,hI,hk⟩
  have e1:ol (o.map (·.take k))=(ol o).take k:=by cases o<;>simp[ol]
  have e2:ol (o.map (·.drop k))=(ol o).drop k:=by cases o<;>simp[ol]
  have n1:((((ol o).take k).length:Nat):Int)<1000000:=by rw[List.length_take];omega
  have n2:((((ol o).drop k).length:Nat):Int)<1000000:=by rw[List.length_drop];omega
  have n3:((((ol o).take k++[x]).length:Nat):Int)<1000000:=by rw[List.length_append,List.length_take];simp;omega
  have q0:(0:Int)≤k:=by omega
  have q1:(k:Int)≤((ol o).length:Int):=by omega
  have go:∃r,some (AV.uniq 3 1 ((ol o).take k++[x]++(ol o).drop k).length (aK ((ol o).take k++[x]++(ol o).drop k)))=some r∧(r=ov aK o∨∃L:List Int,r=.uniq 3 1 L.length (aK L)∧L.length=(ol o).length+1) :=
   ⟨_,rfl,.inr ⟨_,rfl,by simp;omega⟩⟩
  by_cases bA:(k:Int)<(ol o).length
  ·by_cases h2:gx (0:Int) (ol o) (k:Int)=x
   ·simp only[ZG,seval,Bool.false_and,Prod.mk.injEq,Xe,hI,bA,q0,bt h2];exact⟨_,bX rfl (by simp only[E8,seval,hI]<;>rfl) (bW o),.inl rfl⟩
   ·simp only[ZG,seval,Bool.false_and,Prod.mk.injEq,Xe,Bf,Bg,and_self,hI,bA,q0,q1,bf h2,Int.toNat_natCast,e1,e2,Nv _ n1,Em _ _ _ _ n1,GS _ _ _ _ n3 n2];refine⟨_,tO rfl (by simp only[E8,seval]<;>rfl) (by simp only[E8,seval]<;>rfl) (gF _),.inr ⟨_,rfl,by simp;omega⟩⟩
  ·simp only[ZG,seval,Bool.false_and,Prod.mk.injEq,Xe,Bf,Bg,and_self,hI,bA,q0,q1,Int.toNat_natCast,e1,e2,Nv _ n1,Em _ _ _ _ n1,GS _ _ _ _ n3 n2];refine⟨_,tO rfl (by simp only[E8,seval]<;>rfl) (by simp only[E8,seval]<;>rfl) (gF _),.inr ⟨_,rfl,by simp;omega⟩⟩
theorem aQu (o:Option (List Int)) (hn:((ol o).length:Int)<1000000) (a:Int):aB Tryz.prog 49 [ov aK o,.v (.int .i64 a)]=some (.v (.bool (decide (a∈ol o)))):=by
 cases o with
 | none=>rw[show ol (none:Option (List Int))=[] from rfl];simp only[List.not_mem_nil,decide_false];exact aJQ a
 | some l=>exact c49 l a hn
theorem aGm (o:Option (List Int)) (hn:((ol o).length:Int)<1000000) (a:Int) (st:St) (d:Option Nat):aN (aB Tryz.prog) 49 [ov aK o,.v (.int .i64 a)] st d=some { dst:=d,val:=.v (.bool (decide (a∈ol o)))}:=bG (bE (bW o) (.v _)) (aQu o hn a) (.v _)
theorem aQv (t:uW) (L:Option (List kN)) (Q:Option (List Int)) (hL:t.eA=ov dC L) (hQ:t.gW=ov aK Q) (nL:((ol L).length:Int)<1000000) (nQ:((ol Q).length:Int)<1000000)
 (B:Option (List Int)) (nB:((ol B).length:Int)<1000000) (R:Option (List cJ)) (nR:((ol R).length:Int)<1000000) :
 ∃r,aB Tryz.prog 248 [.agg (fD t),ov bJ B,ov gY R]=some r∧∃a:Int,r=.v (.int .u64 a):=by
 rw[cL Tryz.func248 rfl aLi (by cases B<;>cases R<;>rfl)]
 simp only[Z8,seval];refine cF (fun m st=>∃(k:Nat) (a:Int),(st.env 1=ov bJ B∧st.env 2=ov gY R∧st.env 3=.ptr 3 0 0∧st.heap 3 0=some (.cells (fD t))∧st.env 7=.v (.int .u64 a)∧st.env 8=.v (.int .i64 k))∧k≤(ol B).length∧m=(ol B).length-k)
  (fun e st=>e=.exit 0∧∃a:Int,st.env 7=.v (.int .u64 a)) (ol B).length ?step ?start ?rest
 case step =>
  rintro m st ⟨k,a,hI,hk,hm⟩
  by_cases bA:(k:Int)<(ol B).length
  ·have q0:(0:Int)≤k:=by omega
   have hw:IntKind.i64.wrap ((k:Int)+1)=((k+1:Nat):Int):=by rw[mZ _ (by omega) (by omega)];omega
   by_cases h1:(k:Int)<(ol L).length
   ·cases h2:(gx tI (ol L) (k:Int)).has
    ·apply oN ((ol B).length-(k+1))
     ·simp only[Z8,seval,hI,bA,q0,hL,hQ,h1,h2,hw];rfl
     ·exact⟨k+1,_,by simp only[E8,seval,hI]<;>rfl,by omega,rfl⟩
    ·by_cases h3:(k:Int)∈ol Q
     ·apply oN ((ol B).length-(k+1))
      ·simp only[Z8,seval,hI,bA,q0,hL,hQ,h1,h2,aGm Q nQ,h3,decide_true,hw];rfl
      ·exact⟨k+1,_,by simp only[E8,seval,hI]<;>rfl,by omega,rfl⟩
     ·cases h4:aGl R (gx tI (ol L) (k:Int)).root
      all_goals
       refine oX (st':=?_) ?_ ((ol B).length-(k+1)) (by omega) ?_
       rotate_left
       ·simp only[Z8,seval,hI,bA,q0,hL,hQ,h1,h2,aGm Q nQ,h3,decide_false,aQs R nR,h4,hw];rfl
       ·exact⟨k+1,_,by simp only[E8,seval,hI]<;>rfl,by omega,rfl⟩
   ·apply oT (.exit 0)
    ·simp only[Z8,seval,hI,bA,q0,hL,h1];rfl
    ·exact⟨rfl,a,by simp only[E8,seval,hI]⟩
  ·apply oT (.exit 0)
   ·simp only[Z8,seval,hI,bA];rfl
   ·exact⟨rfl,a,by simp only[E8,seval,hI]⟩
 case start=>exact⟨0,0,by simp only[E8,seval]<;>rfl,by omega,by omega⟩
 case rest =>
  rintro e st ⟨rfl,a,h⟩
  simp only[Z8,seval,h];exact⟨_,bX rfl (by simp only[E8,seval,h]<;>rfl) (by first|exact .v _|simp only[dV,h]),_,rfl⟩
theorem aQw (ns:List Node) (hn:(ns.length:Int)<1000000) (l:List Int) (hl:l.length=ns.length) (r:cJ) (a:Int):∃x,aB Tryz.prog 243 [.agg (cO ⟨ns⟩),.sl l.length (bJ l),.agg (bD r),.v (.int .u64 a)]=some x∧∃m:List Int,x=.uniq 23 1 m.length (bJ m)∧m.length=ns.length:=by
 have Gk:(l.length:Int)<1000000:=by omega
 have rr:=eZ ns r
 rw[cL Tryz.func243 rfl aLj rfl];by_cases g1:0≤aM ns r
 case neg =>
  simp only[Z8,seval,Ek _ Gk,mQ _ _ hn,g1];exact⟨_,tO rfl (by simp only[E8,seval]<;>rfl) (by simp only[E8,seval]<;>rfl) (iF _),l,rfl,hl⟩
 by_cases g2:(nd ns (aM ns r)).status=2
 ·simp only[Z8,seval,Ek _ Gk,mQ _ _ hn,g1,rr,bt g2];exact⟨_,tO rfl (by simp only[E8,seval]<;>rfl) (by simp only[E8,seval]<;>rfl) (iF _),l,rfl,hl⟩
 by_cases g3:r=dR
 ·subst g3;simp only[Z8,seval,Ek _ Gk,mQ _ _ hn,g1,rr,bf g2];exact⟨_,tO rfl (by simp only[E8,seval]<;>rfl) (by simp only[E8,seval]<;>rfl) (iF _),l,rfl,hl⟩
 have q1:aM ns r<(l.length:Int):=by omega
 have q2:(aM ns r).toNat<l.length:=by omega
 have q3:(aM ns r).toNat+1≤l.length:=by omega
 have hy:=C8 g1 q1
 have Mo:∀z:Int,dQ (bJ l) (aM ns r).toNat [.v (.int .u64 z)] ((aM ns r).toNat+1)=bJ (l.set (aM ns r).toNat z):=fun z=>by
  have:=P7 l (aM ns r) z q2
  simpa using this
 have ld:=P8 (T:=23) (n:=l.length) (k:=1) g1 q1 UC (by decide) (by decide)
 rw[Nat.mul_one] at ld;simp only[Z8,seval,Ek _ Gk,mQ ns r hn,g1,rr,bf g2,g3,q1,q2,q3,hy,Mo,ld,Nat.mul_one];exact⟨_,tO rfl (by simp only[E8,seval]<;>rfl) (by simp only[E8,seval]<;>rfl) (iF _),_,by rw[List.length_set],by rw[List.length_set];exact hl⟩
theorem aCp (r:cJ):gY [r]=bD r:=by simp[gY]
theorem P9 (r:cJ):jG (some (.row 27 32 1 (bD r)))=some (.sl 1 (gY [r])):=by rw[← aCp];exact wE 1 [r]
noncomputable def aLk (t:uW) (B:Option (List Int)) (r:cJ):Int:=if h:∃a:Int,aB Tryz.prog 248 [.agg (fD t),ov bJ B,ov gY (some [r])]=some (.v (.int .u64 a)) then Classical.choose h else 0
theorem aLl (t:uW) (L:Option (List kN)) (Q:Option (List Int)) (hL:t.eA=ov dC L) (hQ:t.gW=ov aK Q) (nL:((ol L).length:Int)<1000000) (nQ:((ol Q).length:Int)<1000000)
 (B:Option (List Int)) (nB:((ol B).length:Int)<1000000) (r:cJ) (s g:Nat) (st:St) (d:Option Nat) (hh:st.heap s g=some (.row 27 32 1 (bD r))) :
 aN (aB Tryz.prog) 248 [.agg (fD t),ov bJ B,.own s g] st d=some { dst:=d,val:=.v (.int .u64 (aLk t B r))}:=by
 obtain⟨x,hx,a,rfl⟩:=aQv t L Q hL hQ nL nQ B nB (some [r]) (by simp[ol])
 have he:∃a:Int,aB Tryz.prog 248 [.agg (fD t),ov bJ B,ov gY (some [r])]=some (.v (.int .u64 a)):=⟨a,hx⟩
 have hf:Flat (.agg (fD t)):=(Nj t).2 ⟨by rw[hL];exact qY L,by rw[hQ];exact bW Q⟩
 rw[show aLk t B r=Classical.choose he from dif_pos he];rw[jS,List.map_cons,List.map_cons,List.map_cons,List.map_nil,eB hf,eB (dU B),vP,hh,P9,bN,bN,bN,fR];exact Su (Classical.choose_spec he)
theorem aQx (ns:List Node) (hn:(ns.length:Int)<1000000) (h0:0<ns.length) (t:uW) (L:Option (List kN)) (Q:Option (List Int)) (hL:t.eA=ov dC L) (hQ:t.gW=ov aK Q) (nL:((ol L).length:Int)<1000000) (nQ:((ol Q).length:Int)<1000000)
 (B:Option (List Int)) (nB:((ol B).length:Int)<1000000) :
 ∃x,aB Tryz.prog 241 [.agg (cO ⟨ns⟩),.agg (fD t),ov bJ B]=some x∧∃m:List Int,x=.uniq 23 1 m.length (bJ m)∧m.length=ns.length:=by
 have kw:=fun r g=>aLl t L Q hL hQ nL nQ B nB r 33 g
 rw[cL Tryz.func241 rfl aLm (by cases B<;>rfl)]
 simp only[Z8,seval];refine cF (fun m st=>∃k:Nat,(st.env 3=.ptr 3 0 0∧st.heap 3 0=some (.cells (cO ⟨ns⟩))∧st.env 4=.ptr 4 0 0∧st.heap 4 0=some (.cells (fD t))∧st.env 2=ov bJ B∧st.env 8=.v (.int .i64 k))∧((k=0∧st.env 7=.v (.slice none 0 0))∨∃(l:List Int) (g:Nat),st.env 7=.own 38 g∧g<st.aQ 38∧st.heap 38 g=some (.row 23 1 l.length (bJ l))∧l.length=k)∧k≤ns.length∧m=ns.length-k)
  (fun e st=>e=.exit 0∧∃(l:List Int) (g:Nat),st.env 7=.own 38 g∧st.heap 38 g=some (.row 23 1 l.length (bJ l))∧l.length=ns.length) ns.length ?step ?start ?rest
 case step =>
  rintro m st ⟨k,hI,h7,hk,hm⟩
  by_cases bA:(k:Int)<ns.length
  ·have q0:(0:Int)≤k:=by omega
   have hw:IntKind.i64.wrap ((k:Int)+1)=((k+1:Nat):Int):=by rw[mZ _ (by omega) (by omega)];omega
   by_cases h1:(nd ns k).status=2
   ·rcases h7 with ⟨qA,h7⟩|⟨l,g,h7,hg,Fy,hl⟩
    ·apply oN (ns.length-(k+1))
     ·simp only[Z8,seval,hI,h7,bA,q0,bt h1,hw];rfl
     ·exact⟨k+1,by simp only[E8,seval,hI],.inr ⟨[0],st.aQ 38,by simp only[E8,seval]<;>rfl,by simp only[E8,seval]<;>omega,by simp only[E8,seval]<;>rfl,by simp;omega⟩,by omega,rfl⟩
    ·have nl:(l.length:Int)<1000000:=by omega
     apply oN (ns.length-(k+1))
     ·simp only[Z8,seval,hI,h7,Fy,bA,q0,bt h1,hw,wF _ _ _ _ nl];rfl
     ·exact⟨k+1,by simp only[E8,seval,hI],.inr ⟨_,st.aQ 38,by simp only[E8,seval]<;>rfl,by simp only[E8,seval]<;>omega,by simp only[E8,seval]<;>rfl,by rw[List.length_append];simp;omega⟩,by omega,rfl⟩
   ·rcases h7 with ⟨qA,h7⟩|⟨l,g,h7,hg,Fy,hl⟩
    ·apply oN (ns.length-(k+1))
     ·simp only[Z8,seval,hI,h7,bA,q0,bf h1,kw (nd ns k).block.root,hw];rfl
     ·exact⟨k+1,by simp only[E8,seval,hI],.inr ⟨[_],st.aQ 38,by simp only[E8,seval]<;>rfl,by simp only[E8,seval]<;>omega,by simp only[E8,seval]<;>rfl,by simp;omega⟩,by omega,rfl⟩
    ·have nl:(l.length:Int)<1000000:=by omega
     apply oN (ns.length-(k+1))
     ·simp only[Z8,seval,hI,h7,Fy,bA,q0,bf h1,kw (nd ns k).block.root,hw,wF _ _ _ _ nl];rfl
     ·exact⟨k+1,by simp only[E8,seval,hI],.inr ⟨_,st.aQ 38,by simp only[E8,seval]<;>rfl,by simp only[E8,seval]<;>omega,by simp only[E8,seval]<;>rfl,by rw[List.length_append];simp;omega⟩,by omega,rfl⟩
  ·have Az:k=ns.length:=by omega
   rcases h7 with ⟨qA,h7⟩|⟨l,g,h7,hg,Fy,hl⟩
   ·omega
   ·apply oT (.exit 0)
    ·simp only[Z8,seval,hI,bA];rfl
    ·exact⟨rfl,l,g,by simp only[E8,seval,h7],by simp only[E8,seval,Fy],by omega⟩
 case start=>exact⟨0,by simp only[E8,seval]<;>rfl,.inl ⟨rfl,by simp only[E8,seval]⟩,by omega,by omega⟩
 case rest =>
  rintro e st ⟨rfl,l,g,h7,Fy,hl⟩
  simp only[Z8,seval,h7];exact⟨_,tO rfl (by simp only[E8,seval,h7]<;>rfl) (by simp only[E8,seval,Fy]<;>rfl) (iF _),l,rfl,hl⟩
theorem aQy (ns:List Node) (hu:gM ns) (hn:(ns.length:Int)<1000000) (h0:0<ns.length) (l:List Int) (hl:l.length=ns.length) :
 ∃x,aB Tryz.prog 242 [.agg (cO ⟨ns⟩),.sl l.length (bJ l)]=some x∧∃m:List Int,x=.uniq 23 1 m.length (bJ m)∧m.length=ns.length:=by
 rw[cL Tryz.func242 rfl aLn rfl];simp only[Z8,seval];refine cF (fun m st=>∃k:Nat,(st.env 2=.ptr 2 0 0∧st.heap 2 0=some (.cells (cO ⟨ns⟩))∧st.env 1=.sl l.length (bJ l)∧st.env 6=.v (.int .i64 k))∧((k=0∧st.env 5=.v (.slice none 0 0))∨∃(l:List Int) (g:Nat),st.env 5=.own 38 g∧g<st.aQ 38∧st.heap 38 g=some (.row 23 1 l.length (bJ l))∧l.length=k)∧k≤ns.length∧m=ns.length-k)
  (fun e st=>e=.exit 0∧∃(l:List Int) (g:Nat),st.env 5=.own 38 g∧st.heap 38 g=some (.row 23 1 l.length (bJ l))∧l.length=ns.length) ns.length ?step ?start ?rest
 case step =>
  rintro m st ⟨k,hI,h5,hk,hm⟩
  by_cases bA:(k:Int)<ns.length
  ·have q0:(0:Int)≤k:=by omega
   have hw:IntKind.i64.wrap ((k:Int)+1)=((k+1:Nat):Int):=by rw[mZ _ (by omega) (by omega)];omega
   have kd:=k64 ns hu hn k (TK hu q0 bA ns.length bA)
   have hrg:=YY ns k
   have hdl:=Uz ns k ns.length
   obtain⟨D,hD⟩:∃D,Fz ns k ns.length=D:=⟨_,rfl⟩
   rw[hD] at kd hrg hdl;simp only[Z8,seval,hI,bA,q0,kd];refine z6 (fun mm st'=>∃(j:Nat) (a:Int),(st'.env 2=.ptr 2 0 0∧st'.heap 2 0=some (.cells (cO ⟨ns⟩))∧st'.env 1=.sl l.length (bJ l)∧st'.env 6=.v (.int .i64 k)∧st'.env 5=st.env 5∧st'.aQ 38=st.aQ 38∧(∀g,st'.heap 38 g=st.heap 38 g)∧st'.env 7=.v (.int .u64 a)∧st'.env 8=.own 19 (st.aQ 19)∧st'.heap 19 (st.aQ 19)=some (.row 3 1 D.length (aK D))∧st'.env 9=.v (.int .i64 j))∧j≤D.length∧mm=D.length-j)
    (fun e st'=>e=.exit 2∧∃a:Int,(st'.env 2=.ptr 2 0 0∧st'.heap 2 0=some (.cells (cO ⟨ns⟩))∧st'.env 1=.sl l.length (bJ l)∧st'.env 6=.v (.int .i64 k)∧st'.env 5=st.env 5∧st'.aQ 38=st.aQ 38∧(∀g,st'.heap 38 g=st.heap 38 g)∧st'.env 7=.v (.int .u64 a))) D.length ?MK ?Xf ?Xg
   case MK =>
    rintro mm st' ⟨j,a,hJ,hj,hmm⟩
    by_cases hjl:(j:Int)<D.length
    ·have p0:(0:Int)≤j:=by omega
     have hw2:IntKind.i64.wrap ((j:Int)+1)=((j+1:Nat):Int):=by rw[mZ _ (by omega) (by omega)];omega
     obtain⟨hjt,hje⟩:=xJ p0 hjl
     have hx:=hrg _ (List.getElem_mem hjt)
     rw[← hje] at hx;have x0:=hx.1
     have x1:it D j<(l.length:Int):=by omega
     have gi:=nM p0 hjl
     apply oN (D.length-(j+1))
     ·simp only[Z8,seval,hJ,hjl,p0,x0,x1,gi,hw2];rfl
     ·exact⟨j+1,IntKind.u64.wrap (a+gx (0:Int) l (it D j)),by simp only[E8,seval,hJ,implies_true,and_self],by omega,rfl⟩
    ·apply oT (.exit 2)
     ·simp only[Z8,seval,hJ,hjl];rfl
     ·exact⟨rfl,a,by simp only[E8,seval,hJ,implies_true,and_self]⟩
   case Xf=>exact⟨0,0,by simp only[E8,seval,hI,implies_true,and_self]<;>rfl,by omega,by omega⟩
   case Xg =>
    rintro e st' ⟨rfl,a,hJ⟩
    obtain⟨j2,j2',j1,j6,j5,jc,jh,j7⟩:=hJ
    rcases h5 with ⟨qA,h5⟩|⟨l',g,h5,hg,Ak,Gk⟩
    ·rw[h5] at j5;refine O0 (st':=?s3) ?h3 (ns.length-(k+1)) (by omega) ?q3
     case h3 =>
      simp only[Z8,seval,j2,j2',j1,j6,j5,jc,j7,hw];rfl
     case q3=>exact⟨k+1,by simp only[E8,seval,j2,j2',j1],.inr ⟨[a],st.aQ 38,by simp only[E8,seval,jc]<;>rfl,by simp only[E8,seval,jc]<;>omega,by simp only[E8,seval,jc]<;>rfl,by simp;omega⟩,by omega,rfl⟩
    ·rw[h5] at j5;have nl:(l'.length:Int)<1000000:=by omega
     have jhh:=jh g
     rw[Ak] at jhh;refine O0 (st':=?s4) ?h4 (ns.length-(k+1)) (by omega) ?q4
     case h4 =>
      simp only[Z8,seval,j2,j2',j1,j6,j5,jc,jhh,j7,hw,wF _ _ _ _ nl];rfl
     case q4=>exact⟨k+1,by simp only[E8,seval,j2,j2',j1],.inr ⟨l'++[a],st.aQ 38,by simp only[E8,seval,jc]<;>rfl,by simp only[E8,seval,jc]<;>omega,by simp only[E8,seval,jc]<;>rfl,by rw[List.length_append];simp;omega⟩,by omega,rfl⟩
  ·have Az:k=ns.length:=by omega
   rcases h5 with ⟨qA,h5⟩|⟨l,g,h5,hg,Ak,hl⟩
   ·omega
   ·apply oT (.exit 0)
    ·simp only[Z8,seval,hI,bA];rfl
    ·exact⟨rfl,l,g,by simp only[E8,seval,h5],by simp only[E8,seval,Ak],by omega⟩
 case start=>exact⟨0,by simp only[E8,seval]<;>rfl,.inl ⟨rfl,by simp only[E8,seval]⟩,by omega,by omega⟩
 case rest =>
  rintro e st ⟨rfl,l,g,h5,Ak,hl⟩
  simp only[Z8,seval,h5];exact⟨_,tO rfl (by simp only[E8,seval,h5]<;>rfl) (by simp only[E8,seval,Ak]<;>rfl) (iF _),l,rfl,hl⟩
theorem aQz {s:aL} {v:SV} {q:Int} (h:GI s v q):∃x,aB Tryz.prog 223 [.agg (aA s)]=some x∧∃m:List Int,x=.uniq 23 1 m.length (bJ m)∧m.length=v.ns.length:=by
 have hf:=h.sd.flat
 have hn:=h.sd.nn
 obtain⟨r1,e1,o,rfl,ho⟩:=aQo h.sd
 have k239:=kx e1 (cU hf) (dU o)
 obtain⟨r2,e2,a,c,rfl,_⟩:=aKO o ho
 have B9:=kx e2 (cU (dU o)) (.eE _ (bE (.v _) (.v _)))
 have hcb:Flat s.cFg.iP:=h.sd.fl.1
 obtain⟨r3,e3,a3,c3,rfl⟩:=aQr s.cFg hcb a
 have k240:=kx e3 (bE ((yO _).2 hcb) (.v _)) (.eE _ (bE (.v _) (.v _)))
 obtain⟨r4,e4,m1,rfl,hm1⟩:=aQx v.ns hn h.pos s.gH v.L v.Q h.sd.eA h.sd.gW h.sd.nL h.sd.nQ o ho
 have hfv:Flat (.agg (fD s.gH)):=(Nj _).2 ⟨h.sd.fl.2.1,h.sd.fl.2.2.1⟩
 have k241:∀(st:St),aN (aB Tryz.prog) 241 [.agg (cO ⟨v.ns⟩),.agg (fD s.gH),ov bJ o] st (some 28)=_:=fun st=>jF (st:=st) (d:=28) (mD (mC _) hfv (dU o)) e4
 obtain⟨r5,e5,m2,rfl,hm2⟩:=aQw v.ns hn m1 hm1 s.eR a3
 have k243:∀(st:St) (g:Nat),st.heap 28 g=some (.row 23 1 m1.length (bJ m1))→aN (aB Tryz.prog) 243 [.agg (cO ⟨v.ns⟩),.own 28 g,.agg (bD s.eR),.v (.int .u64 a3)] st (some 37)=some { dst:=some 37,val:=.own 37 (st.aQ 37),new:=some (37,[.row 23 1 m2.length (bJ m2)])}:=by
  intro st g hh;rw[jS,List.map_cons,List.map_cons,List.map_cons,List.map_cons,List.map_nil,Jc,vP,hh,uH,Qu,Lf,bN,bN,bN,bN,fR];exact Q0 e5 (DO m2)
 obtain⟨r6,e6,m3,rfl,hm3⟩:=aQy v.ns h.up hn h.pos m2 hm2
 have k242:∀(st:St) (g:Nat),st.heap 37 g=some (.row 23 1 m2.length (bJ m2))→aN (aB Tryz.prog) 242 [.agg (cO ⟨v.ns⟩),.own 37 g] st (some 38)=some { dst:=some 38,val:=.own 38 (st.aQ 38),new:=some (38,[.row 23 1 m3.length (bJ m3)])}:=by
  intro st g hh;rw[jS,List.map_cons,List.map_cons,List.map_nil,Jc,vP,hh,uH,bN,bN,fR];exact Q0 e6 (DO m3)
 rw[cL Tryz.func223 rfl aLo rfl];simp only[Z8,seval,k239,B9,dM,k240,h.sd.tree,k241,k243,k242];exact⟨_,tO rfl (by simp only[E8,seval]<;>rfl) (by simp only[E8,seval]<;>rfl) (iF _),m3,rfl,hm3⟩
noncomputable def BJ (s:aL) (v:SV) (i:Int):dP:=if 0≤i∧i<v.ns.length then (if xM s (nd v.ns i).block.slot<xM s s.now then (nd v.ns i).block.dW.pj else (nd v.ns i).block.gJ) else gN
theorem aQA {s:aL} {v:SV} (hs:SD s v) (hp:s.cFg.kE≠0) (i:Int):aB Tryz.prog 252 [.agg (aA s),.v (.int .i64 i)]=some (.agg (aY (BJ s v i))):=by
 have hf:=hs.flat
 rw[cL Tryz.func252 rfl aLp rfl];refine iN ?_
 by_cases g1:0≤i
 case neg =>
  have hv:BJ s v i=gN:=if_neg (fun h=>g1 h.1)
  simp only[Z8,seval,Wv hs,g1,Bool.false_and];exact⟨_,fK rfl (by simp only[E8,seval]<;>rfl) (by simp only[Z8,seval]<;>rfl) (by simp only[dV,and_self]),by rw[hv]⟩
 by_cases g2:i<(v.ns.length:Int)
 case neg =>
  have hv:BJ s v i=gN:=if_neg (fun h=>g2 h.2)
  simp only[Z8,seval,Wv hs,g1,g2,Bool.and_false];exact⟨_,fK rfl (by simp only[E8,seval]<;>rfl) (by simp only[Z8,seval]<;>rfl) (by simp only[dV,and_self]),by rw[hv]⟩
 by_cases g3:xM s (nd v.ns i).block.slot<xM s s.now
 ·have hv:BJ s v i=(nd v.ns i).block.dW.pj:=by unfold BJ;rw[if_pos ⟨g1,g2⟩,if_pos g3]
  simp only[Z8,seval,Wv hs,g1,g2,hs.tree,Mp s hp hf,g3];exact⟨_,fK rfl (by simp only[E8,seval]<;>rfl) (by simp only[Z8,seval]<;>rfl) (by simp only[dV,and_self]),by rw[hv]⟩
 ·have hv:BJ s v i=(nd v.ns i).block.gJ:=by unfold BJ;rw[if_pos ⟨g1,g2⟩,if_neg g3]
  simp only[Z8,seval,Wv hs,g1,g2,hs.tree,Mp s hp hf,g3];exact⟨_,fK rfl (by simp only[E8,seval]<;>rfl) (by simp only[Z8,seval]<;>rfl) (by simp only[dV,and_self]),by rw[hv]⟩
theorem aCr {s:aL} {v:SV} (hs:SD s v) (hp:s.cFg.kE≠0) (i:Int) (st:St) (d:Option Nat):aN (aB Tryz.prog) 252 [.agg (aA s),.v (.int .i64 i)] st d=some { dst:=d,val:=.agg (aY (BJ s v i))}:=bG (bE hs.flat (.v _)) (aQA hs hp i) (.agg _ (bM _))
theorem aLq {s:aL} {v:SV} (hs:SD s v) (hp:s.cFg.kE≠0) (i:Int):∃r,aB Tryz.prog 249 [.agg (aA s),.v (.int .i64 i)]=some r∧∃b:Bool,r=.v (.bool b):=by
 have hf:=hs.flat
 rw[cL Tryz.func249 rfl aLr rfl];by_cases g1:0≤i
 case neg =>
  simp only[Z8,seval,Wv hs,g1,Bool.false_and];exact⟨_,bX rfl (by simp only[E8,seval]<;>rfl) (by first|exact .v _|simp only[dV]),_,rfl⟩
 by_cases g2:i<(v.ns.length:Int)
 case neg =>
  simp only[Z8,seval,Wv hs,g1,g2,Bool.and_false];exact⟨_,bX rfl (by simp only[E8,seval]<;>rfl) (by first|exact .v _|simp only[dV]),_,rfl⟩
 by_cases g3:(nd v.ns i).status=2
 ·simp only[Z8,seval,Wv hs,g1,g2,hs.tree,bt g3];exact⟨_,bX rfl (by simp only[E8,seval]<;>rfl) (by first|exact .v _|simp only[dV]),_,rfl⟩
 by_cases g4:s.aU.gJ.aG=0
 ·simp only[Z8,seval,Wv hs,g1,g2,hs.tree,bf g3,aCr hs hp,bt g4];exact⟨_,bX rfl (by simp only[E8,seval]<;>rfl) (by first|exact .v _|simp only[dV]),_,rfl⟩
 by_cases g5:(BJ s v i).aG=s.aU.gJ.aG
 ·simp only[Z8,seval,Wv hs,g1,g2,hs.tree,bf g3,aCr hs hp,bf g4,bt g5];exact⟨_,bX rfl (by simp only[E8,seval]<;>rfl) (by first|exact .v _|simp only[dV]),_,rfl⟩
 by_cases g6:xM s s.now≤(BJ s v i).aG
 ·simp only[Z8,seval,Wv hs,g1,g2,hs.tree,bf g3,aCr hs hp,bf g4,bf g5,Mp s hp hf,g6];exact⟨_,bX rfl (by simp only[E8,seval]<;>rfl) (by first|exact .v _|simp only[dV]),_,rfl⟩
 ·simp only[Z8,seval,Wv hs,g1,g2,hs.tree,bf g3,aCr hs hp,bf g4,bf g5,Mp s hp hf,g6];exact⟨_,bX rfl (by simp only[E8,seval]<;>rfl) (by first|exact .v _|simp only[dV]),_,rfl⟩
end Go.Ab.Tryz
