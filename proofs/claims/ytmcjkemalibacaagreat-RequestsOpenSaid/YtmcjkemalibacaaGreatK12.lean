/-
  Part 12 of the proof: an evaluator of programs, its soundness, and what functions of this program compute.
-/
import Derived.Test.YtmcjkemalibacaaGreatK11
import Derived.Test.YtmcjkemalibacaaGreatK10
import Derived.Test.YtmcjkemalibacaaGreatK9
set_option linter.all false
set_option maxRecDepth 20000
set_option maxHeartbeats 40000000
namespace Go.Ab.Tryz
open Classical Go.Proofs Go.Ab
theorem bA (st:St) (s g:Nat):cF st (.own s g)=jH (st.heap s g):=by
 unfold cF jH;rw[if_neg (nC s g)];cases h:st.heap s g with
 | none=>simp only[h]
 | some e=>cases e<;>simp only[h]
theorem SD.fl {s:aN} {v:SV} (h:SD s v):Flat s.cFg.jO∧Flat s.gE.dT∧Flat s.gE.iB∧Flat s.dS.early∧Flat s.dS.bV∧Flat s.tree.nodes∧Flat s.tables:=(Ig s).1 h.flat
noncomputable def Il (s:aN) (v:SV) (c1 c2:fV):SV :=
 if mR s v (Hv s c1) (Fj s c2) then v else
 if Fj s c2=s.bJ.fin then { v with T:=nz (yW (ol v.T) (Hv s c1).aK)} else
 { v with T:=nz (yW (ol v.T) (Hv s c1).aK),ns:=(oS v.ns (aO v.ns (Fj s c2).root) v.ns.length).1,O:=nz ((ol v.O).filter fun b=>decide ((Fi s (Fj s c2).aK).1<b.slot))}
noncomputable def xQ (s:aN) (v:SV) (c1 c2:fV):aN :=
 if mR s v (Hv s c1) (Fj s c2) then s else
 if Fj s c2=s.bJ.fin then { s with bJ:=⟨Hv s c1,Fj s c2⟩,tables:=ov aR (nz (yW (ol v.T) (Hv s c1).aK))} else
 { s with bJ:=⟨Hv s c1,Fj s c2⟩,tables:=ov aR (nz (yW (ol v.T) (Hv s c1).aK)),
          tree:=⟨.sl (oS v.ns (aO v.ns (Fj s c2).root) v.ns.length).1.length (cB (oS v.ns (aO v.ns (Fj s c2).root) v.ns.length).1)⟩,
          iG:=if aO (oS v.ns (aO v.ns (Fj s c2).root) v.ns.length).1 s.iG<0 then dE else s.iG,
          dS:={ s.dS with bV:=ov aH (nz ((ol v.O).filter fun b=>decide ((Fi s (Fj s c2).aK).1<b.slot)))} }
theorem IM {ns:List Node} (i:Int):(oS ns i ns.length).1.length≤ns.length:=Sm ns i ns.length
theorem SD.dJ {s:aN} {v:SV} (h:SD s v) (hu:iA v.ns) (c1 c2:fV):SD (xQ s v c1 c2) (Il s v c1 c2):=by
 have hT:((ol (nz (yW (ol v.T) (Hv s c1).aK))).length:Int)<1000000:=by rw[oV];have:=List.length_filter_le (fun t:Table=>decide ((Hv s c1).aK≤t.ck.aK)) (ol v.T);have:=h.nT;unfold yW;omega
 have hB:∀t∈ol (nz (yW (ol v.T) (Hv s c1).aK)),sP t:=by rw[oV];exact fun t m=>h.tB t (List.mem_filter.1 m).1
 unfold xQ Il;split
 ·exact h
 split
 ·exact⟨h.jO,h.dT,h.iB,h.early,h.bV,h.tree,rfl,h.eV,hB,h.nB,h.nL,h.nQ,h.nE,h.nO,hT,h.nn⟩
 ·refine⟨h.jO,h.dT,h.iB,h.early,rfl,rfl,rfl,h.eV,hB,h.nB,h.nL,h.nQ,h.nE, ?_,hT, ?_⟩
  ·rw[oV];have:=List.length_filter_le (fun b:Block=>decide ((Fi s (Fj s c2).aK).1<b.slot)) (ol v.O);have:=h.nO;omega
  ·have:=IM (ns:=v.ns) (aO v.ns (Fj s c2).root);have:=h.nn;show ((oS v.ns (aO v.ns (Fj s c2).root) v.ns.length).1.length:Int)<1000000;omega
theorem c61 {s:aN} {v:SV} (hs:SD s v) (hu:iA v.ns) (hp:s.cFg.qW≠0) (c1 c2:fV):aC Tryz.prog 61 [.agg (aB s),.agg (bX c1),.agg (bX c2)]=some (.agg (aB (xQ s v c1 c2))):=by
 have hf:=hs.flat
 have hn:=hs.nO
 have kE:=hs.fl
 have IN:=k59 hs hu hp c1 c2
 rw[cG Tryz.func61 rfl aPh (by kernel_rfl) rfl]
 refine jG ?_
 by_cases b1:mR s v (Hv s c1) (Fj s c2)
 ·have hv:xQ s v c1 c2=s:=if_pos b1
  have hc:E3 s v c1 c2=.eG [.agg (bX gX),.agg (bX gX),.v (.bool false)]:=if_pos b1
  rw[hc] at IN
  simp only[ZG,seval,Bool.false_and,Prod.mk.injEq,tE,IN,dY];exact⟨_,fI rfl (by simp only[E8,seval,hf]<;>rfl) (by simp only[Z8,seval,hf]<;>rfl) (by simp only[dU,and_self,hf]),by rw[hv]⟩
 have hc:E3 s v c1 c2=.eG [.agg (bX (Hv s c1)),.agg (bX (Fj s c2)),.v (.bool true)]:=if_neg b1
 rw[hc] at IN
 have hv:xQ s v c1 c2=_:=if_neg b1
 generalize hJ:Hv s c1=J at *
 generalize hF:Fj s c2=F at *
 have UE:=fN v.ns F.root
 have hF0:0≤aO v.ns F.root:=by rcases Int.lt_or_le (aO v.ns F.root) 0 with h|h;exact absurd (.inr (.inl h)) b1;exact h
 have aB5:=aO4 v.T hs.nT (fun t m=>(hs.tB t m).fl) J.aK
 have kp:=k34 v.ns hu hs.nn (aO v.ns F.root) ⟨hF0,UE.2⟩
 by_cases e1:yW (ol v.T) J.aK=[]
 ·have hz:(nz (yW (ol v.T) J.aK))=none:=if_pos e1
  rw[show Pw 118 34 aR (yW (ol v.T) J.aK)=.v (.slice none 0 0) from if_pos e1] at aB5;have Zb:=kx aB5 (bG hs.fT (.v _)) (.v _)
  by_cases e2:F=s.bJ.fin
  ·rw[if_pos e2,hz] at hv;subst e2;simp only[ZG,seval,Bool.false_and,Prod.mk.injEq,tE,IN,dY,hs.tables,Zb,decide_true,decide_false];exact⟨_,fI rfl (by simp only[E8,seval,hf,kE,and_self]<;>rfl) (by simp only[Z8,seval,hf,kE,and_self]<;>rfl) (by simp only[dU,and_self,hf,kE,and_self]),by rw[hv];rfl⟩
  rw[if_neg e2,hz] at hv;obtain⟨Zc,en⟩:∃Zc,(oS v.ns (aO v.ns F.root) v.ns.length).1=Zc:=⟨_,rfl⟩
  have Ju:(Zc.length:Int)<1000000:=by have:=IM (ns:=v.ns) (aO v.ns F.root);have:=hs.nn;rw[← en];omega
  unfold aBS at kp;rw[en] at kp hv;obtain⟨x,ex⟩:∃x,(ND F.aK s.cFg.qW).1=x:=⟨_,rfl⟩
  rw[show (Fi s F.aK).1=x from ex] at hv;by_cases e3:aO Zc s.iG<0
  ·rw[if_pos e3] at hv;obtain⟨S1,eS⟩:∃S1:aN,S1={ cFg:=s.cFg,gE:=s.gE,bJ:=⟨J,F⟩,dS:=s.dS,tree:=⟨.sl Zc.length (cB Zc)⟩,now:=s.now,iG:=dE,tables:=.v (.slice none 0 0)}:=⟨_,rfl⟩
   have hS:Flat (.agg (aB S1)):=by rw[eS];simp only[dU,kE,and_self]
   have Zd:=fun st d=>Xf S1 hS F.aK st d
   simp only[Fi,eS,ex] at Zd
   simp only[ZG,seval,Bool.false_and,Prod.mk.injEq,tE,IN,dY,hs.tables,Zb,decide_true,decide_false,e2,hs.tree,mQ _ _ hs.nn,kp,mQ _ _ Ju,e3,Zd,hs.bV];have IP:S1.dS.bV=ov aH v.O:=by rw[eS];exact hs.bV
   refine mE (fun m st=>∃k:Nat,(st.env 3=.ptr 3 0 0∧st.heap 3 0=some (.cells (aB S1))∧st.env 6=.ptr 6 0 0∧st.heap 6 0=some (.cells (aB gP))∧st.env 11=.v (.int .u64 x)∧st.env 14=.v (.int .i64 k))∧(((((ol v.O).take k).filter (fun b=>decide (x<b.slot)))=[]∧st.env 13=.v (.slice none 0 0))∨((((ol v.O).take k).filter (fun b=>decide (x<b.slot)))≠[]∧∃g,st.env 13=.own 99 g∧g<st.aP 99∧st.heap 99 g=some (.row 74 238 (((ol v.O).take k).filter (fun b=>decide (x<b.slot))).length (aH (((ol v.O).take k).filter (fun b=>decide (x<b.slot)))))))∧k≤(ol v.O).length∧m=(ol v.O).length-k)
    (fun e st=>e=.exit 0∧(((((ol v.O).take (ol v.O).length).filter (fun b=>decide (x<b.slot)))=[]∧st.env 13=.v (.slice none 0 0))∨((((ol v.O).take (ol v.O).length).filter (fun b=>decide (x<b.slot)))≠[]∧∃g,st.env 13=.own 99 g∧g<st.aP 99∧st.heap 99 g=some (.row 74 238 (((ol v.O).take (ol v.O).length).filter (fun b=>decide (x<b.slot))).length (aH (((ol v.O).take (ol v.O).length).filter (fun b=>decide (x<b.slot)))))))∧st.env 3=.ptr 3 0 0∧st.heap 3 0=some (.cells (aB S1))∧st.env 6=.ptr 6 0 0∧st.heap 6 0=some (.cells (aB gP))∧st.env 11=.v (.int .u64 x)) ((ol v.O).length) ?step ?start ?rest
   case step =>
    rintro m st ⟨k,hI,h5,hk,hm⟩
    have Ht:(((((ol v.O).take k).filter (fun b=>decide (x<b.slot))).length:Nat):Int)<1000000:=by have:=List.length_filter_le (fun b=>decide (x<b.slot)) ((ol v.O).take k);have h2:=List.length_take_le' k (ol v.O);omega
    by_cases aY:(k:Int)<(ol v.O).length
    ·have q0:(0:Int)≤k:=by omega
     have hw:IntKind.i64.wrap ((k:Int)+1)=((k+1:Nat):Int):=by rw[pZ _ (by omega) (by omega)];omega
     have hs:=yV fD (fun b=>decide (x<b.slot)) (ol v.O) k (by omega)
     by_cases hh:x<(gx fD (ol v.O) (k:Int)).slot
     ·rw[if_pos (decide_eq_true hh)] at hs;rcases h5 with ⟨hy,h5⟩|⟨hy,g,h5⟩
      ·rw[hy] at hs;apply Ga ((ol v.O).length-(k+1))
       ·simp only[ZG,seval,Bool.false_and,Prod.mk.injEq,hI,h5,aY,hw,q0,tE,IP,hh];rfl
       ·exact⟨k+1,by simp only[E8,seval,hI],.inr ⟨by rw[hs];simp,_,by simp only[E8,seval]<;>rfl,(by simp only[E8,seval]<;>omega),(by rw[hs];simp only[E8,seval]<;>rfl)⟩,by omega,rfl⟩
      ·apply Ga ((ol v.O).length-(k+1))
       ·simp only[ZG,seval,Bool.false_and,Prod.mk.injEq,hI,h5,Ht,aY,hw,q0,tE,IP,hh];rfl
       ·exact⟨k+1,by simp only[E8,seval,hI],.inr ⟨by rw[hs];simp,_,by simp only[E8,seval]<;>rfl,(by simp only[E8,seval]<;>omega),(by rw[hs];simp only[E8,seval]<;>rfl)⟩,by omega,rfl⟩
     ·rw[if_neg (by simpa using hh),List.append_nil] at hs
      apply Ga ((ol v.O).length-(k+1))
      ·simp only[ZG,seval,Bool.false_and,Prod.mk.injEq,hI,aY,hw,q0,tE,IP,hh];rfl
      ·exact⟨k+1,by simp only[E8,seval,hI],by rw[hs];simpa only[E8,seval] using h5,by omega,rfl⟩
    ·have Fg:k=(ol v.O).length:=by omega
     rw[Fg] at h5;apply MX (.exit 0)
     ·simp only[ZG,seval,Bool.false_and,Prod.mk.injEq,hI,aY,tE,IP];rfl
     ·exact⟨rfl,by simpa only[E8,seval] using h5,by simp only[E8,seval,hI]⟩
   case start=>exact⟨0,by simp only[E8,seval,eS]<;>rfl,.inl ⟨rfl,by simp only[E8,seval]⟩,by omega,by omega⟩
   case rest =>
    rintro e st ⟨rfl,⟨hy,h5⟩|⟨hy,g,h5,hg,Ax⟩,hI⟩
    ·rw[List.take_length] at hy;rw[show nz ((ol v.O).filter fun b=>decide (x<b.slot))=none from if_pos hy] at hv
     rw[eS] at hI;simp only[ZG,seval,Bool.false_and,Prod.mk.injEq,tE,h5,hI];exact⟨_,fI rfl (by simp only[E8,seval,hI,kE,and_self]<;>rfl) (by simp only[Z8,seval,hI,kE,and_self]<;>rfl) (by simp only[dU,and_self,hI,kE,and_self]),by rw[hv];rfl⟩
    ·rw[List.take_length] at hy Ax;rw[show nz ((ol v.O).filter fun b=>decide (x<b.slot))=some ((ol v.O).filter fun b=>decide (x<b.slot)) from if_neg hy] at hv
     rw[eS] at hI;simp only[ZG,seval,Bool.false_and,Prod.mk.injEq,tE,h5,Ax,hI];exact⟨_,by apply eB;rfl;all_goals simp only[aI,Z8,seval,hI,Ax,kE,bP,gJ,bA,bY,uH,dU]<;>rfl,by rw[hv];rfl⟩
  rw[if_neg e3] at hv;obtain⟨S1,eS⟩:∃S1:aN,S1={ cFg:=s.cFg,gE:=s.gE,bJ:=⟨J,F⟩,dS:=s.dS,tree:=⟨.sl Zc.length (cB Zc)⟩,now:=s.now,iG:=s.iG,tables:=.v (.slice none 0 0)}:=⟨_,rfl⟩
  have hS:Flat (.agg (aB S1)):=by rw[eS];simp only[dU,kE,and_self]
  have Zd:=fun st d=>Xf S1 hS F.aK st d
  simp only[Fi,eS,ex] at Zd
  simp only[ZG,seval,Bool.false_and,Prod.mk.injEq,tE,IN,dY,hs.tables,Zb,decide_true,decide_false,e2,hs.tree,mQ _ _ hs.nn,kp,mQ _ _ Ju,e3,Zd,hs.bV];have IP:S1.dS.bV=ov aH v.O:=by rw[eS];exact hs.bV
  refine mE (fun m st=>∃k:Nat,(st.env 3=.ptr 3 0 0∧st.heap 3 0=some (.cells (aB S1))∧st.env 6=.ptr 6 0 0∧st.heap 6 0=some (.cells (aB gP))∧st.env 11=.v (.int .u64 x)∧st.env 14=.v (.int .i64 k))∧(((((ol v.O).take k).filter (fun b=>decide (x<b.slot)))=[]∧st.env 13=.v (.slice none 0 0))∨((((ol v.O).take k).filter (fun b=>decide (x<b.slot)))≠[]∧∃g,st.env 13=.own 99 g∧g<st.aP 99∧st.heap 99 g=some (.row 74 238 (((ol v.O).take k).filter (fun b=>decide (x<b.slot))).length (aH (((ol v.O).take k).filter (fun b=>decide (x<b.slot)))))))∧k≤(ol v.O).length∧m=(ol v.O).length-k)
   (fun e st=>e=.exit 0∧(((((ol v.O).take (ol v.O).length).filter (fun b=>decide (x<b.slot)))=[]∧st.env 13=.v (.slice none 0 0))∨((((ol v.O).take (ol v.O).length).filter (fun b=>decide (x<b.slot)))≠[]∧∃g,st.env 13=.own 99 g∧g<st.aP 99∧st.heap 99 g=some (.row 74 238 (((ol v.O).take (ol v.O).length).filter (fun b=>decide (x<b.slot))).length (aH (((ol v.O).take (ol v.O).length).filter (fun b=>decide (x<b.slot)))))))∧st.env 3=.ptr 3 0 0∧st.heap 3 0=some (.cells (aB S1))∧st.env 6=.ptr 6 0 0∧st.heap 6 0=some (.cells (aB gP))∧st.env 11=.v (.int .u64 x)) ((ol v.O).length) ?step ?start ?rest
  case step =>
   rintro m st ⟨k,hI,h5,hk,hm⟩
   have Ht:(((((ol v.O).take k).filter (fun b=>decide (x<b.slot))).length:Nat):Int)<1000000:=by have:=List.length_filter_le (fun b=>decide (x<b.slot)) ((ol v.O).take k);have h2:=List.length_take_le' k (ol v.O);omega
   by_cases aY:(k:Int)<(ol v.O).length
   ·have q0:(0:Int)≤k:=by omega
    have hw:IntKind.i64.wrap ((k:Int)+1)=((k+1:Nat):Int):=by rw[pZ _ (by omega) (by omega)];omega
    have hs:=yV fD (fun b=>decide (x<b.slot)) (ol v.O) k (by omega)
    by_cases hh:x<(gx fD (ol v.O) (k:Int)).slot
    ·rw[if_pos (decide_eq_true hh)] at hs;rcases h5 with ⟨hy,h5⟩|⟨hy,g,h5⟩
     ·rw[hy] at hs;apply Ga ((ol v.O).length-(k+1))
      ·simp only[ZG,seval,Bool.false_and,Prod.mk.injEq,hI,h5,aY,hw,q0,tE,IP,hh];rfl
      ·exact⟨k+1,by simp only[E8,seval,hI],.inr ⟨by rw[hs];simp,_,by simp only[E8,seval]<;>rfl,(by simp only[E8,seval]<;>omega),(by rw[hs];simp only[E8,seval]<;>rfl)⟩,by omega,rfl⟩
     ·apply Ga ((ol v.O).length-(k+1))
      ·simp only[ZG,seval,Bool.false_and,Prod.mk.injEq,hI,h5,Ht,aY,hw,q0,tE,IP,hh];rfl
      ·exact⟨k+1,by simp only[E8,seval,hI],.inr ⟨by rw[hs];simp,_,by simp only[E8,seval]<;>rfl,(by simp only[E8,seval]<;>omega),(by rw[hs];simp only[E8,seval]<;>rfl)⟩,by omega,rfl⟩
    ·rw[if_neg (by simpa using hh),List.append_nil] at hs
     apply Ga ((ol v.O).length-(k+1))
     ·simp only[ZG,seval,Bool.false_and,Prod.mk.injEq,hI,aY,hw,q0,tE,IP,hh];rfl
     ·exact⟨k+1,by simp only[E8,seval,hI],by rw[hs];simpa only[E8,seval] using h5,by omega,rfl⟩
   ·have Fg:k=(ol v.O).length:=by omega
    rw[Fg] at h5;apply MX (.exit 0)
    ·simp only[ZG,seval,Bool.false_and,Prod.mk.injEq,hI,aY,tE,IP];rfl
    ·exact⟨rfl,by simpa only[E8,seval] using h5,by simp only[E8,seval,hI]⟩
  case start=>exact⟨0,by simp only[E8,seval,eS]<;>rfl,.inl ⟨rfl,by simp only[E8,seval]⟩,by omega,by omega⟩
  case rest =>
   rintro e st ⟨rfl,⟨hy,h5⟩|⟨hy,g,h5,hg,Ax⟩,hI⟩
   ·rw[List.take_length] at hy;rw[show nz ((ol v.O).filter fun b=>decide (x<b.slot))=none from if_pos hy] at hv
    rw[eS] at hI;simp only[ZG,seval,Bool.false_and,Prod.mk.injEq,tE,h5,hI];exact⟨_,fI rfl (by simp only[E8,seval,hI,kE,and_self]<;>rfl) (by simp only[Z8,seval,hI,kE,and_self]<;>rfl) (by simp only[dU,and_self,hI,kE,and_self]),by rw[hv];rfl⟩
   ·rw[List.take_length] at hy Ax;rw[show nz ((ol v.O).filter fun b=>decide (x<b.slot))=some ((ol v.O).filter fun b=>decide (x<b.slot)) from if_neg hy] at hv
    rw[eS] at hI;simp only[ZG,seval,Bool.false_and,Prod.mk.injEq,tE,h5,Ax,hI];exact⟨_,by apply eB;rfl;all_goals simp only[aI,Z8,seval,hI,Ax,kE,bP,gJ,bA,bY,uH,dU]<;>rfl,by rw[hv];rfl⟩
 ·have hz:(nz (yW (ol v.T) J.aK))=some (yW (ol v.T) J.aK):=if_neg e1
  rw[show Pw 118 34 aR (yW (ol v.T) J.aK)=.uniq 118 34 (yW (ol v.T) J.aK).length (aR (yW (ol v.T) J.aK)) from if_neg e1] at aB5;have Zb:∀(st:St),aM (aC Tryz.prog) 128 [ov aR v.T,.v (.int .u64 J.aK)] st (some 30)=_:=fun st=>jF (st:=st) (d:=30) (bG hs.fT (.v _)) aB5
  have IQ:∀t∈yW (ol v.T) J.aK,Flat t.jO:=fun t m=>(hs.tB t (List.mem_filter.1 m).1).fl
  have hex:=Qa (yW (ol v.T) J.aK).length (yW (ol v.T) J.aK) IQ
  by_cases e2:F=s.bJ.fin
  ·rw[if_pos e2,hz] at hv;subst e2;simp only[ZG,seval,Bool.false_and,Prod.mk.injEq,tE,IN,dY,hs.tables,Zb,decide_true,decide_false];exact⟨_,by apply eB;rfl;all_goals simp only[aI,Z8,seval,kE,bP,gJ,bA,bY,hex]<;>rfl,by rw[hv];rfl⟩
  rw[if_neg e2,hz] at hv;obtain⟨Zc,en⟩:∃Zc,(oS v.ns (aO v.ns F.root) v.ns.length).1=Zc:=⟨_,rfl⟩
  have Ju:(Zc.length:Int)<1000000:=by have:=IM (ns:=v.ns) (aO v.ns F.root);have:=hs.nn;rw[← en];omega
  unfold aBS at kp;rw[en] at kp hv;obtain⟨x,ex⟩:∃x,(ND F.aK s.cFg.qW).1=x:=⟨_,rfl⟩
  rw[show (Fi s F.aK).1=x from ex] at hv;by_cases e3:aO Zc s.iG<0
  ·rw[if_pos e3] at hv;obtain⟨S1,eS⟩:∃S1:aN,S1={ cFg:=s.cFg,gE:=s.gE,bJ:=⟨J,F⟩,dS:=s.dS,tree:=⟨.sl Zc.length (cB Zc)⟩,now:=s.now,iG:=dE,tables:=.own 30 0 }:=⟨_,rfl⟩
   have hS:∀st:St,st.heap 30 0=some (.row 118 34 (yW (ol v.T) J.aK).length (aR (yW (ol v.T) J.aK)))→fG st (.agg (aB S1))=some (.agg (aB { S1 with tables:=.sl (yW (ol v.T) J.aK).length (aR (yW (ol v.T) J.aK))})):=by
    intro st h;rw[eS];simp only[bP,gJ,bA,h,hex,bY,dU,kE,cK]
   have Zd:∀(st:St) (d:Option Nat),st.heap 30 0=some (.row 118 34 (yW (ol v.T) J.aK).length (aR (yW (ol v.T) J.aK)))→aM (aC Tryz.prog) 99 [.agg (aB S1),.v (.int .u64 F.aK)] st d=some { dst:=d,val:=.eG [.v (.int .u64 (Fi S1 F.aK).1),.v (.bool ((Fi S1 F.aK).2 == 0))]}:=by
    intro st d h;rw[lN,List.map_cons,List.map_cons,List.map_nil,hS st h,Sr,bL,bL,gK];exact C7 (c99 _ F.aK) (by intro x hx;simp only[List.mem_cons,List.not_mem_nil,or_false] at hx;rcases hx with rfl|rfl<;>exact .v _) (.eG _ (bG (.v _) (.v _)))
   simp only[Fi,eS,ex] at Zd
   simp only[ZG,seval,Bool.false_and,Prod.mk.injEq,tE,IN,dY,hs.tables,Zb,decide_true,decide_false,e2,hs.tree,mQ _ _ hs.nn,kp,mQ _ _ Ju,e3,Zd,hs.bV];have IP:S1.dS.bV=ov aH v.O:=by rw[eS];exact hs.bV
   refine mE (fun m st=>∃k:Nat,(st.env 3=.ptr 3 0 0∧st.heap 3 0=some (.cells (aB S1))∧st.env 6=.ptr 6 0 0∧st.heap 6 0=some (.cells (aB gP))∧st.env 11=.v (.int .u64 x)∧st.heap 30 0=some (.row 118 34 (yW (ol v.T) J.aK).length (aR (yW (ol v.T) J.aK)))∧st.env 14=.v (.int .i64 k))∧(((((ol v.O).take k).filter (fun b=>decide (x<b.slot)))=[]∧st.env 13=.v (.slice none 0 0))∨((((ol v.O).take k).filter (fun b=>decide (x<b.slot)))≠[]∧∃g,st.env 13=.own 99 g∧g<st.aP 99∧st.heap 99 g=some (.row 74 238 (((ol v.O).take k).filter (fun b=>decide (x<b.slot))).length (aH (((ol v.O).take k).filter (fun b=>decide (x<b.slot)))))))∧k≤(ol v.O).length∧m=(ol v.O).length-k)
    (fun e st=>e=.exit 0∧(((((ol v.O).take (ol v.O).length).filter (fun b=>decide (x<b.slot)))=[]∧st.env 13=.v (.slice none 0 0))∨((((ol v.O).take (ol v.O).length).filter (fun b=>decide (x<b.slot)))≠[]∧∃g,st.env 13=.own 99 g∧g<st.aP 99∧st.heap 99 g=some (.row 74 238 (((ol v.O).take (ol v.O).length).filter (fun b=>decide (x<b.slot))).length (aH (((ol v.O).take (ol v.O).length).filter (fun b=>decide (x<b.slot)))))))∧st.env 3=.ptr 3 0 0∧st.heap 3 0=some (.cells (aB S1))∧st.env 6=.ptr 6 0 0∧st.heap 6 0=some (.cells (aB gP))∧st.env 11=.v (.int .u64 x)∧st.heap 30 0=some (.row 118 34 (yW (ol v.T) J.aK).length (aR (yW (ol v.T) J.aK)))) ((ol v.O).length) ?step ?start ?rest
   case step =>
    rintro m st ⟨k,hI,h5,hk,hm⟩
    have Ht:(((((ol v.O).take k).filter (fun b=>decide (x<b.slot))).length:Nat):Int)<1000000:=by have:=List.length_filter_le (fun b=>decide (x<b.slot)) ((ol v.O).take k);have h2:=List.length_take_le' k (ol v.O);omega
    by_cases aY:(k:Int)<(ol v.O).length
    ·have q0:(0:Int)≤k:=by omega
     have hw:IntKind.i64.wrap ((k:Int)+1)=((k+1:Nat):Int):=by rw[pZ _ (by omega) (by omega)];omega
     have hs:=yV fD (fun b=>decide (x<b.slot)) (ol v.O) k (by omega)
     by_cases hh:x<(gx fD (ol v.O) (k:Int)).slot
     ·rw[if_pos (decide_eq_true hh)] at hs;rcases h5 with ⟨hy,h5⟩|⟨hy,g,h5⟩
      ·rw[hy] at hs;apply Ga ((ol v.O).length-(k+1))
       ·simp only[ZG,seval,Bool.false_and,Prod.mk.injEq,hI,h5,aY,hw,q0,tE,IP,hh];rfl
       ·exact⟨k+1,by simp only[E8,seval,hI],.inr ⟨by rw[hs];simp,_,by simp only[E8,seval]<;>rfl,(by simp only[E8,seval]<;>omega),(by rw[hs];simp only[E8,seval]<;>rfl)⟩,by omega,rfl⟩
      ·apply Ga ((ol v.O).length-(k+1))
       ·simp only[ZG,seval,Bool.false_and,Prod.mk.injEq,hI,h5,Ht,aY,hw,q0,tE,IP,hh];rfl
       ·exact⟨k+1,by simp only[E8,seval,hI],.inr ⟨by rw[hs];simp,_,by simp only[E8,seval]<;>rfl,(by simp only[E8,seval]<;>omega),(by rw[hs];simp only[E8,seval]<;>rfl)⟩,by omega,rfl⟩
     ·rw[if_neg (by simpa using hh),List.append_nil] at hs
      apply Ga ((ol v.O).length-(k+1))
      ·simp only[ZG,seval,Bool.false_and,Prod.mk.injEq,hI,aY,hw,q0,tE,IP,hh];rfl
      ·exact⟨k+1,by simp only[E8,seval,hI],by rw[hs];simpa only[E8,seval] using h5,by omega,rfl⟩
    ·have Fg:k=(ol v.O).length:=by omega
     rw[Fg] at h5;apply MX (.exit 0)
     ·simp only[ZG,seval,Bool.false_and,Prod.mk.injEq,hI,aY,tE,IP];rfl
     ·exact⟨rfl,by simpa only[E8,seval] using h5,by simp only[E8,seval,hI]⟩
   case start=>exact⟨0,by simp only[E8,seval,eS]<;>rfl,.inl ⟨rfl,by simp only[E8,seval]⟩,by omega,by omega⟩
   case rest =>
    rintro e st ⟨rfl,⟨hy,h5⟩|⟨hy,g,h5,hg,Ax⟩,hI⟩
    ·rw[List.take_length] at hy;rw[show nz ((ol v.O).filter fun b=>decide (x<b.slot))=none from if_pos hy] at hv
     rw[eS] at hI;simp only[ZG,seval,Bool.false_and,Prod.mk.injEq,tE,h5,hI];exact⟨_,by apply eB;rfl;all_goals simp only[aI,Z8,seval,hI,kE,bP,gJ,bA,bY,uH,dU,hex]<;>rfl,by rw[hv];rfl⟩
    ·rw[List.take_length] at hy Ax;rw[show nz ((ol v.O).filter fun b=>decide (x<b.slot))=some ((ol v.O).filter fun b=>decide (x<b.slot)) from if_neg hy] at hv
     rw[eS] at hI;simp only[ZG,seval,Bool.false_and,Prod.mk.injEq,tE,h5,Ax,hI];exact⟨_,by apply eB;rfl;all_goals simp only[aI,Z8,seval,hI,Ax,kE,bP,gJ,bA,bY,uH,dU,hex]<;>rfl,by rw[hv];rfl⟩
  rw[if_neg e3] at hv;obtain⟨S1,eS⟩:∃S1:aN,S1={ cFg:=s.cFg,gE:=s.gE,bJ:=⟨J,F⟩,dS:=s.dS,tree:=⟨.sl Zc.length (cB Zc)⟩,now:=s.now,iG:=s.iG,tables:=.own 30 0 }:=⟨_,rfl⟩
  have hS:∀st:St,st.heap 30 0=some (.row 118 34 (yW (ol v.T) J.aK).length (aR (yW (ol v.T) J.aK)))→fG st (.agg (aB S1))=some (.agg (aB { S1 with tables:=.sl (yW (ol v.T) J.aK).length (aR (yW (ol v.T) J.aK))})):=by
   intro st h;rw[eS];simp only[bP,gJ,bA,h,hex,bY,dU,kE,cK]
  have Zd:∀(st:St) (d:Option Nat),st.heap 30 0=some (.row 118 34 (yW (ol v.T) J.aK).length (aR (yW (ol v.T) J.aK)))→aM (aC Tryz.prog) 99 [.agg (aB S1),.v (.int .u64 F.aK)] st d=some { dst:=d,val:=.eG [.v (.int .u64 (Fi S1 F.aK).1),.v (.bool ((Fi S1 F.aK).2 == 0))]}:=by
   intro st d h;rw[lN,List.map_cons,List.map_cons,List.map_nil,hS st h,Sr,bL,bL,gK];exact C7 (c99 _ F.aK) (by intro x hx;simp only[List.mem_cons,List.not_mem_nil,or_false] at hx;rcases hx with rfl|rfl<;>exact .v _) (.eG _ (bG (.v _) (.v _)))
  simp only[Fi,eS,ex] at Zd
  simp only[ZG,seval,Bool.false_and,Prod.mk.injEq,tE,IN,dY,hs.tables,Zb,decide_true,decide_false,e2,hs.tree,mQ _ _ hs.nn,kp,mQ _ _ Ju,e3,Zd,hs.bV];have IP:S1.dS.bV=ov aH v.O:=by rw[eS];exact hs.bV
  refine mE (fun m st=>∃k:Nat,(st.env 3=.ptr 3 0 0∧st.heap 3 0=some (.cells (aB S1))∧st.env 6=.ptr 6 0 0∧st.heap 6 0=some (.cells (aB gP))∧st.env 11=.v (.int .u64 x)∧st.heap 30 0=some (.row 118 34 (yW (ol v.T) J.aK).length (aR (yW (ol v.T) J.aK)))∧st.env 14=.v (.int .i64 k))∧(((((ol v.O).take k).filter (fun b=>decide (x<b.slot)))=[]∧st.env 13=.v (.slice none 0 0))∨((((ol v.O).take k).filter (fun b=>decide (x<b.slot)))≠[]∧∃g,st.env 13=.own 99 g∧g<st.aP 99∧st.heap 99 g=some (.row 74 238 (((ol v.O).take k).filter (fun b=>decide (x<b.slot))).length (aH (((ol v.O).take k).filter (fun b=>decide (x<b.slot)))))))∧k≤(ol v.O).length∧m=(ol v.O).length-k)
   (fun e st=>e=.exit 0∧(((((ol v.O).take (ol v.O).length).filter (fun b=>decide (x<b.slot)))=[]∧st.env 13=.v (.slice none 0 0))∨((((ol v.O).take (ol v.O).length).filter (fun b=>decide (x<b.slot)))≠[]∧∃g,st.env 13=.own 99 g∧g<st.aP 99∧st.heap 99 g=some (.row 74 238 (((ol v.O).take (ol v.O).length).filter (fun b=>decide (x<b.slot))).length (aH (((ol v.O).take (ol v.O).length).filter (fun b=>decide (x<b.slot)))))))∧st.env 3=.ptr 3 0 0∧st.heap 3 0=some (.cells (aB S1))∧st.env 6=.ptr 6 0 0∧st.heap 6 0=some (.cells (aB gP))∧st.env 11=.v (.int .u64 x)∧st.heap 30 0=some (.row 118 34 (yW (ol v.T) J.aK).length (aR (yW (ol v.T) J.aK)))) ((ol v.O).length) ?step ?start ?rest
  case step =>
   rintro m st ⟨k,hI,h5,hk,hm⟩
   have Ht:(((((ol v.O).take k).filter (fun b=>decide (x<b.slot))).length:Nat):Int)<1000000:=by have:=List.length_filter_le (fun b=>decide (x<b.slot)) ((ol v.O).take k);have h2:=List.length_take_le' k (ol v.O);omega
   by_cases aY:(k:Int)<(ol v.O).length
   ·have q0:(0:Int)≤k:=by omega
    have hw:IntKind.i64.wrap ((k:Int)+1)=((k+1:Nat):Int):=by rw[pZ _ (by omega) (by omega)];omega
    have hs:=yV fD (fun b=>decide (x<b.slot)) (ol v.O) k (by omega)
    by_cases hh:x<(gx fD (ol v.O) (k:Int)).slot
    ·rw[if_pos (decide_eq_true hh)] at hs;rcases h5 with ⟨hy,h5⟩|⟨hy,g,h5⟩
     ·rw[hy] at hs;apply Ga ((ol v.O).length-(k+1))
      ·simp only[ZG,seval,Bool.false_and,Prod.mk.injEq,hI,h5,aY,hw,q0,tE,IP,hh];rfl
      ·exact⟨k+1,by simp only[E8,seval,hI],.inr ⟨by rw[hs];simp,_,by simp only[E8,seval]<;>rfl,(by simp only[E8,seval]<;>omega),(by rw[hs];simp only[E8,seval]<;>rfl)⟩,by omega,rfl⟩
     ·apply Ga ((ol v.O).length-(k+1))
      ·simp only[ZG,seval,Bool.false_and,Prod.mk.injEq,hI,h5,Ht,aY,hw,q0,tE,IP,hh];rfl
      ·exact⟨k+1,by simp only[E8,seval,hI],.inr ⟨by rw[hs];simp,_,by simp only[E8,seval]<;>rfl,(by simp only[E8,seval]<;>omega),(by rw[hs];simp only[E8,seval]<;>rfl)⟩,by omega,rfl⟩
    ·rw[if_neg (by simpa using hh),List.append_nil] at hs
     apply Ga ((ol v.O).length-(k+1))
     ·simp only[ZG,seval,Bool.false_and,Prod.mk.injEq,hI,aY,hw,q0,tE,IP,hh];rfl
     ·exact⟨k+1,by simp only[E8,seval,hI],by rw[hs];simpa only[E8,seval] using h5,by omega,rfl⟩
   ·have Fg:k=(ol v.O).length:=by omega
    rw[Fg] at h5;apply MX (.exit 0)
    ·simp only[ZG,seval,Bool.false_and,Prod.mk.injEq,hI,aY,tE,IP];rfl
    ·exact⟨rfl,by simpa only[E8,seval] using h5,by simp only[E8,seval,hI]⟩
  case start=>exact⟨0,by simp only[E8,seval,eS]<;>rfl,.inl ⟨rfl,by simp only[E8,seval]⟩,by omega,by omega⟩
  case rest =>
   rintro e st ⟨rfl,⟨hy,h5⟩|⟨hy,g,h5,hg,Ax⟩,hI⟩
   ·rw[List.take_length] at hy;rw[show nz ((ol v.O).filter fun b=>decide (x<b.slot))=none from if_pos hy] at hv
    rw[eS] at hI;simp only[ZG,seval,Bool.false_and,Prod.mk.injEq,tE,h5,hI];exact⟨_,by apply eB;rfl;all_goals simp only[aI,Z8,seval,hI,kE,bP,gJ,bA,bY,uH,dU,hex]<;>rfl,by rw[hv];rfl⟩
   ·rw[List.take_length] at hy Ax;rw[show nz ((ol v.O).filter fun b=>decide (x<b.slot))=some ((ol v.O).filter fun b=>decide (x<b.slot)) from if_neg hy] at hv
    rw[eS] at hI;simp only[ZG,seval,Bool.false_and,Prod.mk.injEq,tE,h5,Ax,hI];exact⟨_,by apply eB;rfl;all_goals simp only[aI,Z8,seval,hI,Ax,kE,bP,gJ,bA,bY,uH,dU,hex]<;>rfl,by rw[hv];rfl⟩
theorem k61 {s:aN} {v:SV} (hs:SD s v) (hu:iA v.ns) (hp:s.cFg.qW≠0) (c1 c2:fV) (st:St) (d:Option Nat):aM (aC Tryz.prog) 61 [.agg (aB s),.agg (bX c1),.agg (bX c2)] st d=some { dst:=d,val:=.agg (aB (xQ s v c1 c2))}:=bI (nA hs.flat (.agg _ (dB c1)) (.agg _ (dB c2))) (c61 hs hu hp c1 c2) (hs.dJ hu c1 c2).flat
theorem Bq {α:Type} (s g:Nat) (cs:List α→List AV) (o:Option (List α)):fW (.own s g) (ov cs o)=True:=by cases o<;>rfl
theorem Br {α:Type} (s g:Nat) (cs:List α→List AV) (o:Option (List α)):fW (ov cs o) (.own s g)=True:=by cases o<;>rfl
theorem Gx {α:Type} (s g n:Nat) (cs:List α→List AV) (o:Option (List α)):fW (.ptr s g n) (ov cs o)=True:=by cases o<;>rfl
theorem Gy {α:Type} (s g n:Nat) (cs:List α→List AV) (o:Option (List α)):fW (ov cs o) (.ptr s g n)=True:=by cases o<;>rfl
theorem aKc (t:Table) (b:Option (List Int)) (hb:t.jO=ov bE b) (hl:((ol b).length:Int)<1000000):aC Tryz.prog 158 [.agg (cI t)]=some (.agg (cI ⟨t.ck,ov bE (some (ol b))⟩)):=by
 rw[cL Tryz.func158 rfl aKd rfl];refine jG ?_
 simp only[Z8,seval,hb,Gb _ hl];exact⟨_,by apply eB;rfl;all_goals simp only[aI,Z8,seval,bP,tO,bA,vV]<;>rfl,rfl⟩
def aPj (o:Option (List Table)) (t':Table) (L:List Table):Prop:=L.length=(ol o).length+1∧(∀x∈L,x∈ol o∨x=t')∧∀x∈ol o,x∈L
theorem aPk (o:Option (List Table)) (hn:((ol o).length:Int)<999999) (hT:∀x∈ol o,Flat x.jO) (t:Table) (b:Option (List Int)) (hb:t.jO=ov bE b) (hl:((ol b).length:Int)<1000000) :
 ∃r,aC Tryz.prog 195 [ov aR o,.agg (cI t)]=some r∧∃L,aPj o ⟨t.ck,ov bE (some (ol b))⟩ L∧r=.uniq 118 34 L.length (aR L):=by
 have hfT:Flat (.agg (cI t)):=(kF t).2 (by rw[hb];exact dP b)
 have hf2:Flat (.agg (cI ⟨t.ck,ov bE (some (ol b))⟩)):=(kF _).2 (dP (some (ol b)))
 have hto:=lR o hT
 have aFJ:=kx (aKc t b hb hl) (cU hfT) hf2
 rw[cG Tryz.func195 rfl aKf (by kernel_rfl) (by cases o<;>rfl)]
 simp only[ZG,seval,Bool.false_and,Prod.mk.injEq,OF];refine mE (fun m st=>∃k:Nat,(st.env 0=ov aR o∧st.env 3=.ptr 3 0 0∧st.heap 3 0=some (.cells (cI t))∧st.env 5=.v (.int .i64 k))∧k≤(ol o).length∧m=(ol o).length-k)
  (fun e st=>e=.exit 0∧∃k:Nat,(st.env 0=ov aR o∧st.env 3=.ptr 3 0 0∧st.heap 3 0=some (.cells (cI t))∧st.env 5=.v (.int .i64 k))∧k≤(ol o).length) (ol o).length ?step ?start ?rest
 case step =>
  rintro m st ⟨k,hI,hk,hm⟩
  by_cases aY:(k:Int)<(ol o).length
  ·have q0:(0:Int)≤k:=by omega
   have hw:IntKind.i64.wrap ((k:Int)+1)=((k+1:Nat):Int):=by rw[pZ _ (by omega) (by omega)];omega
   by_cases h1:aJ8 (gx iV (ol o) (k:Int)).ck t.ck<0
   ·apply Ga ((ol o).length-(k+1))
    ·simp only[ZG,seval,Bool.false_and,Prod.mk.injEq,OF,hI,aY,q0,aJ9,h1,hw];rfl
    ·exact⟨k+1,by simp only[E8,seval,hI],by omega,rfl⟩
   ·apply MX (.exit 0)
    ·simp only[ZG,seval,Bool.false_and,Prod.mk.injEq,OF,hI,aY,q0,aJ9,h1];rfl
    ·exact⟨rfl,k,by simp only[E8,seval,hI],hk⟩
  ·apply MX (.exit 0)
   ·simp only[ZG,seval,Bool.false_and,Prod.mk.injEq,OF,hI,aY];rfl
   ·exact⟨rfl,k,by simp only[E8,seval,hI],hk⟩
 case start=>exact⟨0,by simp only[E8,seval]<;>rfl,by omega,by omega⟩
 case rest =>
  rintro e st ⟨rfl,k,hI,hk⟩
  have e1:ol (o.map (·.take k))=(ol o).take k:=by cases o<;>simp[ol]
  have e2:ol (o.map (·.drop k))=(ol o).drop k:=by cases o<;>simp[ol]
  have n1:(((ol (o.map (·.take k))).length:Nat):Int)<1000000:=by rw[e1,List.length_take];omega
  have n2:(((ol (o.map (·.drop k))).length:Nat):Int)<1000000:=by rw[e2,List.length_drop];omega
  have n3:(((ol (o.map (·.take k))++[(⟨t.ck,ov bE (some (ol b))⟩:Table)]).length:Nat):Int)<1000000:=by rw[List.length_append,e1,List.length_take];simp;omega
  have q0:(0:Int)≤k:=by omega
  have q1:(k:Int)≤((ol o).length:Int):=by omega
  have hr:∀x∈aR (ol (o.map (·.take k))++[(⟨t.ck,ov bE (some (ol b))⟩:Table)]++ol (o.map (·.drop k))),Flat x:=by
   refine lS _ fun x m=>?_
   rw[e1,e2] at m;rcases List.mem_append.1 m with m|m
   ·rcases List.mem_append.1 m with m|m
    ·exact hT x (List.mem_of_mem_take m)
    ·rw[List.mem_singleton.1 m];exact dP (some (ol b))
   ·exact hT x (List.mem_of_mem_drop m)
  simp only[ZG,seval,Bool.false_and,Prod.mk.injEq,OF,Bq,Br,and_self,hI,q0,q1,Int.toNat_natCast,aFJ,GP _ n1,Ss _ _ _ _ n1,GQ _ _ _ _ n3 n2];refine⟨_,tC rfl (by simp only[E8,seval]<;>rfl) (by simp only[E8,seval]<;>rfl) hr,_,⟨?_,fun x m=>?_,fun x m=>?_⟩,rfl⟩
  ·rw[e1,e2,List.length_append,List.length_append,List.length_take,List.length_drop];simp;omega
  ·rw[e1,e2] at m;rcases List.mem_append.1 m with m|m
   ·rcases List.mem_append.1 m with m|m
    ·exact .inl (List.mem_of_mem_take m)
    ·exact .inr (List.mem_singleton.1 m)
   ·exact .inl (List.mem_of_mem_drop m)
  ·rw[e1,e2];rw[← List.take_append_drop k (ol o)] at m;rcases List.mem_append.1 m with m|m
   ·exact List.mem_append_left _ (List.mem_append_left _ m)
   ·exact List.mem_append_right _ m
theorem aPm (o:Option (List Table)) (hn:((ol o).length:Int)<999999) (hT:∀x∈ol o,sP x) (t:Table) (ht:sP t) (n mD:Int) :
 ∃r,aC Tryz.prog 172 [ov aR o,.agg (cI t),.v (.int .i64 n),.v (.int .i64 mD)]=some r∧∃o' e,r=.eG [ov aR o',.v (.int .i64 e)]∧e≠21∧((ol o').length:Int)≤max ((ol o).length:Int) mD∧(∀x∈ol o',sP x)∧(ol o ⊆ ol o')∧(e=0→o'≠some []∧∀x∈ol o',x∈ol o∨∃B,x.jO=ov bE (some B)∧(B.length:Int)=n):=by
 obtain⟨b,hb,hl⟩:=id ht
 have hfT:Flat (.agg (cI t)):=(kF t).2 ht.fl
 have hto:=lR o fun x m=>(hT x m).fl
 obtain⟨r,hr,e,rfl,he,hlen⟩:=aEm t b hb hl n
 have IS:=kx hr (bG hfT (.v _)) (.v _)
 have Ju:((ol o).length:Int)<1000000:=by omega
 have aFK:=l5 o Ju hto
 rw[cL Tryz.func172 rfl aKg (by cases o<;>rfl)]
 by_cases g1:e=0
 case neg =>
  simp only[Z8,seval,IS,bf g1,nG _ _ fun x m=>(hT x m).fl]
  exact⟨_,dO rfl rfl rfl (by simp only[E8,seval,nG _ _ fun x m=>(hT x m).fl]<;>rfl) (by simp only[E8,seval,nG _ _ fun x m=>(hT x m).fl]<;>rfl),o,e,rfl,he,by omega,hT,fun x m=>m,fun h=>absurd h g1⟩
 by_cases g2:0≤N5 (ol o) t.ck
 ·simp only[Z8,seval,IS,bt g1,aFK,g2];exact⟨_,dO rfl rfl rfl (by simp only[E8,seval,nG _ _ fun x m=>(hT x m).fl]<;>rfl) (by simp only[E8,seval,nG _ _ fun x m=>(hT x m).fl]<;>rfl),o,9,rfl,by decide,by omega,hT,fun x m=>m,fun h=>by cases h⟩
 by_cases g3:mD≤((ol o).length:Int)
 ·simp only[Z8,seval,IS,bt g1,aFK,g2,g3];exact⟨_,dO rfl rfl rfl (by simp only[E8,seval,nG _ _ fun x m=>(hT x m).fl]<;>rfl) (by simp only[E8,seval,nG _ _ fun x m=>(hT x m).fl]<;>rfl),o,11,rfl,by decide,by omega,hT,fun x m=>m,fun h=>by cases h⟩
 obtain⟨r2,hr2,L,⟨DB,hL2,hL3⟩,rfl⟩:=aPk o hn (fun x m=>(hT x m).fl) t b hb hl
 have hTL:∀x∈L,sP x:=fun x m=>(hL2 x m).elim (hT x) fun e=>by rw[e];exact⟨some (ol b),rfl,hl⟩
 have k195:∀(st:St),aM (aC Tryz.prog) 195 [ov aR o,.agg (cI t)] st (some 31)=_:=fun st=>jF (st:=st) (d:=31) (bG hto hfT) hr2
 have hex:=Qa L.length L fun x m=>(hTL x m).fl
 simp only[Z8,seval,IS,bt g1,aFK,g2,g3,k195];exact⟨_,dO rfl rfl rfl (by simp only[E8,seval,hex]<;>rfl) (by simp only[E8,seval,hex]<;>rfl),some L,0,rfl,by decide,by show ((L.length:Nat):Int)≤_;omega,hTL,hL3,fun _=>⟨fun e=>by injection e with e;rw[e] at DB;simp at DB,fun x m=>(hL2 x m).imp id fun e=>by rw[e];exact⟨ol b,rfl,hlen g1⟩⟩⟩
theorem aPn {s:aN} {v:SV} (hs:SD s v) (hn:((ol v.T).length:Int)<999999) (t:Table) (ht:sP t) :
 ∃r,aC Tryz.prog 117 [.agg (aB s),.agg (cI t)]=some r∧∃s' e,r=.eG [.agg (aB s'),.v (.int .i64 e)]∧Flat (.agg (aB s'))∧e≠21∧(e=0→∃o',s'={ s with tables:=ov aR o' }∧((ol o').length:Int)≤max ((ol v.T).length:Int) s.cFg.mD.qX∧(∀x∈ol o',sP x)∧(ol v.T ⊆ ol o')∧o'≠some []∧∀x∈ol o',x∈ol v.T∨∃B,x.jO=ov bE (some B)∧(B.length:Int)=(ol v.B).length):=by
 have hf:=hs.flat
 have kE:=hs.fl
 have hfT:Flat (.agg (cI t)):=(kF t).2 ht.fl
 have hz:Flat (.agg (aB gP)):=by simp only[dU,gP,nH,Im,Bs,Nh,and_self]
 obtain⟨r,hr,e,rfl,he⟩:=aO9 t ht (ol v.B).length
 have IS:=kx hr (bG hfT (.v _)) (.v _)
 obtain⟨r2,hr2,o',e2,rfl,he2,B7,hT2,hsub,hne2⟩:=aPm v.T hn hs.tB t ht (ol v.B).length s.cFg.mD.qX
 have hf2:Flat (ov aR o'):=lR o' fun x m=>(hT2 x m).fl
 have k172:=kx hr2 (by simp only[List.mem_cons,List.not_mem_nil,or_false,forall_eq_or_imp,forall_eq,aFz,and_true];exact⟨hs.fT,hfT⟩) (.eG _ (bG hf2 (.v _)))
 rw[cL Tryz.func117 rfl aKh rfl];by_cases g1:e=0
 case neg =>
  simp only[Z8,seval,Yw hs,IS,bf g1];exact⟨_,by apply dO;rfl;all_goals simp only[aI,bT,Z8,seval,hz]<;>rfl,gP,e,rfl,hz,he,fun h=>absurd h g1⟩
 by_cases g2:t.ck.aK<s.bJ.gW.aK
 ·simp only[Z8,seval,Yw hs,IS,bt g1,g2];exact⟨_,by apply dO;rfl;all_goals simp only[aI,bT,Z8,seval,hz]<;>rfl,gP,13,rfl,hz,by decide,fun h=>by cases h⟩
 by_cases g3:e2=0
 case neg =>
  simp only[Z8,seval,Yw hs,IS,bt g1,g2,hs.tables,k172,dY,bf g3];exact⟨_,by apply dO;rfl;all_goals simp only[aI,bT,Z8,seval,hz]<;>rfl,gP,e2,rfl,hz,he2,fun h=>absurd h g3⟩
 ·have hf3:Flat (.agg (aB { s with tables:=ov aR o' })):=by simp only[dU,kE,hf2,and_self]
  simp only[Z8,seval,Yw hs,IS,bt g1,g2,hs.tables,k172,dY,bt g3];exact⟨_,by apply dO;rfl;all_goals simp only[aI,bT,Z8,seval,hf3]<;>rfl,_,0,rfl,hf3,by decide,fun _=>⟨o',rfl,B7,hT2,hsub,hne2 g3⟩⟩
noncomputable def DK (v:SV):Int:=Cn (fun k=>0≤aO v.ns (gx fD (ol v.O) k).parent) (ol v.O).length
theorem aKi {s:aN} {v:SV} (hs:SD s v):aC Tryz.prog 218 [.agg (aB s)]=some (.v (.int .i64 (DK v))):=by
 have hn:=hs.nO
 rw[cL Tryz.func218 rfl aKj rfl];refine jG ?_
 simp only[Z8,seval,hs.bV];refine cE (fun m st=>∃k:Nat,(st.env 1=.ptr 1 0 0∧st.heap 1 0=some (.cells (aB s))∧st.env 3=.v (.int .i64 k))∧(∀j:Nat,j<k→¬(0≤aO v.ns (gx fD (ol v.O) (j:Int)).parent))∧k≤(ol v.O).length∧m=(ol v.O).length-k)
  (fun e st=>(e=.ret∧∃k:Nat,k<(ol v.O).length∧(0≤aO v.ns (gx fD (ol v.O) (k:Int)).parent)∧(∀j:Nat,j<k→¬(0≤aO v.ns (gx fD (ol v.O) (j:Int)).parent))∧st.env 2=.v (.int .i64 (k:Nat)))∨(e=.exit 0∧(∀j:Nat,j<(ol v.O).length→¬(0≤aO v.ns (gx fD (ol v.O) (j:Int)).parent))∧st.env 1=.ptr 1 0 0∧st.heap 1 0=some (.cells (aB s)))) ((ol v.O).length) ?step ?start ?rest
 case step =>
  rintro m st ⟨k,hI,hj,hk,hm⟩
  by_cases aY:(k:Int)<(ol v.O).length
  ·have q0:(0:Int)≤k:=by omega
   have hw:IntKind.i64.wrap ((k:Int)+1)=((k+1:Nat):Int):=by rw[pZ _ (by omega) (by omega)];omega
   by_cases hh:0≤aO v.ns (gx fD (ol v.O) (k:Int)).parent
   ·apply oT (.ret)
    ·simp only[Z8,seval,hI,aY,q0,hs.bV,hs.tree,mQ _ _ hs.nn,hh];rfl
    ·exact .inl ⟨rfl,k,by omega,hh,hj,by simp only[E8,seval,hs.bV,hs.tree,mQ _ _ hs.nn]⟩
   ·apply oN ((ol v.O).length-(k+1))
    ·simp only[Z8,seval,hI,aY,q0,hs.bV,hs.tree,mQ _ _ hs.nn,hh,hw];rfl
    ·exact⟨k+1,by simp only[E8,seval,hI],fun j h=>(Nat.lt_succ_iff_lt_or_eq.1 h).elim (hj j) fun e=>by subst e;exact hh,by omega,rfl⟩
  ·apply oT (.exit 0)
   ·simp only[Z8,seval,hI,aY,hs.bV,hs.tree,mQ _ _ hs.nn];rfl
   ·exact .inr ⟨rfl,fun j h=>hj j (by omega),by simp only[E8,seval,hI]⟩
 case start=>exact⟨0,by simp only[E8,seval]<;>rfl,fun j h=>by omega,by omega,by omega⟩
 case rest =>
  rintro e st (⟨rfl,k,hk,hh,hj,h⟩|⟨rfl,hj,hI⟩)
  ·have hv:DK v=k:=Jz hh hj _ hk
   simp only[Z8,seval];exact⟨_,bS rfl (by simp only[E8,seval,h]<;>rfl) (by first|exact .v _|simp only[dU,h]),by rw[hv]⟩
  ·have hv:DK v=-1:=tN _ hj
   simp only[Z8,seval];exact⟨_,bS rfl (by simp only[E8,seval]<;>rfl) (by first|exact .v _|simp only[dU]),by rw[hv]⟩
theorem OG {s:aN} {v:SV} (hs:SD s v) (st:St) (d:Option Nat):aM (aC Tryz.prog) 218 [.agg (aB s)] st d=some { dst:=d,val:=.v (.int .i64 (DK v))}:=bI (cU hs.flat) (aKi hs) (.v _)
noncomputable def GR (e:Int) (r:cA) (a:List kM × Int) (x:Int):List kM × Int :=
 if (gx sR a.1 x).has=false∨(gx sR a.1 x).aK<e then (a.1.set x.toNat ⟨true,e,r⟩,IntKind.i64.wrap (a.2+1)) else a
noncomputable def uI (L:List kM) (e:Int) (r:cA) (V:List Int):List kM × Int:=V.foldl (GR e r) (L,0)
theorem E4 (e:Int) (r:cA) (a:List kM × Int) (x:Int):(GR e r a x).1.length=a.1.length:=by unfold GR;split<;>simp
theorem Su (L:List kM) (e:Int) (r:cA) (V:List Int):(uI L e r V).1.length=L.length:=by
 unfold uI;suffices h:∀(V:List Int) (a:List kM × Int),(V.foldl (GR e r) a).1.length=a.1.length from h V _
 intro V;induction V with
 | nil=>intro a;rfl
 | cons x V ih=>intro a;rw[List.foldl_cons,ih,E4]
theorem VN (L:List kM) (e:Int) (r:cA) (V:List Int) (k:Nat) (h:k<V.length):uI L e r (V.take (k+1))=GR e r (uI L e r (V.take k)) (gx (0:Int) V k):=by
 unfold uI;rw[List.take_succ_eq_append_getElem h,List.foldl_append];simp[gx,h]
theorem aPo (o:Option (List kM)) (hn:((ol o).length:Int)<1000000) (e:Int) (r:cA) (V:Option (List Int)) (hV:((ol V).length:Int)<1000000) (hr:∀x∈ol V,0≤x∧x<(ol o).length) :
 aC Tryz.prog 110 [ov cP o,.v (.int .u64 e),.agg (aV r),ov aJ V]=some (.eG [.sl (ol o).length (cP (uI (ol o) e r (ol V)).1),.v (.int .i64 (uI (ol o) e r (ol V)).2)]):=by
 rw[cL Tryz.func110 rfl aKk (by cases o<;>cases V<;>rfl)]
 refine jG ?_
 simp only[Z8,seval,OH _ hn];refine cE (fun m st=>∃(k:Nat) (l:List kM) (c:Int),(st.env 1=.v (.int .u64 e)∧st.env 6=.ptr 6 0 0∧st.heap 6 0=some (.cells (aV r))∧st.env 3=ov aJ V∧st.env 10=.own 15 0∧st.heap 15 0=some (.row 100 34 l.length (cP l))∧st.env 11=.v (.int .i64 c)∧st.env 12=.v (.int .i64 k))∧uI (ol o) e r ((ol V).take k)=(l,c)∧l.length=(ol o).length∧k≤(ol V).length∧m=(ol V).length-k)
  (fun ex st=>ex=.exit 0∧∃(l:List kM) (c:Int),(st.env 10=.own 15 0∧st.heap 15 0=some (.row 100 34 l.length (cP l))∧st.env 11=.v (.int .i64 c))∧uI (ol o) e r (ol V)=(l,c)∧l.length=(ol o).length) (ol V).length ?step ?start ?rest
 case step =>
  rintro m st ⟨k,l,c,hI,hc,hl,hk,hm⟩
  by_cases aY:(k:Int)<(ol V).length
  ·have q0:(0:Int)≤k:=by omega
   have hw:IntKind.i64.wrap ((k:Int)+1)=((k+1:Nat):Int):=by rw[pZ _ (by omega) (by omega)];omega
   have sG:=VN (ol o) e r (ol V) k (by omega)
   rw[hc] at sG;unfold GR at sG;have hx:=hr _ (vU (z:=(0:Int)) q0 aY)
   obtain⟨x,ex⟩:∃x,gx (0:Int) (ol V) (k:Int)=x:=⟨_,rfl⟩
   rw[ex] at hx sG;have x0:0≤x:=hx.1
   have x1:x<(l.length:Int):=by rw[hl];exact hx.2
   have x2:x.toNat<l.length:=by omega
   have x3:x.toNat * 34+34≤l.length * 34:=by omega
   have ld:=l8 (T:=100) (n:=l.length) (k:=34) x0 x1 aEr (by decide) (by decide)
   by_cases h1:(gx sR l x).has=true
   ·by_cases h2:(gx sR l x).aK<e
    ·rw[if_pos (.inr h2)] at sG;apply oN ((ol V).length-(k+1))
     ·simp only[Z8,seval,hI,aY,q0,ex,x0,x1,x2,x3,ld,h1,h2,IT _ _ _ x2,hw];rfl
     ·exact⟨k+1,_,_,by simp only[E8,seval,hI,List.length_set]<;>exact⟨rfl,rfl⟩,sG,by rw[List.length_set,hl],by omega,rfl⟩
    ·rw[if_neg (by simp only[h1,h2,Bool.true_eq_false,or_self,not_false_eq_true])] at sG
     apply oN ((ol V).length-(k+1))
     ·simp only[Z8,seval,hI,aY,q0,ex,x0,x1,x2,x3,ld,h1,h2,hw];rfl
     ·exact⟨k+1,l,c,by simp only[E8,seval,hI],sG,hl,by omega,rfl⟩
   ·have FR:(gx sR l x).has=false:=by simpa using h1
    rw[if_pos (.inl FR)] at sG;apply oN ((ol V).length-(k+1))
    ·simp only[Z8,seval,hI,aY,q0,ex,x0,x1,x2,x3,ld,FR,IT _ _ _ x2,hw];rfl
    ·exact⟨k+1,_,_,by simp only[E8,seval,hI,List.length_set]<;>exact⟨rfl,rfl⟩,sG,by rw[List.length_set,hl],by omega,rfl⟩
  ·have Fg:k=(ol V).length:=by omega
   rw[Fg,List.take_length] at hc;apply oT (.exit 0)
   ·simp only[Z8,seval,hI,aY];rfl
   ·exact⟨rfl,l,c,by simp only[E8,seval,hI],hc,hl⟩
 case start=>exact⟨0,ol o,0,by simp only[E8,seval]<;>rfl,rfl,rfl,by omega,by omega⟩
 case rest =>
  rintro ex st ⟨rfl,l,c,hI,hc,hl⟩
  rw[hc];simp only[Z8,seval,hI];exact⟨_,dO rfl rfl rfl (by simp only[E8,seval,hI,Xg]<;>rfl) (by simp only[E8,seval,hI,Xg]<;>rfl),by rw[hl]⟩
theorem aKl (o:Option (List kM)) (hn:((ol o).length:Int)<1000000) (e:Int) (r:cA) (V:Option (List Int)) (hV:((ol V).length:Int)<1000000) (hr:∀x∈ol V,0≤x∧x<(ol o).length) (st:St) (d:Option Nat) :
 aM (aC Tryz.prog) 110 [ov cP o,.v (.int .u64 e),.agg (aV r),ov aJ V] st d=some { dst:=d,val:=.eG [.sl (ol o).length (cP (uI (ol o) e r (ol V)).1),.v (.int .i64 (uI (ol o) e r (ol V)).2)]} :=
 bI (by simp only[List.mem_cons,List.not_mem_nil,or_false,forall_eq_or_imp,forall_eq,dU,and_self,and_true,true_and]) (aPo o hn e r V hV hr) (.eG _ (bG (.sl _ _ (nF _)) (.v _)))
noncomputable def Sv (s:aN) (v:SV) (a:sH) (V:List Int):aN:={ s with gE:={ s.gE with dT:=ov cP (some (uI (ol v.L) a.target.aK a.root V).1)} }
theorem c44 {s:aN} {v:SV} (hs:SD s v) (a:sH) (V:Option (List Int)) (ha:a.eU=ov aJ V) (hV:((ol V).length:Int)<1000000) (hr:∀x∈ol V,0≤x∧x<(ol v.L).length) :
 aC Tryz.prog 44 [.agg (aB s),.agg (gY a)]=some (.agg (aB (Sv s v a (ol V)))):=by
 have kE:=hs.fl
 rw[cL Tryz.func44 rfl aPp rfl];refine jG ?_
 simp only[Z8,seval,hs.dT,ha,aKl v.L hs.nL _ _ V hV hr,dY];exact⟨_,fI rfl (by simp only[E8,seval,kE,and_self]<;>rfl) (by simp only[Z8,seval,kE,and_self]<;>rfl) (by simp only[dU,and_self,kE,and_self]),by unfold Sv;simp only[ov,Su]⟩
theorem Ze (ns:List Node) (r:cA) (h:0≤aO ns r):(nd ns (aO ns r)).block.root=r:=by
 unfold aO at h ⊢
 cases hf:ns.findIdx? (fun n=>decide (n.block.root=r)) with
 | none=>rw[hf] at h;simp only at h;omega
 | some k =>
   obtain⟨hk,hp,_⟩:=List.findIdx?_eq_some_iff_getElem.1 hf
   simp only
   have:nd ns (k:Int)=ns[k]:=by simp[nd,hk]
   rw[this];exact of_decide_eq_true hp
theorem Qb {ns:List Node} {r:cA} {j:Int} (h0:0≤j) (h1:j<ns.length) (hr:(nd ns j).block.root=r):0≤aO ns r:=by
 unfold aO;cases hf:ns.findIdx? (fun n=>decide (n.block.root=r)) with
 | none =>
   obtain⟨hj,e⟩:=Mz h0 h1
   have:=List.findIdx?_eq_none_iff.1 hf ns[j.toNat] (List.getElem_mem hj)
   rw[← e] at this;simp[hr] at this
 | some k=>simp only;omega
structure GI (s:aN) (v:SV) (q:Int):Prop where
 sd:SD s v
 up:iA v.ns
 NM:(nd v.ns 0).up=-1
 pos:0<v.ns.length
 nl:(v.ns.length:Int)≤s.cFg.mD.rY
 VO:s.cFg.mD.rY≤4096
 qW:1≤s.cFg.qW∧s.cFg.qW≤64
 OI:(ol v.L).length=(ol v.B).length
 nB:((ol v.B).length:Int)≤1024
 nO:((ol v.O).length:Int)≤s.cFg.mD.wY
 OJ:s.cFg.mD.wY≤64
 nE:((ol v.E).length:Int)≤s.cFg.mD.qC
 UF:s.cFg.mD.qC≤256
 nT:((ol v.T).length:Int)≤s.cFg.mD.qX
 VP:s.cFg.mD.qX≤64
 nQ:((ol v.Q).length:Int)≤q
 Q5:q≤900000
 gW:0≤aO v.ns s.bJ.gW.root
theorem GI.sp {s:aN} {v:SV} {q:Int} (h:GI s v q):s.cFg.qW≠0:=by have:=h.qW.1;omega
theorem wZ (s:aN) (v:SV) (c1 c2:fV):(xQ s v c1 c2).cFg=s.cFg:=by unfold xQ;split;rfl;split<;>rfl
theorem Qc (s:aN) (v:SV) (c1 c2:fV):(xQ s v c1 c2).now=s.now:=by unfold xQ;split;rfl;split<;>rfl
theorem GI.dJ {s:aN} {v:SV} {q:Int} (h:GI s v q) (c1 c2:fV):GI (xQ s v c1 c2) (Il s v c1 c2) q:=by
 have hsd:=h.sd.dJ h.up c1 c2
 by_cases b:mR s v (Hv s c1) (Fj s c2)
 ·rw[show xQ s v c1 c2=s from if_pos b,show Il s v c1 c2=v from if_pos b];exact h
 have hJ:0≤aO v.ns (Hv s c1).root:=by rcases Int.lt_or_le (aO v.ns (Hv s c1).root) 0 with g|g;exact absurd (.inl g) b;exact g
 have hF:0≤aO v.ns (Fj s c2).root:=by rcases Int.lt_or_le (aO v.ns (Fj s c2).root) 0 with g|g;exact absurd (.inr (.inl g)) b;exact g
 have hA:Bj v.ns (aO v.ns (Fj s c2).root) (aO v.ns (Hv s c1).root)=true:=by
  cases g:Bj v.ns (aO v.ns (Fj s c2).root) (aO v.ns (Hv s c1).root)
  ·exact absurd (.inr (.inr (.inr (.inr (.inr (.inr (.inl g))))))) b
  ·rfl
 have hT:((ol (nz (yW (ol v.T) (Hv s c1).aK))).length:Int)≤s.cFg.mD.qX:=by
  rw[oV];have:=List.length_filter_le (fun t:Table=>decide ((Hv s c1).aK≤t.ck.aK)) (ol v.T);have:=h.nT;unfold yW;omega
 by_cases e:Fj s c2=s.bJ.fin
 ·have hS:xQ s v c1 c2=_:=(if_neg b).trans (if_pos e)
  have hW:Il s v c1 c2=_:=(if_neg b).trans (if_pos e)
  rw[hS,hW] at hsd ⊢;exact⟨hsd,h.up,h.NM,h.pos,h.nl,h.VO,h.qW,h.OI,h.nB,h.nO,h.OJ,h.nE,h.UF,hT,h.VP,h.nQ,h.Q5,hJ⟩
 ·have hS:xQ s v c1 c2=_:=(if_neg b).trans (if_neg e)
  have hW:Il s v c1 c2=_:=(if_neg b).trans (if_neg e)
  rw[hS,hW] at hsd ⊢;have rF:=fN v.ns (Fj s c2).root
  have rJ:=fN v.ns (Hv s c1).root
  have GF:=NJ h.up hF rF.2
  have h1:=NL h.up GF
  have h2:=NL h.up hA
  have hz:=ZT h.up GF
  have hlen:=IM (ns:=v.ns) (aO v.ns (Fj s c2).root)
  have UG:=h.nl
  refine⟨hsd,aBU h.up GF, ?_, ?_, ?_,h.VO,h.qW,h.OI,h.nB, ?_,h.OJ,h.nE,h.UF,hT,h.VP,h.nQ,h.Q5, ?_⟩
  ·rw[hz] at h1;show (nd (oS v.ns (aO v.ns (Fj s c2).root) v.ns.length).1 0).up=-1
   rw[h1.2.2,if_pos rfl]
  ·have:=h1.2.1;have:=h1.1
   show 0<(oS v.ns (aO v.ns (Fj s c2).root) v.ns.length).1.length
   omega
  ·show (((oS v.ns (aO v.ns (Fj s c2).root) v.ns.length).1.length:Nat):Int)≤s.cFg.mD.rY
   omega
  ·show ((ol (nz _)).length:Int)≤s.cFg.mD.wY
   rw[oV];have:=List.length_filter_le (fun b:Block=>decide ((Fi s (Fj s c2).aK).1<b.slot)) (ol v.O);have:=h.nO;omega
  ·refine Qb h2.1 h2.2.1 ?_
   rw[h2.2.2];exact Ze _ _ hJ
noncomputable def Az (v:SV) (b:Block):List Node:=v.ns++[⟨b,aO v.ns b.parent,Px b⟩]
noncomputable def Ln (s:aN) (v:SV) (b:Block):aN:={ s with tree:=⟨.sl (Az v b).length (cB (Az v b))⟩}
noncomputable def Io (v:SV) (b:Block):SV:={ v with ns:=Az v b }
noncomputable def Q6 (s:aN) (v:SV) (b:Block):aN:=xQ (Ln s v b) (Io v b) b.gW b.fin
noncomputable def Q7 (s:aN) (v:SV) (b:Block):SV:=Il (Ln s v b) (Io v b) b.gW b.fin
noncomputable def tF (s:aN) (v:SV) (b:Block):aN:=if Fh s b.slot<Fh s s.now then xQ (Q6 s v b) (Q7 s v b) b.dQ.pj b.dQ.pf else Q6 s v b
noncomputable def lF (s:aN) (v:SV) (b:Block):SV:=if Fh s b.slot<Fh s s.now then Il (Q6 s v b) (Q7 s v b) b.dQ.pj b.dQ.pf else Q7 s v b
theorem E5 (b:Block):UR (Px b)=true:=by unfold Px;split<;>rfl
theorem l9 {s:aN} {v:SV} {q:Int} (h:GI s v q) {b:Block} (hb:Md s v b=0):Vy v.ns b (Px b)=0∧(v.ns.length:Int)<s.cFg.mD.rY∧0≤aO v.ns b.parent:=by
 unfold Md at hb;by_cases g1:b.root=dE
 ·rw[if_pos g1] at hb;omega
 rw[if_neg g1] at hb;by_cases g2:KnB v b.root
 ·rw[if_pos g2] at hb;omega
 rw[if_neg g2] at hb;by_cases g3:s.now<b.slot
 ·rw[if_pos g3] at hb;omega
 rw[if_neg g3] at hb;by_cases g4:b.slot≤(Fi s s.bJ.fin.aK).1
 ·rw[if_pos g4] at hb;omega
 rw[if_neg g4] at hb;by_cases g5:aO v.ns b.parent<0
 ·rw[if_pos g5] at hb;omega
 rw[if_neg g5] at hb;by_cases g6:b.slot≤(nd v.ns (aO v.ns b.parent)).block.slot
 ·rw[if_pos g6] at hb;omega
 rw[if_neg g6] at hb;by_cases g7:(nd v.ns (aO v.ns b.parent)).status=2
 ·rw[if_pos g7] at hb;omega
 rw[if_neg g7] at hb;by_cases g8:¬IK s v b
 ·rw[if_pos g8] at hb;omega
 rw[if_neg g8] at hb;by_cases g9:¬D8 s.cFg.DJ (nd v.ns (aO v.ns b.parent)).block b
 ·rw[if_pos g9] at hb;omega
 rw[if_neg g9] at hb;by_cases Q4:s.cFg.mD.rY≤(v.ns.length:Int)
 ·rw[if_pos Q4] at hb;omega
 have:=h.VO
 refine⟨?_,by omega,by omega⟩
 unfold Vy;rw[E5,if_neg (by simp),if_neg (fun h=>g2 (.inr h)),if_neg g5,if_neg g6,if_neg (by omega)]
theorem GI.Ln {s:aN} {v:SV} {q:Int} (h:GI s v q) {b:Block} (hb:(v.ns.length:Int)<s.cFg.mD.rY) (hp:0≤aO v.ns b.parent):GI (Ln s v b) (Io v b) q:=by
 have hlen:(Az v b).length=v.ns.length+1:=by unfold Az;simp
 have hnB:=h.VO
 have hsd:SD (Tryz.Ln s v b) (Io v b):=⟨h.sd.jO,h.sd.dT,h.sd.iB,h.sd.early,h.sd.bV,rfl,h.sd.tables,h.sd.eV,h.sd.tB,h.sd.nB,h.sd.nL,h.sd.nQ,h.sd.nE,h.sd.nO,h.sd.nT,by show ((Az v b).length:Int)<1000000;omega⟩
 have rp:=fN v.ns b.parent
 refine⟨hsd,fun i h0 h1=>?_, ?_, ?_, ?_,h.VO,h.qW,h.OI,h.nB,h.nO,h.OJ,h.nE,h.UF,h.nT,h.VP,h.nQ,h.Q5, ?_⟩
 ·have h1:i<((Az v b).length:Int):=h1
  show 0≤(nd (Az v b) i).up∧(nd (Az v b) i).up<i
  by_cases hi:i<(v.ns.length:Int)
  ·unfold Az;rw[Jx (by omega) hi];exact h.up i h0 hi
  ·unfold Az;rw[FW (by omega)];exact⟨hp,by show aO v.ns b.parent<i;omega⟩
 ·show (nd (Az v b) 0).up=-1
  unfold Az;rw[Jx (by omega) (by have:=h.pos;omega)];exact h.NM
 ·show 0<(Az v b).length;omega
 ·show ((Az v b).length:Int)≤s.cFg.mD.rY;omega
 ·show 0≤aO (Az v b) s.bJ.gW.root
  have rj:=fN v.ns s.bJ.gW.root
  refine Qb h.gW (by omega) ?_
  unfold Az;rw[Jx h.gW rj.2];exact Ze _ _ h.gW
theorem GI.ins {s:aN} {v:SV} {q:Int} (h:GI s v q) {b:Block} (hb:Md s v b=0):GI (tF s v b) (lF s v b) q:=by
 obtain⟨_,h2,h3⟩:=l9 h hb
 have g1:=h.Ln h2 h3
 have g2:=g1.dJ b.gW b.fin
 unfold tF lF;split
 ·exact g2.dJ _ _
 ·exact g2
theorem Bt (s:aN) (v:SV) (b:Block):(tF s v b).cFg=s.cFg∧(tF s v b).now=s.now:=by
 unfold tF;split
 ·rw[wZ,Qc];unfold Q6;rw[wZ,Qc];exact⟨rfl,rfl⟩
 ·unfold Q6;rw[wZ,Qc];exact⟨rfl,rfl⟩
theorem aKm {s:aN} {v:SV} {q:Int} (h:GI s v q) {b:Block} (hb:Md s v b=0):aC Tryz.prog 217 [.agg (aB s),.agg (aT b)]=some (.agg (aB (tF s v b))):=by
 obtain⟨h1,h2,h3⟩:=l9 h hb
 have g1:=h.Ln h2 h3
 have g2:=g1.dJ b.gW b.fin
 have hi:Fo v.ns b (Px b)=.eG [.agg (cT ⟨Az v b⟩),.v (.int .i64 0)]:=if_pos h1
 have Q8:=aJf v.ns h.sd.nn b (Px b)
 rw[hi] at Q8
 have k61a:=k61 g1.sd g1.up g1.sp b.gW b.fin
 have k61b:=k61 g2.sd g2.up g2.sp b.dQ.pj b.dQ.pf
 have Q9:(xQ (Tryz.Ln s v b) (Io v b) b.gW b.fin).cFg.qW=s.cFg.qW:=by rw[wZ];rfl
 have hnow:(xQ (Tryz.Ln s v b) (Io v b) b.gW b.fin).now=s.now:=by rw[Qc];rfl
 have hep:∀x,Fh (xQ (Tryz.Ln s v b) (Io v b) b.gW b.fin) x=Fh s x:=fun x=>by unfold Fh;rw[Q9]
 have k98':=Ow (xQ (Tryz.Ln s v b) (Io v b) b.gW b.fin) g2.sp g2.sd.flat
 have e1:({ cFg:=s.cFg,gE:=s.gE,bJ:=s.bJ,dS:=s.dS,tree:=⟨.sl (Az v b).length (cB (Az v b))⟩,now:=s.now,iG:=s.iG,tables:=s.tables }:aN)=Tryz.Ln s v b:=rfl
 rw[cL Tryz.func217 rfl aKn rfl];refine jG ?_
 by_cases c:Fh s b.slot<Fh s s.now
 ·have hv:tF s v b=_:=if_pos c
  have IU:=(g2.dJ b.dQ.pj b.dQ.pf).sd.flat
  simp only[Z8,seval,h.sd.tree,aJ5,Q8,dY,e1,k61a,k98',hep,hnow,c,k61b];exact⟨_,fI rfl (by simp only[E8,seval,IU]<;>rfl) (by simp only[Z8,seval,IU]<;>rfl) (by simp only[dU,and_self,IU]),by rw[hv];rfl⟩
 ·have hv:tF s v b=_:=if_neg c
  have IU:=g2.sd.flat
  simp only[Z8,seval,h.sd.tree,aJ5,Q8,dY,e1,k61a,k98',hep,hnow,c];exact⟨_,fI rfl (by simp only[E8,seval,IU]<;>rfl) (by simp only[Z8,seval,IU]<;>rfl) (by simp only[dU,and_self,IU]),by rw[hv];rfl⟩
theorem Sw {L:List Block} {k:Nat} (hk:k≤L.length) (a g:Nat):∃X,(∀(st:St) (hi:Operand),st.ev hi=.v (.int .i64 k)→st.heap a g=some (.row 74 238 L.length (aH L))→cX Tryz.prog st 45 (.own a g) none (some hi)=some X) ∧
 (∀st:St,st.heap a g=some (.row 74 238 L.length (aH L))→aQ st X=some ((L.take k).length,aH (L.take k))):=by
 have hl:(L.take k).length=k:=by simp;omega
 by_cases h0:k=0∧L.length=0
 ·obtain⟨rfl,h1⟩:=h0
  refine⟨.sl 0 [],fun st hi he hh=>?_,fun st hh=>by simp[aQ,aH]⟩
  simp[cX,oB,hh,he,h1]
 ·refine⟨.vw a g 0 k,fun st hi he hh=>?_,fun st hh=>?_⟩
  ·have:¬((0:Int)=k∧¬((0:Int)=0∧0<L.length)):=by omega
   have h2:(0:Int)≤k∧(k:Int)≤L.length:=by omega
   simp only[cX,oB,hh,he,if_neg this,h2,Int.le_refl,and_self,if_true];simp
   intro h3 h4;rw[h4] at h0;simp at h0
   omega
  ·have hb:k * 238≤(aH L).length:=by rw[Bu];exact Nat.mul_le_mul_right _ hk
   have:=yH (c:=aT) (sz:=238) bM L k
   simp only[aQ,hh,Nat.zero_add,hb,if_true,List.drop_zero,hl];exact congrArg (fun z=>some (k,z)) this
theorem Dn {L:List Block} {k:Nat} (hk:k≤L.length) (a g:Nat):∃X,(∀(st:St) (lo:Operand),st.ev lo=.v (.int .i64 k)→st.heap a g=some (.row 74 238 L.length (aH L))→cX Tryz.prog st 45 (.own a g) (some lo) none=some X) ∧
 (∀st:St,st.heap a g=some (.row 74 238 L.length (aH L))→aQ st X=some ((L.drop k).length,aH (L.drop k))):=by
 have hl:(L.drop k).length=L.length-k:=by simp
 by_cases h0:k=L.length
 ·by_cases hz:0<k
  ·refine⟨.sl 0 [],fun st lo he hh=>?_,fun st hh=>by rw[h0];simp[aQ,aH]⟩
   have:(k:Int)=L.length∧¬((k:Int)=0∧0<L.length):=by omega
   have h2:(0:Int)≤k∧(k:Int)≤L.length:=by omega
   simp only[cX,oB,hh,he,if_pos this,h2,Int.le_refl,and_self,if_true]
  ·refine⟨.sl 0 [],fun st lo he hh=>?_,fun st hh=>by rw[h0];simp[aQ,aH]⟩
   have:(k:Int)=L.length∧¬((k:Int)=0∧0<L.length):=by omega
   have h2:(0:Int)≤k∧(k:Int)≤L.length:=by omega
   simp only[cX,oB,hh,he,if_pos this,h2,Int.le_refl,and_self,if_true]
 ·refine⟨.vw a g (k * 238) (L.length-k),fun st lo he hh=>?_,fun st hh=>?_⟩
  ·have h1:¬((k:Int)=L.length∧¬((k:Int)=0∧0<L.length)):=by omega
   have h2:((L.length:Int)-(k:Int)).toNat=L.length-k:=by omega
   have h3:(0:Int)≤k∧(k:Int)≤L.length:=by omega
   simp only[cX,oB,hh,he,if_neg h1,h3,Int.le_refl,and_self,if_true,h2,Int.toNat_natCast]
  ·have hb:k * 238+(L.length-k) * 238≤(aH L).length:=by rw[Bu,← Nat.add_mul];exact Nat.mul_le_mul_right _ (by omega)
   have:=yI (c:=aT) (sz:=238) bM L k
   have h3:((aH L).drop (k * 238)).length=(L.length-k) * 238:=by rw[List.length_drop,Bu,Nat.sub_mul]
   simp only[aQ,hh,hb,if_true,hl];rw[List.take_of_length_le (by omega)]
   exact congrArg (fun z=>some (L.length-k,z)) this
theorem GI.iG {s:aN} {v:SV} {q:Int} (h:GI s v q) (r:cA):GI { s with iG:=r } v q :=
 ⟨⟨h.sd.jO,h.sd.dT,h.sd.iB,h.sd.early,h.sd.bV,h.sd.tree,h.sd.tables,h.sd.eV,h.sd.tB,h.sd.nB,h.sd.nL,h.sd.nQ,h.sd.nE,h.sd.nO,h.sd.nT,h.sd.nn⟩,h.up,h.NM,h.pos,h.nl,h.VO,h.qW,h.OI,h.nB,h.nO,h.OJ,h.nE,h.UF,h.nT,h.VP,h.nQ,h.Q5,h.gW⟩
def mS (s:aN) (x:AV):aN:={ s with dS:={ s.dS with bV:=x }}
theorem GI.VQ {s:aN} {v:SV} {q:Int} (h:GI s v q) (O:Option (List Block)) (hO:((ol O).length:Int)≤s.cFg.mD.wY):GI (mS s (ov aH O)) { v with O:=O } q :=
 ⟨⟨h.sd.jO,h.sd.dT,h.sd.iB,h.sd.early,rfl,h.sd.tree,h.sd.tables,h.sd.eV,h.sd.tB,h.sd.nB,h.sd.nL,h.sd.nQ,h.sd.nE,by have:=h.OJ;show ((ol O).length:Int)<1000000;omega,h.sd.nT,h.sd.nn⟩,h.up,h.NM,h.pos,h.nl,h.VO,h.qW,h.OI,h.nB,hO,h.OJ,h.nE,h.UF,h.nT,h.VP,h.nQ,h.Q5,h.gW⟩
theorem VR (s:aN) (v:SV) (c1 c2:fV):(ol (Il s v c1 c2).O).length≤(ol v.O).length:=by
 unfold Il;split
 ·exact Nat.le_refl _
 split
 ·exact Nat.le_refl _
 ·show (ol (nz _)).length≤_
  rw[oV];exact List.length_filter_le _ _
theorem VS (s:aN) (v:SV) (b:Block):(ol (lF s v b).O).length≤(ol v.O).length:=by
 unfold lF;split
 ·exact Nat.le_trans (VR _ _ _ _) (VR _ _ _ _)
 ·exact VR _ _ _ _
theorem zV {s:aN} {v:SV} (h:SD s v) {O:List Block} {a g:Nat} (st:St) (hh:st.heap a g=some (.row 74 238 O.length (aH O))):fG st (.agg (aB (mS s (.own a g))))=some (.agg (aB (mS s (ov aH (some O))))):=by
 have kE:=h.fl
 unfold mS;simp only[bP,gJ,bA,hh,uH,bY,dU,kE,cK];rfl
def Rg (x:Int):Prop:=0≤x∧x<18446744073709551616
structure RB (b:Block):Prop where
 sl:Rg b.slot
 j:Rg b.gW.aK
 f:Rg b.fin.aK
 pj:Rg b.dQ.pj.aK
 pf:Rg b.dQ.pf.aK
def Pr (r:cA):Prop:=r≠dE∧r≠mkRoot 99
theorem Zf {α:Type} (l:List α):nz l≠some []:=by
 unfold nz;split
 ·nofun
 ·rename_i h;intro e;injection e with e;exact h e
structure NEv (v:SV):Prop where
 q:v.Q≠some []
 e:v.E≠some []
 o:v.O≠some []
 t:v.T≠some []
 ea:∀a∈ol v.E,∃V,a.eU=ov aJ (some V)∧V≠[]
 tb:∀t∈ol v.T,∃B,t.jO=ov bE (some B)∧B≠[]
structure RG (s:aN) (v:SV):Prop where
 now:0≤s.now∧s.now≤1099511627776
 j:Rg s.bJ.gW.aK
 f:Rg s.bJ.fin.aK
 nd:∀n∈v.ns,RB n.block∧n.block.slot≤s.now
 or:∀b∈ol v.O,RB b∧Pr b.root
 rt:∀n∈v.ns,Pr n.block.root
 fe:s.bJ.fin.aK≤s.bJ.gW.aK∧s.bJ.gW.aK≤Fh s s.now
 ds:(v.ns.map fun n=>n.block.root).Nodup
 tb:∃t∈ol v.T,t.ck=s.bJ.gW
 ne:NEv v
theorem IV {ns:List Node} {i:Int} (h0:0≤i) (h1:i<ns.length):nd ns i∈ns:=by
 obtain⟨h,e⟩:=Mz h0 h1
 rw[e];exact List.getElem_mem h
theorem Xh (ns:List Node) (i:Int):∀k:Nat,k≤ns.length→∀n∈(oS ns i k).1,∃a∈ns,n.block=a.block∧n.status=a.status
 | 0,_,n,hn=>by simp[oS] at hn
 | k+1,hk,n,hn=>by
   unfold oS at hn;simp only at hn
   split at hn
   ·rcases List.mem_append.1 hn with hn|hn
    ·exact Xh ns i k (by omega) n hn
    ·rw[List.mem_singleton] at hn;subst hn;exact⟨nd ns k,IV (by omega) (by omega),rfl,rfl⟩
   ·exact Xh ns i k (by omega) n hn
theorem n5 (ns:List Node) (i:Int):∀k:Nat,k≤ns.length→((oS ns i k).1.map (·.block)).Sublist ((ns.take k).map (·.block))
 | 0,_=>by simp[oS]
 | k+1,hk=>by
   have ih:=n5 ns i k (by omega)
   have e:ns.take (k+1)=ns.take k++[nd ns k]:=by
    rw[List.take_succ_eq_append_getElem (by omega)]
    have h:k<ns.length:=by omega
    simp[Go.Ab.nd,h]
   unfold oS;simp only
   rw[e,List.map_append];split
   ·rw[List.map_append];exact ih.append (by simp)
   ·exact ih.trans (List.sublist_append_left ..)
theorem E6 {ns:List Node} (h:(ns.map fun n=>n.block.root).Nodup) (i:Int):((oS ns i ns.length).1.map fun n=>n.block.root).Nodup:=by
 have h1:=(n5 ns i ns.length (Nat.le_refl _)).map (·.root)
 rw[List.take_length] at h1;simp only[List.map_map] at h1;exact h.sublist h1
theorem RG.dJ {s:aN} {v:SV} (r:RG s v) {c1 c2:fV} (r1:Rg c1.aK) (r2:Rg c2.aK):RG (xQ s v c1 c2) (Il s v c1 c2):=by
 have hJ:Rg (Hv s c1).aK:=by unfold Hv;split;exact r1;exact r.j
 have hF:Rg (Fj s c2).aK:=by unfold Fj;split;exact r2;exact r.f
 by_cases b:mR s v (Hv s c1) (Fj s c2)
 ·rw[show xQ s v c1 c2=s from if_pos b,show Il s v c1 c2=v from if_pos b];exact r
 have fe:(Fj s c2).aK≤(Hv s c1).aK∧(Hv s c1).aK≤Fh s s.now:=by
  unfold mR at b;simp only[not_or] at b;obtain⟨_,_,_,_,_,_,_,b8,b9,_⟩:=b
  omega
 have tb:∃t∈ol (nz (yW (ol v.T) (Hv s c1).aK)),t.ck=Hv s c1:=by
  unfold mR at b;simp only[not_or] at b;obtain⟨_,_,_,_,_,_,_,_,_,b10⟩:=b
  unfold N5 at b10;rcases zS (fun k=>(gx iV (ol v.T) k).ck=Hv s c1) (ol v.T).length with ⟨e,_⟩|⟨k,h1,h2,_,h3⟩
  ·rw[e] at b10;omega
  ·refine⟨gx iV (ol v.T) k, ?_,h2⟩
   rw[oV];refine List.mem_filter.2 ⟨vU (by omega) (by omega),decide_eq_true ?_⟩
   rw[h2];exact Int.le_refl _
 by_cases e:Fj s c2=s.bJ.fin
 ·rw[show xQ s v c1 c2=_ from (if_neg b).trans (if_pos e),show Il s v c1 c2=_ from (if_neg b).trans (if_pos e)];exact⟨r.now,hJ,hF,r.nd,r.or,r.rt,fe,r.ds,tb,⟨r.ne.q,r.ne.e,r.ne.o,Zf _,r.ne.ea,fun t ht=>r.ne.tb t (by have ht:t∈ol (nz (yW (ol v.T) (Hv s c1).aK)):=ht;rw[oV] at ht;exact (List.mem_filter.1 ht).1)⟩⟩
 ·rw[show xQ s v c1 c2=_ from (if_neg b).trans (if_neg e),show Il s v c1 c2=_ from (if_neg b).trans (if_neg e)];refine⟨r.now,hJ,hF,fun n hn=>?_,fun o ho=>?_,fun n hn=>?_,fe,E6 r.ds _,tb,⟨r.ne.q,r.ne.e,Zf _,Zf _,r.ne.ea,fun t ht=>r.ne.tb t (by have ht:t∈ol (nz (yW (ol v.T) (Hv s c1).aK)):=ht;rw[oV] at ht;exact (List.mem_filter.1 ht).1)⟩⟩
  ·obtain⟨a,ha,e1,_⟩:=Xh _ _ _ (Nat.le_refl _) n hn
   rw[e1];exact r.nd a ha
  ·have ho:o∈ol (nz ((ol v.O).filter fun b=>decide ((Fi s (Fj s c2).aK).1<b.slot))):=ho
   rw[oV] at ho;exact r.or o (List.mem_filter.1 ho).1
  ·obtain⟨a,ha,e1,_⟩:=Xh _ _ _ (Nat.le_refl _) n hn
   rw[e1];exact r.rt a ha
theorem R0 {s:aN} {v:SV} {b:Block} (hb:Md s v b=0∨Md s v b=10):b.slot≤s.now:=by
 unfold Md at hb;by_cases g1:b.root=dE
 ·rw[if_pos g1] at hb;omega
 rw[if_neg g1] at hb;by_cases g2:KnB v b.root
 ·rw[if_pos g2] at hb;omega
 rw[if_neg g2] at hb;by_cases g3:s.now<b.slot
 ·rw[if_pos g3] at hb;omega
 ·omega
theorem aB8 {s:aN} {v:SV} {b:Block} (hb:Md s v b=0):aO v.ns b.root<0:=by
 rcases Int.lt_or_le (aO v.ns b.root) 0 with h|h
 ·exact h
 ·unfold Md at hb;by_cases g1:b.root=dE
  ·rw[if_pos g1] at hb;omega
  ·rw[if_neg g1,if_pos (.inr h)] at hb;omega
theorem E7 {ns:List Node} {r:cA} (h:aO ns r<0):r ∉ ns.map fun n=>n.block.root:=by
 intro hm;obtain⟨n,hn,e⟩:=List.mem_map.1 hm
 obtain⟨k,hk,rfl⟩:=List.getElem_of_mem hn
 have:0≤aO ns r:=Qb (j:=(k:Int)) (by omega) (by omega) (by
  have:Go.Ab.nd ns (k:Int)=ns[k]:=by simp[Go.Ab.nd,hk]
  rw[this];exact e)
 omega
theorem RG.ins {s:aN} {v:SV} (r:RG s v) {b:Block} (rb:RB b∧Pr b.root) (hc:Md s v b=0):RG (tF s v b) (lF s v b):=by
 have hs:=R0 (.inl hc)
 have g1:RG (Tryz.Ln s v b) (Io v b):=⟨r.now,r.j,r.f,fun n hn=>by
  rcases List.mem_append.1 (show n∈v.ns++[⟨b,aO v.ns b.parent,Px b⟩] from hn) with hn|hn
  ·exact r.nd n hn
  ·rw[List.mem_singleton] at hn;subst hn;exact⟨rb.1,hs⟩,r.or,fun n hn=>by
  rcases List.mem_append.1 (show n∈v.ns++[⟨b,aO v.ns b.parent,Px b⟩] from hn) with hn|hn
  ·exact r.rt n hn
  ·rw[List.mem_singleton] at hn;subst hn;exact rb.2,r.fe,by
  show ((v.ns++[(⟨b,aO v.ns b.parent,Px b⟩:Node)]).map fun n:Node=>n.block.root).Nodup
  rw[List.map_append];refine List.nodup_append.2 ⟨r.ds,by simp,fun x hx y hy=>?_⟩
  simp only[List.map_cons,List.map_nil,List.mem_singleton] at hy;rintro rfl
  exact E7 (aB8 hc) (hy ▸ hx),r.tb,⟨r.ne.q,r.ne.e,r.ne.o,r.ne.t,r.ne.ea,r.ne.tb⟩⟩
 have g2:=g1.dJ rb.1.j rb.1.f
 unfold tF lF;split
 ·exact RG.dJ g2 rb.1.pj rb.1.pf
 ·exact g2
theorem RG.VQ {s:aN} {v:SV} (r:RG s v) (O:Option (List Block)) (x:AV) (h:∀b∈ol O,RB b∧Pr b.root) (hO:O≠some []):RG (mS s x) { v with O:=O }:=⟨r.now,r.j,r.f,r.nd,h,r.rt,r.fe,r.ds,r.tb,⟨r.ne.q,r.ne.e,hO,r.ne.t,r.ne.ea,r.ne.tb⟩⟩
theorem RG.iG {s:aN} {v:SV} (r:RG s v) (x:cA):RG { s with iG:=x } v:=⟨r.now,r.j,r.f,r.nd,r.or,r.rt,r.fe,r.ds,r.tb,r.ne⟩
theorem GI.mono {s:aN} {v:SV} {q q':Int} (h:GI s v q) (h1:q≤q') (h2:q'≤900000):GI s v q' :=
 ⟨h.sd,h.up,h.NM,h.pos,h.nl,h.VO,h.qW,h.OI,h.nB,h.nO,h.OJ,h.nE,h.UF,h.nT,h.VP,by have:=h.nQ;omega,h2,h.gW⟩
theorem Ka:Flat (.agg (aB gP)):=by simp only[dU,gP,nH,Im,Bs,Nh,and_self]
def StR (s:aN) (q:Int) (r:AV):Prop:=∃(s':aN) (e:Int),r=.eG [.agg (aB s'),.v (.int .i64 e)]∧Flat (.agg (aB s'))∧e≠21∧(e=0→∃v',GI s' v' q∧RG s' v'∧s'.cFg=s.cFg)
def StN (s:aN) (v:SV) (q:Int) (r:AV):Prop:=∃(s':aN) (e:Int),r=.eG [.agg (aB s'),.v (.int .i64 e)]∧Flat (.agg (aB s'))∧e≠21∧(e=0→∃v',GI s' v' q∧RG s' v'∧s'.cFg=s.cFg∧v'.ns=v.ns)
theorem aFL (s:aN) (v:SV) (b:Block):Md s v b≠21:=by
 unfold Md;repeat (split;simp)
 simp
end Go.Ab.Tryz
namespace Go.Ab.Tryz
open Classical Go.Proofs Go.Ab
end Go.Ab.Tryz
namespace Go.Ab.Tryz
open Classical Go.Proofs Go.Ab
theorem aB9 (o:Option (List cA)) (hn:((ol o).length:Int)<1000000) (r:cA):∃x,aC Tryz.prog 250 [ov dV o,.agg (aV r)]=some x∧∃b:Bool,x=.v (.bool b):=by
 rw[cL Tryz.func250 rfl aKo (by cases o<;>rfl)]
 simp only[Z8,seval];refine cE (fun m st=>∃k:Nat,(st.env 0=ov dV o∧st.env 3=.ptr 3 0 0∧st.heap 3 0=some (.cells (aV r))∧st.env 5=.v (.int .i64 k))∧(∀j:Nat,j<k→¬(gx dE (ol o) (j:Int)=r))∧k≤(ol o).length∧m=(ol o).length-k)
  (fun e st=>(e=.ret∧∃k:Nat,k<(ol o).length∧(gx dE (ol o) (k:Int)=r)∧(∀j:Nat,j<k→¬(gx dE (ol o) (j:Int)=r))∧st.env 4=.v (.bool true))∨(e=.exit 0∧(∀j:Nat,j<(ol o).length→¬(gx dE (ol o) (j:Int)=r))∧st.env 0=ov dV o∧st.env 3=.ptr 3 0 0∧st.heap 3 0=some (.cells (aV r)))) ((ol o).length) ?step ?start ?rest
 case step =>
  rintro m st ⟨k,hI,hj,hk,hm⟩
  by_cases aY:(k:Int)<(ol o).length
  ·have q0:(0:Int)≤k:=by omega
   have hw:IntKind.i64.wrap ((k:Int)+1)=((k+1:Nat):Int):=by rw[pZ _ (by omega) (by omega)];omega
   by_cases hh:gx dE (ol o) (k:Int)=r
   ·apply oT (.ret)
    ·simp only[Z8,seval,hI,aY,q0,hh];rfl
    ·exact .inl ⟨rfl,k,by omega,hh,hj,by simp only[E8,seval]⟩
   ·apply oN ((ol o).length-(k+1))
    ·simp only[Z8,seval,hI,aY,q0,hh,hw];rfl
    ·exact⟨k+1,by simp only[E8,seval,hI],fun j h=>(Nat.lt_succ_iff_lt_or_eq.1 h).elim (hj j) fun e=>by subst e;exact hh,by omega,rfl⟩
  ·apply oT (.exit 0)
   ·simp only[Z8,seval,hI,aY];rfl
   ·exact .inr ⟨rfl,fun j h=>hj j (by omega),by simp only[E8,seval,hI]⟩
 case start=>exact⟨0,by simp only[E8,seval]<;>rfl,fun j h=>by omega,by omega,by omega⟩
 case rest =>
  rintro e st (⟨rfl,k,hk,hh,hj,h⟩|⟨rfl,hj,hI⟩)
  ·simp only[Z8,seval];exact⟨_,bS rfl (by simp only[E8,seval,h]<;>rfl) (by first|exact .v _|simp only[dU,h]),_,rfl⟩
  ·simp only[Z8,seval];exact⟨_,bS rfl (by simp only[E8,seval]<;>rfl) (by first|exact .v _|simp only[dU]),_,rfl⟩
theorem E9 (l:List Table) (c:fV):-1≤N5 l c∧N5 l c<l.length:=VH _ _
theorem aPr {s:aN} {v:SV} (hs:SD s v):∃x,aC Tryz.prog 239 [.agg (aB s)]=some x∧∃o:Option (List Int),x=ov bE o∧((ol o).length:Int)<1000000:=by
 have MV:=hs.fT
 rw[cL Tryz.func239 rfl aKp rfl];have r1:=E9 (ol v.T) s.bJ.gW
 by_cases g1:N5 (ol v.T) s.bJ.gW<0
 ·simp only[Z8,seval,hs.tables,l5 _ hs.nT MV,g1];exact⟨_,bS rfl (by simp only[E8,seval]<;>rfl) (by first|exact .v _|simp only[dU]),none,rfl,by simp[ol]⟩
 have q0:0≤N5 (ol v.T) s.bJ.gW:=by omega
 obtain⟨b,hb,hl⟩:=hs.tB _ (vU (z:=iV) q0 r1.2)
 simp only[Z8,seval,hs.tables,l5 _ hs.nT MV,g1,q0,r1,hb];exact⟨_,bS rfl (by simp only[E8,seval,hb]<;>rfl) (dP b),b,rfl,hl⟩
theorem aPs (a b:Claim) (ha:Flat a.eU) (hb:Flat b.eU):∃x,aC Tryz.prog 234 [.agg (gT a),.agg (gT b)]=some x∧∃c:Bool,x=.v (.bool c):=by
 rw[cL Tryz.func234 rfl aKq rfl];by_cases g1:a.target=b.target
 ·by_cases g2:a.source=b.source
  ·by_cases g3:a.root=b.root
   all_goals
    have g4:¬a.source<b.source:=by omega
    have g5:¬b.source<a.source:=by omega
    simp only[Z8,seval,bt g1,bt g2,g3,g4,g5];exact⟨_,bS rfl (by simp only[E8,seval]<;>rfl) (by first|exact .v _|simp only[dU]),_,rfl⟩
  ·by_cases g4:a.source<b.source
   all_goals
    by_cases g5:b.source<a.source
    all_goals
     by_cases g6:b.target<a.target
     all_goals
      by_cases g7:a.target<b.target
      all_goals
       simp only[Z8,seval,bt g1,bf g2,g4,g5,g6,g7];exact⟨_,bS rfl (by simp only[E8,seval]<;>rfl) (by first|exact .v _|simp only[dU]),_,rfl⟩
 ·by_cases g4:a.source<b.source
  all_goals
   by_cases g5:b.source<a.source
   all_goals
    by_cases g6:b.target<a.target
    all_goals
     by_cases g7:a.target<b.target
     all_goals
      simp only[Z8,seval,bf g1,g4,g5,g6,g7];exact⟨_,bS rfl (by simp only[E8,seval]<;>rfl) (by first|exact .v _|simp only[dU]),_,rfl⟩
theorem aPt {s:aN} {v:SV} (hs:SD s v):∃x,aC Tryz.prog 209 [.agg (aB s)]=some x∧∃r:cA,x=.agg (aV r):=by
 rw[cL Tryz.func209 rfl aKr rfl];have r1:=fN v.ns s.bJ.gW.root
 by_cases g1:0≤aO v.ns s.bJ.gW.root
 ·by_cases g2:(nd v.ns (aO v.ns s.bJ.gW.root)).status=1
  ·simp only[Z8,seval,hs.tree,mQ _ _ hs.nn,g1,r1,bt g2];exact⟨_,fI rfl (by simp only[E8,seval]<;>rfl) (by simp only[Z8,seval]<;>rfl) (by simp only[dU,and_self]),_,rfl⟩
  ·simp only[Z8,seval,hs.tree,mQ _ _ hs.nn,g1,r1,bf g2];exact⟨_,fI rfl (by simp only[E8,seval]<;>rfl) (by simp only[Z8,seval]<;>rfl) (by simp only[dU,and_self]),_,rfl⟩
 ·simp only[Z8,seval,hs.tree,mQ _ _ hs.nn,g1];exact⟨_,fI rfl (by simp only[E8,seval]<;>rfl) (by simp only[Z8,seval]<;>rfl) (by simp only[dU,and_self]),_,rfl⟩
theorem aPu (c:Config) (hc:Flat c.jO) (x:Int):∃r,aC Tryz.prog 240 [.agg (bR c),.v (.int .u64 x)]=some r∧∃a e:Int,r=.eG [.v (.int .u64 a),.v (.int .i64 e)]:=by
 rw[cL Tryz.func240 rfl aKs rfl];by_cases g1:c.qW<1
 ·simp only[Z8,seval,g1];exact⟨_,dO rfl rfl rfl (by simp only[E8,seval]<;>rfl) (by simp only[E8,seval]<;>rfl),_,_,rfl⟩
 by_cases g2:64<c.qW
 ·simp only[Z8,seval,g1,g2];exact⟨_,dO rfl rfl rfl (by simp only[E8,seval]<;>rfl) (by simp only[E8,seval]<;>rfl),_,_,rfl⟩
 by_cases g3:100<c.Ip
 ·simp only[Z8,seval,g1,g2,g3];exact⟨_,dO rfl rfl rfl (by simp only[E8,seval]<;>rfl) (by simp only[E8,seval]<;>rfl),_,_,rfl⟩
 by_cases g4:4611686018427387904<x
 ·simp only[Z8,seval,g1,g2,g3,g4];exact⟨_,dO rfl rfl rfl (by simp only[E8,seval]<;>rfl) (by simp only[E8,seval]<;>rfl),_,_,rfl⟩
 have g5:(c.qW=0)=False:=eq_false (by omega)
 simp only[Z8,seval,g1,g2,g3,g4,g5];exact⟨_,dO rfl rfl rfl (by simp only[E8,seval]<;>rfl) (by simp only[E8,seval]<;>rfl),_,_,rfl⟩
noncomputable def aFM (o:Option (List cA)) (r:cA):Bool:=if h:((ol o).length:Int)<1000000 then Classical.choose (Classical.choose_spec (aB9 o h r)).2 else false
theorem aPv (o:Option (List cA)) (hn:((ol o).length:Int)<1000000) (r:cA) (st:St) (d:Option Nat):aM (aC Tryz.prog) 250 [ov dV o,.agg (aV r)] st d=some { dst:=d,val:=.v (.bool (aFM o r))}:=by
 have h:=(Classical.choose_spec (aB9 o hn r)).1
 rw[Classical.choose_spec (Classical.choose_spec (aB9 o hn r)).2] at h;rw[show aFM o r=Classical.choose (Classical.choose_spec (aB9 o hn r)).2 from dif_pos hn];exact bI (bG (Iq o) (qP r)) h (.v _)
theorem aPw (o:Option (List Int)) (hn:((ol o).length:Int)<999999) (x:Int):∃r,aC Tryz.prog 235 [ov aJ o,.v (.int .i64 x)]=some r∧(r=ov aJ o∨∃L:List Int,r=.uniq 3 1 L.length (aJ L)∧L.length=(ol o).length+1):=by
 rw[cG Tryz.func235 rfl aKt (by kernel_rfl) (by cases o<;>rfl)]
 simp only[ZG,seval,Bool.false_and,Prod.mk.injEq,Zg];refine mE (fun m st=>∃k:Nat,(st.env 0=ov aJ o∧st.env 1=.v (.int .i64 x)∧st.env 5=.v (.int .i64 k))∧k≤(ol o).length∧m=(ol o).length-k)
  (fun e st=>e=.exit 0∧∃k:Nat,(st.env 0=ov aJ o∧st.env 1=.v (.int .i64 x)∧st.env 5=.v (.int .i64 k))∧k≤(ol o).length) (ol o).length ?step ?start ?rest
 case step =>
  rintro m st ⟨k,hI,hk,hm⟩
  by_cases aY:(k:Int)<(ol o).length
  ·have q0:(0:Int)≤k:=by omega
   have hw:IntKind.i64.wrap ((k:Int)+1)=((k+1:Nat):Int):=by rw[pZ _ (by omega) (by omega)];omega
   by_cases h1:gx (0:Int) (ol o) (k:Int)<x
   ·apply Ga ((ol o).length-(k+1))
    ·simp only[ZG,seval,Bool.false_and,Prod.mk.injEq,Zg,hI,aY,q0,h1,hw];rfl
    ·exact⟨k+1,by simp only[E8,seval,hI],by omega,rfl⟩
   ·apply MX (.exit 0)
    ·simp only[ZG,seval,Bool.false_and,Prod.mk.injEq,Zg,hI,aY,q0,h1];rfl
    ·exact⟨rfl,k,by simp only[E8,seval,hI],hk⟩
  ·apply MX (.exit 0)
   ·simp only[ZG,seval,Bool.false_and,Prod.mk.injEq,Zg,hI,aY];rfl
   ·exact⟨rfl,k,by simp only[E8,seval,hI],hk⟩
 case start=>exact⟨0,by simp only[E8,seval]<;>rfl,by omega,by omega⟩
 case rest =>
  rintro e st ⟨rfl,k,hI,hk⟩
  have e1:ol (o.map (·.take k))=(ol o).take k:=by cases o<;>simp[ol]
  have e2:ol (o.map (·.drop k))=(ol o).drop k:=by cases o<;>simp[ol]
  have n1:((((ol o).take k).length:Nat):Int)<1000000:=by rw[List.length_take];omega
  have n2:((((ol o).drop k).length:Nat):Int)<1000000:=by rw[List.length_drop];omega
  have n3:((((ol o).take k++[x]).length:Nat):Int)<1000000:=by rw[List.length_append,List.length_take];simp;omega
  have q0:(0:Int)≤k:=by omega
  have q1:(k:Int)≤((ol o).length:Int):=by omega
  have go:∃r,some (AV.uniq 3 1 ((ol o).take k++[x]++(ol o).drop k).length (aJ ((ol o).take k++[x]++(ol o).drop k)))=some r∧(r=ov aJ o∨∃L:List Int,r=.uniq 3 1 L.length (aJ L)∧L.length=(ol o).length+1) :=
   ⟨_,rfl,.inr ⟨_,rfl,by simp;omega⟩⟩
  by_cases aY:(k:Int)<(ol o).length
  ·by_cases h2:gx (0:Int) (ol o) (k:Int)=x
   ·simp only[ZG,seval,Bool.false_and,Prod.mk.injEq,Zg,hI,aY,q0,bt h2];exact⟨_,bS rfl (by simp only[E8,seval,hI]<;>rfl) (bO o),.inl rfl⟩
   ·simp only[ZG,seval,Bool.false_and,Prod.mk.injEq,Zg,Bq,Br,and_self,hI,aY,q0,q1,bf h2,Int.toNat_natCast,e1,e2,Qd _ n1,Gc _ _ _ _ n1,IW _ _ _ _ n3 n2];refine⟨_,tC rfl (by simp only[E8,seval]<;>rfl) (by simp only[E8,seval]<;>rfl) (gD _),.inr ⟨_,rfl,by simp;omega⟩⟩
  ·simp only[ZG,seval,Bool.false_and,Prod.mk.injEq,Zg,Bq,Br,and_self,hI,aY,q0,q1,Int.toNat_natCast,e1,e2,Qd _ n1,Gc _ _ _ _ n1,IW _ _ _ _ n3 n2];refine⟨_,tC rfl (by simp only[E8,seval]<;>rfl) (by simp only[E8,seval]<;>rfl) (gD _),.inr ⟨_,rfl,by simp;omega⟩⟩
theorem aPx (o:Option (List Int)) (hn:((ol o).length:Int)<1000000) (a:Int):aC Tryz.prog 49 [ov aJ o,.v (.int .i64 a)]=some (.v (.bool (decide (a∈ol o)))):=by
 cases o with
 | none=>rw[show ol (none:Option (List Int))=[] from rfl];simp only[List.not_mem_nil,decide_false];exact aI9 a
 | some l=>exact c49 l a hn
theorem aFN (o:Option (List Int)) (hn:((ol o).length:Int)<1000000) (a:Int) (st:St) (d:Option Nat):aM (aC Tryz.prog) 49 [ov aJ o,.v (.int .i64 a)] st d=some { dst:=d,val:=.v (.bool (decide (a∈ol o)))}:=bI (bG (bO o) (.v _)) (aPx o hn a) (.v _)
theorem aPy (t:vD) (L:Option (List kM)) (Q:Option (List Int)) (hL:t.dT=ov cP L) (hQ:t.iB=ov aJ Q) (nL:((ol L).length:Int)<1000000) (nQ:((ol Q).length:Int)<1000000)
 (B:Option (List Int)) (nB:((ol B).length:Int)<1000000) (R:Option (List cA)) (nR:((ol R).length:Int)<1000000) :
 ∃r,aC Tryz.prog 248 [.agg (fC t),ov bE B,ov dV R]=some r∧∃a:Int,r=.v (.int .u64 a):=by
 rw[cL Tryz.func248 rfl aKu (by cases B<;>cases R<;>rfl)]
 simp only[Z8,seval];refine cE (fun m st=>∃(k:Nat) (a:Int),(st.env 1=ov bE B∧st.env 2=ov dV R∧st.env 3=.ptr 3 0 0∧st.heap 3 0=some (.cells (fC t))∧st.env 7=.v (.int .u64 a)∧st.env 8=.v (.int .i64 k))∧k≤(ol B).length∧m=(ol B).length-k)
  (fun e st=>e=.exit 0∧∃a:Int,st.env 7=.v (.int .u64 a)) (ol B).length ?step ?start ?rest
 case step =>
  rintro m st ⟨k,a,hI,hk,hm⟩
  by_cases aY:(k:Int)<(ol B).length
  ·have q0:(0:Int)≤k:=by omega
   have hw:IntKind.i64.wrap ((k:Int)+1)=((k+1:Nat):Int):=by rw[pZ _ (by omega) (by omega)];omega
   by_cases h1:(k:Int)<(ol L).length
   ·cases h2:(gx sR (ol L) (k:Int)).has
    ·apply oN ((ol B).length-(k+1))
     ·simp only[Z8,seval,hI,aY,q0,hL,hQ,h1,h2,hw];rfl
     ·exact⟨k+1,_,by simp only[E8,seval,hI]<;>rfl,by omega,rfl⟩
    ·by_cases h3:(k:Int)∈ol Q
     ·apply oN ((ol B).length-(k+1))
      ·simp only[Z8,seval,hI,aY,q0,hL,hQ,h1,h2,aFN Q nQ,h3,decide_true,hw];rfl
      ·exact⟨k+1,_,by simp only[E8,seval,hI]<;>rfl,by omega,rfl⟩
     ·cases h4:aFM R (gx sR (ol L) (k:Int)).root
      all_goals
       refine oW (st':=?_) ?_ ((ol B).length-(k+1)) (by omega) ?_
       rotate_left
       ·simp only[Z8,seval,hI,aY,q0,hL,hQ,h1,h2,aFN Q nQ,h3,decide_false,aPv R nR,h4,hw];rfl
       ·exact⟨k+1,_,by simp only[E8,seval,hI]<;>rfl,by omega,rfl⟩
   ·apply oT (.exit 0)
    ·simp only[Z8,seval,hI,aY,q0,hL,h1];rfl
    ·exact⟨rfl,a,by simp only[E8,seval,hI]⟩
  ·apply oT (.exit 0)
   ·simp only[Z8,seval,hI,aY];rfl
   ·exact⟨rfl,a,by simp only[E8,seval,hI]⟩
 case start=>exact⟨0,0,by simp only[E8,seval]<;>rfl,by omega,by omega⟩
 case rest =>
  rintro e st ⟨rfl,a,h⟩
  simp only[Z8,seval,h];exact⟨_,bS rfl (by simp only[E8,seval,h]<;>rfl) (by first|exact .v _|simp only[dU,h]),_,rfl⟩
theorem aPz (ns:List Node) (hn:(ns.length:Int)<1000000) (l:List Int) (hl:l.length=ns.length) (r:cA) (a:Int):∃x,aC Tryz.prog 243 [.agg (cT ⟨ns⟩),.sl l.length (bE l),.agg (aV r),.v (.int .u64 a)]=some x∧∃m:List Int,x=.uniq 23 1 m.length (bE m)∧m.length=ns.length:=by
 have Ht:(l.length:Int)<1000000:=by omega
 have rr:=fN ns r
 rw[cL Tryz.func243 rfl aKv rfl];by_cases g1:0≤aO ns r
 case neg =>
  simp only[Z8,seval,Gb _ Ht,mQ _ _ hn,g1];exact⟨_,tC rfl (by simp only[E8,seval]<;>rfl) (by simp only[E8,seval]<;>rfl) (iC _),l,rfl,hl⟩
 by_cases g2:(nd ns (aO ns r)).status=2
 ·simp only[Z8,seval,Gb _ Ht,mQ _ _ hn,g1,rr,bt g2];exact⟨_,tC rfl (by simp only[E8,seval]<;>rfl) (by simp only[E8,seval]<;>rfl) (iC _),l,rfl,hl⟩
 by_cases g3:r=dE
 ·subst g3;simp only[Z8,seval,Gb _ Ht,mQ _ _ hn,g1,rr,bf g2];exact⟨_,tC rfl (by simp only[E8,seval]<;>rfl) (by simp only[E8,seval]<;>rfl) (iC _),l,rfl,hl⟩
 have q1:aO ns r<(l.length:Int):=by omega
 have q2:(aO ns r).toNat<l.length:=by omega
 have q3:(aO ns r).toNat+1≤l.length:=by omega
 have hy:=F0 g1 q1
 have Yj:∀z:Int,dJ (bE l) (aO ns r).toNat [.v (.int .u64 z)] ((aO ns r).toNat+1)=bE (l.set (aO ns r).toNat z):=fun z=>by
  have:=R1 l (aO ns r) z q2
  simpa using this
 have ld:=R2 (T:=23) (n:=l.length) (k:=1) g1 q1 VM (by decide) (by decide)
 rw[Nat.mul_one] at ld;simp only[Z8,seval,Gb _ Ht,mQ ns r hn,g1,rr,bf g2,g3,q1,q2,q3,hy,Yj,ld,Nat.mul_one];exact⟨_,tC rfl (by simp only[E8,seval]<;>rfl) (by simp only[E8,seval]<;>rfl) (iC _),_,by rw[List.length_set],by rw[List.length_set];exact hl⟩
theorem aCa (r:cA):dV [r]=aV r:=by simp[dV]
theorem R3 (r:cA):jH (some (.row 27 32 1 (aV r)))=some (.sl 1 (dV [r])):=by rw[← aCa];exact wP 1 [r]
noncomputable def aKw (t:vD) (B:Option (List Int)) (r:cA):Int:=if h:∃a:Int,aC Tryz.prog 248 [.agg (fC t),ov bE B,ov dV (some [r])]=some (.v (.int .u64 a)) then Classical.choose h else 0
theorem aKx (t:vD) (L:Option (List kM)) (Q:Option (List Int)) (hL:t.dT=ov cP L) (hQ:t.iB=ov aJ Q) (nL:((ol L).length:Int)<1000000) (nQ:((ol Q).length:Int)<1000000)
 (B:Option (List Int)) (nB:((ol B).length:Int)<1000000) (r:cA) (s g:Nat) (st:St) (d:Option Nat) (hh:st.heap s g=some (.row 27 32 1 (aV r))) :
 aM (aC Tryz.prog) 248 [.agg (fC t),ov bE B,.own s g] st d=some { dst:=d,val:=.v (.int .u64 (aKw t B r))}:=by
 obtain⟨x,hx,a,rfl⟩:=aPy t L Q hL hQ nL nQ B nB (some [r]) (by simp[ol])
 have he:∃a:Int,aC Tryz.prog 248 [.agg (fC t),ov bE B,ov dV (some [r])]=some (.v (.int .u64 a)):=⟨a,hx⟩
 have hf:Flat (.agg (fC t)):=(Ps t).2 ⟨by rw[hL];exact qV L,by rw[hQ];exact bO Q⟩
 rw[show aKw t B r=Classical.choose he from dif_pos he];rw[lN,List.map_cons,List.map_cons,List.map_cons,List.map_nil,dM hf,dM (dP B),vW,hh,R3,bL,bL,bL,gK];exact Yl (Classical.choose_spec he)
theorem aPA (ns:List Node) (hn:(ns.length:Int)<1000000) (h0:0<ns.length) (t:vD) (L:Option (List kM)) (Q:Option (List Int)) (hL:t.dT=ov cP L) (hQ:t.iB=ov aJ Q) (nL:((ol L).length:Int)<1000000) (nQ:((ol Q).length:Int)<1000000)
 (B:Option (List Int)) (nB:((ol B).length:Int)<1000000) :
 ∃x,aC Tryz.prog 241 [.agg (cT ⟨ns⟩),.agg (fC t),ov bE B]=some x∧∃m:List Int,x=.uniq 23 1 m.length (bE m)∧m.length=ns.length:=by
 have kw:=fun r g=>aKx t L Q hL hQ nL nQ B nB r 33 g
 rw[cL Tryz.func241 rfl aKy (by cases B<;>rfl)]
 simp only[Z8,seval];refine cE (fun m st=>∃k:Nat,(st.env 3=.ptr 3 0 0∧st.heap 3 0=some (.cells (cT ⟨ns⟩))∧st.env 4=.ptr 4 0 0∧st.heap 4 0=some (.cells (fC t))∧st.env 2=ov bE B∧st.env 8=.v (.int .i64 k))∧((k=0∧st.env 7=.v (.slice none 0 0))∨∃(l:List Int) (g:Nat),st.env 7=.own 38 g∧g<st.aP 38∧st.heap 38 g=some (.row 23 1 l.length (bE l))∧l.length=k)∧k≤ns.length∧m=ns.length-k)
  (fun e st=>e=.exit 0∧∃(l:List Int) (g:Nat),st.env 7=.own 38 g∧st.heap 38 g=some (.row 23 1 l.length (bE l))∧l.length=ns.length) ns.length ?step ?start ?rest
 case step =>
  rintro m st ⟨k,hI,h7,hk,hm⟩
  by_cases aY:(k:Int)<ns.length
  ·have q0:(0:Int)≤k:=by omega
   have hw:IntKind.i64.wrap ((k:Int)+1)=((k+1:Nat):Int):=by rw[pZ _ (by omega) (by omega)];omega
   by_cases h1:(nd ns k).status=2
   ·rcases h7 with ⟨uW,h7⟩|⟨l,g,h7,hg,Hj,hl⟩
    ·apply oN (ns.length-(k+1))
     ·simp only[Z8,seval,hI,h7,aY,q0,bt h1,hw];rfl
     ·exact⟨k+1,by simp only[E8,seval,hI],.inr ⟨[0],st.aP 38,by simp only[E8,seval]<;>rfl,by simp only[E8,seval]<;>omega,by simp only[E8,seval]<;>rfl,by simp;omega⟩,by omega,rfl⟩
    ·have nl:(l.length:Int)<1000000:=by omega
     apply oN (ns.length-(k+1))
     ·simp only[Z8,seval,hI,h7,Hj,aY,q0,bt h1,hw,yJ _ _ _ _ nl];rfl
     ·exact⟨k+1,by simp only[E8,seval,hI],.inr ⟨_,st.aP 38,by simp only[E8,seval]<;>rfl,by simp only[E8,seval]<;>omega,by simp only[E8,seval]<;>rfl,by rw[List.length_append];simp;omega⟩,by omega,rfl⟩
   ·rcases h7 with ⟨uW,h7⟩|⟨l,g,h7,hg,Hj,hl⟩
    ·apply oN (ns.length-(k+1))
     ·simp only[Z8,seval,hI,h7,aY,q0,bf h1,kw (nd ns k).block.root,hw];rfl
     ·exact⟨k+1,by simp only[E8,seval,hI],.inr ⟨[_],st.aP 38,by simp only[E8,seval]<;>rfl,by simp only[E8,seval]<;>omega,by simp only[E8,seval]<;>rfl,by simp;omega⟩,by omega,rfl⟩
    ·have nl:(l.length:Int)<1000000:=by omega
     apply oN (ns.length-(k+1))
     ·simp only[Z8,seval,hI,h7,Hj,aY,q0,bf h1,kw (nd ns k).block.root,hw,yJ _ _ _ _ nl];rfl
     ·exact⟨k+1,by simp only[E8,seval,hI],.inr ⟨_,st.aP 38,by simp only[E8,seval]<;>rfl,by simp only[E8,seval]<;>omega,by simp only[E8,seval]<;>rfl,by rw[List.length_append];simp;omega⟩,by omega,rfl⟩
  ·have Fg:k=ns.length:=by omega
   rcases h7 with ⟨uW,h7⟩|⟨l,g,h7,hg,Hj,hl⟩
   ·omega
   ·apply oT (.exit 0)
    ·simp only[Z8,seval,hI,aY];rfl
    ·exact⟨rfl,l,g,by simp only[E8,seval,h7],by simp only[E8,seval,Hj],by omega⟩
 case start=>exact⟨0,by simp only[E8,seval]<;>rfl,.inl ⟨rfl,by simp only[E8,seval]⟩,by omega,by omega⟩
 case rest =>
  rintro e st ⟨rfl,l,g,h7,Hj,hl⟩
  simp only[Z8,seval,h7];exact⟨_,tC rfl (by simp only[E8,seval,h7]<;>rfl) (by simp only[E8,seval,Hj]<;>rfl) (iC _),l,rfl,hl⟩
theorem aPB (ns:List Node) (hu:iA ns) (hn:(ns.length:Int)<1000000) (h0:0<ns.length) (l:List Int) (hl:l.length=ns.length) :
 ∃x,aC Tryz.prog 242 [.agg (cT ⟨ns⟩),.sl l.length (bE l)]=some x∧∃m:List Int,x=.uniq 23 1 m.length (bE m)∧m.length=ns.length:=by
 rw[cL Tryz.func242 rfl aKz rfl];simp only[Z8,seval];refine cE (fun m st=>∃k:Nat,(st.env 2=.ptr 2 0 0∧st.heap 2 0=some (.cells (cT ⟨ns⟩))∧st.env 1=.sl l.length (bE l)∧st.env 6=.v (.int .i64 k))∧((k=0∧st.env 5=.v (.slice none 0 0))∨∃(l:List Int) (g:Nat),st.env 5=.own 38 g∧g<st.aP 38∧st.heap 38 g=some (.row 23 1 l.length (bE l))∧l.length=k)∧k≤ns.length∧m=ns.length-k)
  (fun e st=>e=.exit 0∧∃(l:List Int) (g:Nat),st.env 5=.own 38 g∧st.heap 38 g=some (.row 23 1 l.length (bE l))∧l.length=ns.length) ns.length ?step ?start ?rest
 case step =>
  rintro m st ⟨k,hI,h5,hk,hm⟩
  by_cases aY:(k:Int)<ns.length
  ·have q0:(0:Int)≤k:=by omega
   have hw:IntKind.i64.wrap ((k:Int)+1)=((k+1:Nat):Int):=by rw[pZ _ (by omega) (by omega)];omega
   have kd:=k64 ns hu hn k (UU hu q0 aY ns.length aY)
   have hrg:=ZY ns k
   have hdl:=Xc ns k ns.length
   obtain⟨D,hD⟩:∃D,Hk ns k ns.length=D:=⟨_,rfl⟩
   rw[hD] at kd hrg hdl;simp only[Z8,seval,hI,aY,q0,kd];refine B9 (fun mm st'=>∃(j:Nat) (a:Int),(st'.env 2=.ptr 2 0 0∧st'.heap 2 0=some (.cells (cT ⟨ns⟩))∧st'.env 1=.sl l.length (bE l)∧st'.env 6=.v (.int .i64 k)∧st'.env 5=st.env 5∧st'.aP 38=st.aP 38∧(∀g,st'.heap 38 g=st.heap 38 g)∧st'.env 7=.v (.int .u64 a)∧st'.env 8=.own 19 (st.aP 19)∧st'.heap 19 (st.aP 19)=some (.row 3 1 D.length (aJ D))∧st'.env 9=.v (.int .i64 j))∧j≤D.length∧mm=D.length-j)
    (fun e st'=>e=.exit 2∧∃a:Int,(st'.env 2=.ptr 2 0 0∧st'.heap 2 0=some (.cells (cT ⟨ns⟩))∧st'.env 1=.sl l.length (bE l)∧st'.env 6=.v (.int .i64 k)∧st'.env 5=st.env 5∧st'.aP 38=st.aP 38∧(∀g,st'.heap 38 g=st.heap 38 g)∧st'.env 7=.v (.int .u64 a))) D.length ?R4 ?VT ?OK
   case R4 =>
    rintro mm st' ⟨j,a,hJ,hj,hmm⟩
    by_cases hjl:(j:Int)<D.length
    ·have p0:(0:Int)≤j:=by omega
     have hw2:IntKind.i64.wrap ((j:Int)+1)=((j+1:Nat):Int):=by rw[pZ _ (by omega) (by omega)];omega
     obtain⟨hjt,hje⟩:=xN p0 hjl
     have hx:=hrg _ (List.getElem_mem hjt)
     rw[← hje] at hx;have x0:=hx.1
     have x1:it D j<(l.length:Int):=by omega
     have gi:=pF p0 hjl
     apply oN (D.length-(j+1))
     ·simp only[Z8,seval,hJ,hjl,p0,x0,x1,gi,hw2];rfl
     ·exact⟨j+1,IntKind.u64.wrap (a+gx (0:Int) l (it D j)),by simp only[E8,seval,hJ,implies_true,and_self],by omega,rfl⟩
    ·apply oT (.exit 2)
     ·simp only[Z8,seval,hJ,hjl];rfl
     ·exact⟨rfl,a,by simp only[E8,seval,hJ,implies_true,and_self]⟩
   case VT=>exact⟨0,0,by simp only[E8,seval,hI,implies_true,and_self]<;>rfl,by omega,by omega⟩
   case OK =>
    rintro e st' ⟨rfl,a,hJ⟩
    obtain⟨j2,j2',j1,j6,j5,jc,jh,j7⟩:=hJ
    rcases h5 with ⟨uW,h5⟩|⟨l',g,h5,hg,Ax,Ht⟩
    ·rw[h5] at j5;refine P2 (st':=?s3) ?h3 (ns.length-(k+1)) (by omega) ?q3
     case h3 =>
      simp only[Z8,seval,j2,j2',j1,j6,j5,jc,j7,hw];rfl
     case q3=>exact⟨k+1,by simp only[E8,seval,j2,j2',j1],.inr ⟨[a],st.aP 38,by simp only[E8,seval,jc]<;>rfl,by simp only[E8,seval,jc]<;>omega,by simp only[E8,seval,jc]<;>rfl,by simp;omega⟩,by omega,rfl⟩
    ·rw[h5] at j5;have nl:(l'.length:Int)<1000000:=by omega
     have jhh:=jh g
     rw[Ax] at jhh;refine P2 (st':=?s4) ?h4 (ns.length-(k+1)) (by omega) ?q4
     case h4 =>
      simp only[Z8,seval,j2,j2',j1,j6,j5,jc,jhh,j7,hw,yJ _ _ _ _ nl];rfl
     case q4=>exact⟨k+1,by simp only[E8,seval,j2,j2',j1],.inr ⟨l'++[a],st.aP 38,by simp only[E8,seval,jc]<;>rfl,by simp only[E8,seval,jc]<;>omega,by simp only[E8,seval,jc]<;>rfl,by rw[List.length_append];simp;omega⟩,by omega,rfl⟩
  ·have Fg:k=ns.length:=by omega
   rcases h5 with ⟨uW,h5⟩|⟨l,g,h5,hg,Ax,hl⟩
   ·omega
   ·apply oT (.exit 0)
    ·simp only[Z8,seval,hI,aY];rfl
    ·exact⟨rfl,l,g,by simp only[E8,seval,h5],by simp only[E8,seval,Ax],by omega⟩
 case start=>exact⟨0,by simp only[E8,seval]<;>rfl,.inl ⟨rfl,by simp only[E8,seval]⟩,by omega,by omega⟩
 case rest =>
  rintro e st ⟨rfl,l,g,h5,Ax,hl⟩
  simp only[Z8,seval,h5];exact⟨_,tC rfl (by simp only[E8,seval,h5]<;>rfl) (by simp only[E8,seval,Ax]<;>rfl) (iC _),l,rfl,hl⟩
theorem aPC {s:aN} {v:SV} {q:Int} (h:GI s v q):∃x,aC Tryz.prog 223 [.agg (aB s)]=some x∧∃m:List Int,x=.uniq 23 1 m.length (bE m)∧m.length=v.ns.length:=by
 have hf:=h.sd.flat
 have hn:=h.sd.nn
 obtain⟨r1,e1,o,rfl,ho⟩:=aPr h.sd
 have k239:=kx e1 (cU hf) (dP o)
 obtain⟨r2,e2,a,c,rfl,_⟩:=aJ6 o ho
 have D9:=kx e2 (cU (dP o)) (.eG _ (bG (.v _) (.v _)))
 have hcb:Flat s.cFg.jO:=h.sd.fl.1
 obtain⟨r3,e3,a3,c3,rfl⟩:=aPu s.cFg hcb a
 have k240:=kx e3 (bG ((yU _).2 hcb) (.v _)) (.eG _ (bG (.v _) (.v _)))
 obtain⟨r4,e4,m1,rfl,hm1⟩:=aPA v.ns hn h.pos s.gE v.L v.Q h.sd.dT h.sd.iB h.sd.nL h.sd.nQ o ho
 have hfv:Flat (.agg (fC s.gE)):=(Ps _).2 ⟨h.sd.fl.2.1,h.sd.fl.2.2.1⟩
 have k241:∀(st:St),aM (aC Tryz.prog) 241 [.agg (cT ⟨v.ns⟩),.agg (fC s.gE),ov bE o] st (some 28)=_:=fun st=>jF (st:=st) (d:=28) (nA (mZ _) hfv (dP o)) e4
 obtain⟨r5,e5,m2,rfl,R5⟩:=aPz v.ns hn m1 hm1 s.iG a3
 have k243:∀(st:St) (g:Nat),st.heap 28 g=some (.row 23 1 m1.length (bE m1))→aM (aC Tryz.prog) 243 [.agg (cT ⟨v.ns⟩),.own 28 g,.agg (aV s.iG),.v (.int .u64 a3)] st (some 37)=some { dst:=some 37,val:=.own 37 (st.aP 37),new:=some (37,[.row 23 1 m2.length (bE m2)])}:=by
  intro st g hh;rw[lN,List.map_cons,List.map_cons,List.map_cons,List.map_cons,List.map_nil,Kb,vW,hh,vV,Sx,Sr,bL,bL,bL,bL,gK];exact R6 e5 (FV m2)
 obtain⟨r6,e6,m3,rfl,hm3⟩:=aPB v.ns h.up hn h.pos m2 R5
 have k242:∀(st:St) (g:Nat),st.heap 37 g=some (.row 23 1 m2.length (bE m2))→aM (aC Tryz.prog) 242 [.agg (cT ⟨v.ns⟩),.own 37 g] st (some 38)=some { dst:=some 38,val:=.own 38 (st.aP 38),new:=some (38,[.row 23 1 m3.length (bE m3)])}:=by
  intro st g hh;rw[lN,List.map_cons,List.map_cons,List.map_nil,Kb,vW,hh,vV,bL,bL,gK];exact R6 e6 (FV m3)
 rw[cL Tryz.func223 rfl aKA rfl];simp only[Z8,seval,k239,D9,dY,k240,h.sd.tree,k241,k243,k242];exact⟨_,tC rfl (by simp only[E8,seval]<;>rfl) (by simp only[E8,seval]<;>rfl) (iC _),m3,rfl,hm3⟩
noncomputable def DL (s:aN) (v:SV) (i:Int):fV:=if 0≤i∧i<v.ns.length then (if Fh s (nd v.ns i).block.slot<Fh s s.now then (nd v.ns i).block.dQ.pj else (nd v.ns i).block.gW) else gX
theorem aPD {s:aN} {v:SV} (hs:SD s v) (hp:s.cFg.qW≠0) (i:Int):aC Tryz.prog 252 [.agg (aB s),.v (.int .i64 i)]=some (.agg (bX (DL s v i))):=by
 have hf:=hs.flat
 rw[cL Tryz.func252 rfl aKB rfl];refine jG ?_
 by_cases g1:0≤i
 case neg =>
  have hv:DL s v i=gX:=if_neg (fun h=>g1 h.1)
  simp only[Z8,seval,Yx hs,g1,Bool.false_and];exact⟨_,fI rfl (by simp only[E8,seval]<;>rfl) (by simp only[Z8,seval]<;>rfl) (by simp only[dU,and_self]),by rw[hv]⟩
 by_cases g2:i<(v.ns.length:Int)
 case neg =>
  have hv:DL s v i=gX:=if_neg (fun h=>g2 h.2)
  simp only[Z8,seval,Yx hs,g1,g2,Bool.and_false];exact⟨_,fI rfl (by simp only[E8,seval]<;>rfl) (by simp only[Z8,seval]<;>rfl) (by simp only[dU,and_self]),by rw[hv]⟩
 by_cases g3:Fh s (nd v.ns i).block.slot<Fh s s.now
 ·have hv:DL s v i=(nd v.ns i).block.dQ.pj:=by unfold DL;rw[if_pos ⟨g1,g2⟩,if_pos g3]
  simp only[Z8,seval,Yx hs,g1,g2,hs.tree,Ow s hp hf,g3];exact⟨_,fI rfl (by simp only[E8,seval]<;>rfl) (by simp only[Z8,seval]<;>rfl) (by simp only[dU,and_self]),by rw[hv]⟩
 ·have hv:DL s v i=(nd v.ns i).block.gW:=by unfold DL;rw[if_pos ⟨g1,g2⟩,if_neg g3]
  simp only[Z8,seval,Yx hs,g1,g2,hs.tree,Ow s hp hf,g3];exact⟨_,fI rfl (by simp only[E8,seval]<;>rfl) (by simp only[Z8,seval]<;>rfl) (by simp only[dU,and_self]),by rw[hv]⟩
theorem aCc {s:aN} {v:SV} (hs:SD s v) (hp:s.cFg.qW≠0) (i:Int) (st:St) (d:Option Nat):aM (aC Tryz.prog) 252 [.agg (aB s),.v (.int .i64 i)] st d=some { dst:=d,val:=.agg (bX (DL s v i))}:=bI (bG hs.flat (.v _)) (aPD hs hp i) (.agg _ (dB _))
theorem aKC {s:aN} {v:SV} (hs:SD s v) (hp:s.cFg.qW≠0) (i:Int):∃r,aC Tryz.prog 249 [.agg (aB s),.v (.int .i64 i)]=some r∧∃b:Bool,r=.v (.bool b):=by
 have hf:=hs.flat
 rw[cL Tryz.func249 rfl aKD rfl];by_cases g1:0≤i
 case neg =>
  simp only[Z8,seval,Yx hs,g1,Bool.false_and];exact⟨_,bS rfl (by simp only[E8,seval]<;>rfl) (by first|exact .v _|simp only[dU]),_,rfl⟩
 by_cases g2:i<(v.ns.length:Int)
 case neg =>
  simp only[Z8,seval,Yx hs,g1,g2,Bool.and_false];exact⟨_,bS rfl (by simp only[E8,seval]<;>rfl) (by first|exact .v _|simp only[dU]),_,rfl⟩
 by_cases g3:(nd v.ns i).status=2
 ·simp only[Z8,seval,Yx hs,g1,g2,hs.tree,bt g3];exact⟨_,bS rfl (by simp only[E8,seval]<;>rfl) (by first|exact .v _|simp only[dU]),_,rfl⟩
 by_cases g4:s.bJ.gW.aK=0
 ·simp only[Z8,seval,Yx hs,g1,g2,hs.tree,bf g3,aCc hs hp,bt g4];exact⟨_,bS rfl (by simp only[E8,seval]<;>rfl) (by first|exact .v _|simp only[dU]),_,rfl⟩
 by_cases g5:(DL s v i).aK=s.bJ.gW.aK
 ·simp only[Z8,seval,Yx hs,g1,g2,hs.tree,bf g3,aCc hs hp,bf g4,bt g5];exact⟨_,bS rfl (by simp only[E8,seval]<;>rfl) (by first|exact .v _|simp only[dU]),_,rfl⟩
 by_cases g6:Fh s s.now≤(DL s v i).aK
 ·simp only[Z8,seval,Yx hs,g1,g2,hs.tree,bf g3,aCc hs hp,bf g4,bf g5,Ow s hp hf,g6];exact⟨_,bS rfl (by simp only[E8,seval]<;>rfl) (by first|exact .v _|simp only[dU]),_,rfl⟩
 ·simp only[Z8,seval,Yx hs,g1,g2,hs.tree,bf g3,aCc hs hp,bf g4,bf g5,Ow s hp hf,g6];exact⟨_,bS rfl (by simp only[E8,seval]<;>rfl) (by first|exact .v _|simp only[dU]),_,rfl⟩
theorem aFP (ns:List Node) (i x:Int):∀k:Nat,x∈Uy ns i k→(0≤x∧x<k)∧(nd ns x).up=i:=by
 intro k;induction k with
 | zero=>intro h;simp[Uy] at h
 | succ k ih =>
   intro h;unfold Uy at h;split at h
   ·rename_i hc;rcases List.mem_append.1 h with h|h
    ·have:=ih h;omega
    ·have hx:=List.mem_singleton.1 h
     subst hx;exact⟨by omega,hc⟩
   ·have:=ih h;omega
theorem IX {ns:List Node} (hu:iA ns) (hr:(nd ns 0).up=-1) {i x:Int} (h:x∈wW ns i):i<x∧0≤x∧x<ns.length:=by
 unfold wW at h;split at h
 ·simp at h
 ·rename_i hi;obtain⟨⟨x0,x1⟩,Yj⟩:=aFP ns i x _ h
  by_cases hx:x=0
  ·subst hx;rw[hr] at Yj;omega
  ·have:=(hu x (by omega) x1).2;omega
theorem aKE {s:aN} {v:SV} (hs:SD s v) (hu:iA v.ns) (hr:(nd v.ns 0).up=-1) (hp:s.cFg.qW≠0):∀(n:Nat) (i:Int),((v.ns.length:Int)-i).toNat≤n→∃b:Bool,aC Tryz.prog 244 [.agg (aB s),.v (.int .i64 i)]=some (.v (.bool b)):=by
 have base:∀(i:Int),wW v.ns i=[]→∃b:Bool,aC Tryz.prog 244 [.agg (aB s),.v (.int .i64 i)]=some (.v (.bool b)):=by
  intro i hc;obtain⟨r,hr9,b,rfl⟩:=aKC hs hp i
  have R7:=kx hr9 (bG hs.flat (.v _)) (.v _)
  have kc:=fun st d=>aEg v.ns hu hr hs.nn i hc st d
  suffices h:∃r,aC Tryz.prog 244 [.agg (aB s),.v (.int .i64 i)]=some r∧∃b:Bool,r=.v (.bool b) by
   obtain⟨r,h,b,rfl⟩:=h;exact⟨b,h⟩
  rw[cL Tryz.func244 rfl aEt rfl];cases b
  ·simp only[Z8,seval,R7,hs.tree,kc];refine cE (fun m st=>st.env 5=.v (.slice none 0 0)∧st.env 6=.v (.int .i64 0)∧m=0) (fun e st=>e=.exit 0) 0 ?step ?start ?rest
   case step =>
    rintro m st ⟨h5,h6,_⟩
    apply oT (.exit 0)
    ·simp only[Z8,seval,h5,h6,Int.lt_irrefl];rfl
    ·exact rfl
   case start=>exact⟨by simp only[E8,seval]<;>rfl,by simp only[E8,seval]<;>rfl,rfl⟩
   case rest =>
    rintro e st rfl
    simp only[Z8,seval];exact⟨_,bS rfl (by simp only[E8,seval]<;>rfl) (by first|exact .v _|simp only[dU]),_,rfl⟩
  ·simp only[Z8,seval,R7];exact⟨_,bS rfl (by simp only[E8,seval]<;>rfl) (by first|exact .v _|simp only[dU]),_,rfl⟩
 intro n;induction n with
 | zero =>
   intro i hi;exact base i (NO hu hr (by omega))
 | succ n ih =>
   intro i hi;by_cases hc:wW v.ns i=[]
   ·exact base i hc
   obtain⟨r,hr9,b,rfl⟩:=aKC hs hp i
   have R7:=kx hr9 (bG hs.flat (.v _)) (.v _)
   have kc:=fun st d=>aJz v.ns hu hr hs.nn i hc st d
   have hB:∀x:Int,∃b:Bool,x∈wW v.ns i→aC Tryz.prog 244 [.agg (aB s),.v (.int .i64 x)]=some (.v (.bool b)):=by
    intro x;by_cases hx:x∈wW v.ns i
    ·have:=IX hu hr hx
     obtain⟨b,hb⟩:=ih x (by omega)
     exact⟨b,fun _=>hb⟩
    ·exact⟨false,fun h=>absurd h hx⟩
   obtain⟨B,hB⟩:∃B:Int→Bool,∀x,x∈wW v.ns i→aC Tryz.prog 244 [.agg (aB s),.v (.int .i64 x)]=some (.v (.bool (B x))):=⟨fun x=>Classical.choose (hB x),fun x=>Classical.choose_spec (hB x)⟩
   have hgt:∀x∈wW v.ns i,i<x∧0≤x∧x<v.ns.length:=fun x hx=>IX hu hr hx
   have hin:((wW v.ns i).length:Int)<1000000:=by
    have h1:(wW v.ns i).length≤v.ns.length:=by
     unfold wW;split
     ·simp
     ·exact Xd v.ns i v.ns.length
    have:=hs.nn;omega
   obtain⟨l,el⟩:∃l,wW v.ns i=l:=⟨_,rfl⟩
   rw[el] at kc hB hin;suffices h:∃r,aC Tryz.prog 244 [.agg (aB s),.v (.int .i64 i)]=some r∧∃b:Bool,r=.v (.bool b) by
    obtain⟨r,h,b,rfl⟩:=h;exact⟨b,h⟩
   rw[cL Tryz.func244 rfl aEt rfl];cases b
   case true =>
    simp only[Z8,seval,R7];exact⟨_,bS rfl (by simp only[E8,seval]<;>rfl) (by first|exact .v _|simp only[dU]),_,rfl⟩
   simp only[Z8,seval,R7,hs.tree,kc];refine cE (fun m st=>∃k:Nat,(st.env 2=.ptr 2 0 0∧st.heap 2 0=some (.cells (aB s))∧st.env 5=.own 13 0∧st.heap 13 0=some (.row 3 1 l.length (aJ l))∧st.env 6=.v (.int .i64 k))∧(∀j:Nat,j<k→¬(B (it l (j:Int))=true))∧k≤l.length∧m=l.length-k)
    (fun e st=>(e=.ret∧∃k:Nat,k<l.length∧(B (it l (k:Int))=true)∧(∀j:Nat,j<k→¬(B (it l (j:Int))=true))∧st.env 4=.v (.bool true))∨(e=.exit 0∧(∀j:Nat,j<l.length→¬(B (it l (j:Int))=true))∧st.env 2=.ptr 2 0 0∧st.heap 2 0=some (.cells (aB s))∧st.env 5=.own 13 0∧st.heap 13 0=some (.row 3 1 l.length (aJ l)))) (l.length) ?step ?start ?rest
   case step =>
    rintro m st ⟨k,hI,hj,hk,hm⟩
    by_cases aY:(k:Int)<l.length
    ·have q0:(0:Int)≤k:=by omega
     have hw:IntKind.i64.wrap ((k:Int)+1)=((k+1:Nat):Int):=by rw[pZ _ (by omega) (by omega)];omega
     have gi:=pF q0 aY
     have R5:it l (k:Int)∈l:=by obtain⟨h1,h2⟩:=xN q0 aY;rw[h2];exact List.getElem_mem h1
     have kb:=kx (hB _ R5) (bG hs.flat (.v _)) (.v _)
     by_cases hh:B (it l (k:Int))=true
     ·apply oT (.ret)
      ·simp only[Z8,seval,hI,aY,q0,kb,gi,hh];rfl
      ·exact .inl ⟨rfl,k,by omega,hh,hj,by simp only[E8,seval,kb,gi]⟩
     ·have hn:B (it l (k:Int))=false:=by simpa using hh
      apply oN (l.length-(k+1))
      ·simp only[Z8,seval,hI,aY,q0,kb,gi,hn,hw];rfl
      ·exact⟨k+1,by simp only[E8,seval,hI],fun j h=>(Nat.lt_succ_iff_lt_or_eq.1 h).elim (hj j) fun e=>by subst e;exact hh,by omega,rfl⟩
    ·apply oT (.exit 0)
     ·simp only[Z8,seval,hI,aY,aY];rfl
     ·exact .inr ⟨rfl,fun j h=>hj j (by omega),by simp only[E8,seval,hI]⟩
   case start=>exact⟨0,by simp only[E8,seval]<;>rfl,fun j h=>by omega,by omega,by omega⟩
   case rest =>
    rintro e st (⟨rfl,k,hk,hh,hj,h⟩|⟨rfl,hj,hI⟩)
    ·simp only[Z8,seval];exact⟨_,bS rfl (by simp only[E8,seval,h]<;>rfl) (by first|exact .v _|simp only[dU,h]),_,rfl⟩
    ·simp only[Z8,seval];exact⟨_,bS rfl (by simp only[E8,seval]<;>rfl) (by first|exact .v _|simp only[dU]),_,rfl⟩
theorem aPG {s:aN} {v:SV} {q:Int} (h:GI s v q):∃x,aC Tryz.prog 224 [.agg (aB s)]=some x∧∃m:List Bool,x=.uniq 4 1 m.length (mU m)∧m.length=v.ns.length:=by
 have hn:=h.sd.nn
 have h0:=h.pos
 obtain⟨B,hB⟩:∃B:Int→Bool,∀x,aC Tryz.prog 244 [.agg (aB s),.v (.int .i64 x)]=some (.v (.bool (B x))):=⟨fun x=>Classical.choose (aKE h.sd h.up h.NM h.sp _ x (Nat.le_refl _)),fun x=>Classical.choose_spec (aKE h.sd h.up h.NM h.sp _ x (Nat.le_refl _))⟩
 have kb:∀(x:Int) (st:St) (d:Option Nat),aM (aC Tryz.prog) 244 [.agg (aB s),.v (.int .i64 x)] st d=some { dst:=d,val:=.v (.bool (B x))}:=fun x=>kx (hB x) (bG h.sd.flat (.v _)) (.v _)
 rw[cL Tryz.func224 rfl aKF rfl];simp only[Z8,seval];refine cE (fun m st=>∃k:Nat,(st.env 1=.ptr 1 0 0∧st.heap 1 0=some (.cells (aB s))∧st.env 4=.v (.int .i64 k))∧((k=0∧st.env 3=.v (.slice none 0 0))∨∃(l:List Bool) (g:Nat),st.env 3=.own 18 g∧g<st.aP 18∧st.heap 18 g=some (.row 4 1 l.length (mU l))∧l.length=k)∧k≤v.ns.length∧m=v.ns.length-k)
  (fun e st=>e=.exit 0∧∃(l:List Bool) (g:Nat),st.env 3=.own 18 g∧st.heap 18 g=some (.row 4 1 l.length (mU l))∧l.length=v.ns.length) v.ns.length ?step ?start ?rest
 case step =>
  rintro m st ⟨k,hI,h5,hk,hm⟩
  by_cases aY:(k:Int)<v.ns.length
  ·have q0:(0:Int)≤k:=by omega
   have hw:IntKind.i64.wrap ((k:Int)+1)=((k+1:Nat):Int):=by rw[pZ _ (by omega) (by omega)];omega
   rcases h5 with ⟨uW,h5⟩|⟨l',g,h5,hg,Ax,Ht⟩
   ·apply oN (v.ns.length-(k+1))
    ·simp only[Z8,seval,hI,h5,aY,q0,h.sd.tree,kb,hw];rfl
    ·exact⟨k+1,by simp only[E8,seval,hI],.inr ⟨[B k],st.aP 18,by simp only[E8,seval]<;>rfl,by simp only[E8,seval]<;>omega,by simp only[E8,seval]<;>rfl,by simp;omega⟩,by omega,rfl⟩
   ·have nl:(l'.length:Int)<1000000:=by omega
    apply oN (v.ns.length-(k+1))
    ·simp only[Z8,seval,hI,h5,Ax,aY,q0,h.sd.tree,kb,hw,OL _ _ _ _ nl];rfl
    ·exact⟨k+1,by simp only[E8,seval,hI],.inr ⟨l'++[B k],st.aP 18,by simp only[E8,seval]<;>rfl,by simp only[E8,seval]<;>omega,by simp only[E8,seval]<;>rfl,by rw[List.length_append];simp;omega⟩,by omega,rfl⟩
  ·have Fg:k=v.ns.length:=by omega
   rcases h5 with ⟨uW,h5⟩|⟨l,g,h5,hg,Ax,hl⟩
   ·omega
   ·apply oT (.exit 0)
    ·simp only[Z8,seval,hI,aY,h.sd.tree];rfl
    ·exact⟨rfl,l,g,by simp only[E8,seval,h5],by simp only[E8,seval,Ax],by omega⟩
 case start=>exact⟨0,by simp only[E8,seval]<;>rfl,.inl ⟨rfl,by simp only[E8,seval]⟩,by omega,by omega⟩
 case rest =>
  rintro e st ⟨rfl,l,g,h5,Ax,hl⟩
  simp only[Z8,seval,h5];exact⟨_,tC rfl (by simp only[E8,seval,h5]<;>rfl) (by simp only[E8,seval,Ax]<;>rfl) (Va _),l,rfl,hl⟩
theorem tP {x:AV} (h:Flat x):jD x=[]:=by
 have one:∀c,Flat c→gI c=[]:=fun c hc=>by cases hc<;>rfl
 cases h with
 | agg cs h =>
   simp only[jD];rw[List.flatMap_eq_nil_iff];exact fun c hc=>one c (h c hc)
 | _=>rfl
theorem VU {args:List AV} (h:∀x∈args,Flat x):args.flatMap jD=[]:=List.flatMap_eq_nil_iff.2 fun x hx=>tP (h x hx)
theorem Zh {call:Nat→List AV→Option AV} {g:Nat} {args:List AV} {st:St} {d:Option Nat} (h:∀x∈args,Flat x):eI call g args st d=aM call g args st d:=by
 unfold eI;rw[VU h]
theorem Ir {call:Nat→List AV→Option AV} {g:Nat} {args:List AV} {r:AV} {st:St} {d:Option Nat} (hf:∀x∈args,Flat x) (h:call g args=some r) (hr:Flat r):eI call g args st d=some { dst:=d,val:=r }:=by
 rw[Zh hf];exact bI hf h hr
noncomputable def Ni (call:Nat→List AV→Option AV) (g:Nat) (xs:Option (List AV)) (s k:Nat) (st:St) (d:Option Nat):Option qE :=
 cH xs fun xs=>cH (call g xs) fun r=>Fl r st d s k
theorem Gd {call:Nat→List AV→Option AV} {g:Nat} {args:List AV} {st:St} {d:Option Nat} {s k:Nat} (hk:args.flatMap jD=[(s,k)]) (he:∀x∈args,ZL x):eI call g args st d=Ni call g (cM (args.map (fG st))) s k st d:=by
 unfold eI Ni;rw[hk];simp only
 rw[if_pos he];cases cM (args.map (fG st))<;>rfl
theorem Zi {call:Nat→List AV→Option AV} {g:Nat} {xs:List AV} {r:AV} {s k:Nat} {st:St} {d:Option Nat} (h:call g xs=some r) (hr:Flat r):Ni call g (some xs) s k st d=some { dst:=d,val:=r,dJ:=some (s,k,none)}:=by
 unfold Ni Fl;simp only[cK,h,if_pos hr]
theorem aCd {call:Nat→List AV→Option AV} {g:Nat} {xs:List AV} {e sz n:Nat} {cs:List AV} {s k:Nat} {st:St} {d:Nat} (h:call g xs=some (.uniq e sz n cs)) (hm:∀c∈cs,fR c):Ni call g (some xs) s k st (some d)=some { dst:=some d,val:=.own d (st.aP d),dJ:=some (s,k,none),new:=some (d,[.row e sz n cs])}:=by
 have hnf:¬Flat (.uniq e sz n cs):=by intro h;cases h
 unfold Ni Fl;simp only[cK,h,if_neg hnf,if_pos hm]
theorem R9 {call:Nat→List AV→Option AV} {g:Nat} {args:List AV} {e sz n:Nat} {cs:List AV} {st:St} {d:Nat} (hf:∀x∈args,Flat x) (h:call g args=some (.uniq e sz n cs)):eI call g args st (some d)=some { dst:=some d,val:=.own d (st.aP d),new:=some (d,[.row e sz n cs])}:=by
 have hnf:¬Flat (.uniq e sz n cs):=by intro h;cases h
 rw[Zh hf];unfold aM;rw[if_pos hf,h];simp only[cK];unfold iU;rw[if_neg hnf];rfl
end Go.Ab.Tryz
