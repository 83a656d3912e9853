/-
  Part 12 of the proof: an evaluator of programs, its soundness, and what functions of this program compute.
-/
import Derived.Test.YtmcjkemalibacaaGreatK11
import Derived.Test.YtmcjkemalibacaaGreatK10
set_option linter.all false
set_option maxRecDepth 20000
set_option maxHeartbeats 40000000
namespace Go.Ab.Tryz
open Classical Go.Proofs Go.Ab
theorem bG (st:St) (s g:Nat):dA st (.own s g)=iX (st.heap s g):=by
 unfold dA iX;rw[if_neg (mI s g)];cases h:st.heap s g with
 | none=>simp only[h]
 | some e=>cases e<;>simp only[h]
theorem SD.fl {s:aM} {v:SV} (h:SD s v):Flat s.cFg.iA∧Flat s.eZ.dR∧Flat s.eZ.gT∧Flat s.dZ.early∧Flat s.dZ.bS∧Flat s.tree.nodes∧Flat s.tables:=(Gr s).1 h.flat
noncomputable def Gw (s:aM) (v:SV) (c1 c2:fB):SV :=
 if cS s v (Ge s c1) (Bu s c2) then v else
 if Bu s c2=s.aG.fin then { v with T:=nz (xR (ol v.T) (Ge s c1).aI)} else
 { v with T:=nz (xR (ol v.T) (Ge s c1).aI),ns:=(oE v.ns (aJ v.ns (Bu s c2).root) v.ns.length).1,O:=nz ((ol v.O).filter fun b=>decide ((wN s (Bu s c2).aI).1<b.slot))}
noncomputable def wO (s:aM) (v:SV) (c1 c2:fB):aM :=
 if cS s v (Ge s c1) (Bu s c2) then s else
 if Bu s c2=s.aG.fin then { s with aG:=⟨Ge s c1,Bu s c2⟩,tables:=ov aR (nz (xR (ol v.T) (Ge s c1).aI))} else
 { s with aG:=⟨Ge s c1,Bu s c2⟩,tables:=ov aR (nz (xR (ol v.T) (Ge s c1).aI)),
          tree:=⟨.sl (oE v.ns (aJ v.ns (Bu s c2).root) v.ns.length).1.length (cF (oE v.ns (aJ v.ns (Bu s c2).root) v.ns.length).1)⟩,
          iK:=if aJ (oE v.ns (aJ v.ns (Bu s c2).root) v.ns.length).1 s.iK<0 then dT else s.iK,
          dZ:={ s.dZ with bS:=ov aL (nz ((ol v.O).filter fun b=>decide ((wN s (Bu s c2).aI).1<b.slot)))} }
theorem FJ {ns:List Node} (i:Int):(oE ns i ns.length).1.length≤ns.length:=Qb ns i ns.length
theorem SD.dP {s:aM} {v:SV} (h:SD s v) (hu:fZ v.ns) (c1 c2:fB):SD (wO s v c1 c2) (Gw s v c1 c2):=by
 have hT:((ol (nz (xR (ol v.T) (Ge s c1).aI))).length:Int)<1000000:=by rw[oH];have:=List.length_filter_le (fun t:Table=>decide ((Ge s c1).aI≤t.ck.aI)) (ol v.T);have:=h.nT;unfold xR;omega
 have hB:∀t∈ol (nz (xR (ol v.T) (Ge s c1).aI)),rK t:=by rw[oH];exact fun t m=>h.tB t (List.mem_filter.1 m).1
 unfold wO Gw;split
 ·exact h
 split
 ·exact⟨h.iA,h.dR,h.gT,h.early,h.bS,h.tree,rfl,h.eV,hB,h.nB,h.nL,h.nQ,h.nE,h.nO,hT,h.nn⟩
 ·refine⟨h.iA,h.dR,h.gT,h.early,rfl,rfl,rfl,h.eV,hB,h.nB,h.nL,h.nQ,h.nE, ?_,hT, ?_⟩
  ·rw[oH];have:=List.length_filter_le (fun b:Block=>decide ((wN s (Bu s c2).aI).1<b.slot)) (ol v.O);have:=h.nO;omega
  ·have:=FJ (ns:=v.ns) (aJ v.ns (Bu s c2).root);have:=h.nn;show ((oE v.ns (aJ v.ns (Bu s c2).root) v.ns.length).1.length:Int)<1000000;omega
theorem c61 {s:aM} {v:SV} (hs:SD s v) (hu:fZ v.ns) (hp:s.cFg.jK≠0) (c1 c2:fB):aB Tryz.prog 61 [.agg (aA s),.agg (bV c1),.agg (bV c2)]=some (.agg (aA (wO s v c1 c2))):=by
 have hf:=hs.flat
 have hn:=hs.nO
 have oD:=hs.fl
 have FK:=k59 hs hu hp c1 c2
 rw[cG Tryz.func61 rfl aOE (by kernel_rfl) rfl]
 refine jB ?_
 by_cases b1:cS s v (Ge s c1) (Bu s c2)
 ·have hv:wO s v c1 c2=s:=if_pos b1
  have hc:o8 s v c1 c2=.eE [.agg (bV iB),.agg (bV iB),.v (.bool false)]:=if_pos b1
  rw[hc] at FK
  simp only[ZG,seval,Bool.false_and,Prod.mk.injEq,sB,FK,dM];exact⟨_,fI rfl (by simp only[E8,seval,hf]<;>rfl) (by simp only[Z8,seval,hf]<;>rfl) (by simp only[eA,and_self,hf]),by rw[hv]⟩
 have hc:o8 s v c1 c2=.eE [.agg (bV (Ge s c1)),.agg (bV (Bu s c2)),.v (.bool true)]:=if_neg b1
 rw[hc] at FK
 have hv:wO s v c1 c2=_:=if_neg b1
 generalize hJ:Ge s c1=J at *
 generalize hF:Bu s c2=F at *
 have XG:=dJ v.ns F.root
 have hF0:0≤aJ v.ns F.root:=by rcases Int.lt_or_le (aJ v.ns F.root) 0 with h|h;exact absurd (.inr (.inl h)) b1;exact h
 have aBo:=aOr v.T hs.nT (fun t m=>(hs.tB t m).fl) J.aI
 have kp:=k34 v.ns hu hs.nn (aJ v.ns F.root) ⟨hF0,XG.2⟩
 by_cases e1:xR (ol v.T) J.aI=[]
 ·have hz:(nz (xR (ol v.T) J.aI))=none:=if_pos e1
  rw[show Nb 118 34 aR (xR (ol v.T) J.aI)=.v (.slice none 0 0) from if_pos e1] at aBo;have Wf:=kx aBo (bA hs.fT (.v _)) (.v _)
  by_cases e2:F=s.aG.fin
  ·rw[if_pos e2,hz] at hv;subst e2;simp only[ZG,seval,Bool.false_and,Prod.mk.injEq,sB,FK,dM,hs.tables,Wf,decide_true,decide_false];exact⟨_,fI rfl (by simp only[E8,seval,hf,oD,and_self]<;>rfl) (by simp only[Z8,seval,hf,oD,and_self]<;>rfl) (by simp only[eA,and_self,hf,oD,and_self]),by rw[hv];rfl⟩
  rw[if_neg e2,hz] at hv;obtain⟨Wg,en⟩:∃Wg,(oE v.ns (aJ v.ns F.root) v.ns.length).1=Wg:=⟨_,rfl⟩
  have Gd:(Wg.length:Int)<1000000:=by have:=FJ (ns:=v.ns) (aJ v.ns F.root);have:=hs.nn;rw[← en];omega
  unfold aBb at kp;rw[en] at kp hv;obtain⟨x,ex⟩:∃x,(Kp F.aI s.cFg.jK).1=x:=⟨_,rfl⟩
  rw[show (wN s F.aI).1=x from ex] at hv;by_cases e3:aJ Wg s.iK<0
  ·rw[if_pos e3] at hv;obtain⟨S1,eS⟩:∃S1:aM,S1={ cFg:=s.cFg,eZ:=s.eZ,aG:=⟨J,F⟩,dZ:=s.dZ,tree:=⟨.sl Wg.length (cF Wg)⟩,now:=s.now,iK:=dT,tables:=.v (.slice none 0 0)}:=⟨_,rfl⟩
   have hS:Flat (.agg (aA S1)):=by rw[eS];simp only[eA,oD,and_self]
   have Wh:=fun st d=>Ut S1 hS F.aI st d
   simp only[wN,eS,ex] at Wh
   simp only[ZG,seval,Bool.false_and,Prod.mk.injEq,sB,FK,dM,hs.tables,Wf,decide_true,decide_false,e2,hs.tree,iY _ _ hs.nn,kp,iY _ _ Gd,e3,Wh,hs.bS];have FL:S1.dZ.bS=ov aL v.O:=by rw[eS];exact hs.bS
   refine kX (fun m st=>∃k:Nat,(st.env 3=.ptr 3 0 0∧st.heap 3 0=some (.cells (aA S1))∧st.env 6=.ptr 6 0 0∧st.heap 6 0=some (.cells (aA gC))∧st.env 11=.v (.int .u64 x)∧st.env 14=.v (.int .i64 k))∧(((((ol v.O).take k).filter (fun b=>decide (x<b.slot)))=[]∧st.env 13=.v (.slice none 0 0))∨((((ol v.O).take k).filter (fun b=>decide (x<b.slot)))≠[]∧∃g,st.env 13=.own 99 g∧g<st.aQ 99∧st.heap 99 g=some (.row 74 238 (((ol v.O).take k).filter (fun b=>decide (x<b.slot))).length (aL (((ol v.O).take k).filter (fun b=>decide (x<b.slot)))))))∧k≤(ol v.O).length∧m=(ol v.O).length-k)
    (fun e st=>e=.exit 0∧(((((ol v.O).take (ol v.O).length).filter (fun b=>decide (x<b.slot)))=[]∧st.env 13=.v (.slice none 0 0))∨((((ol v.O).take (ol v.O).length).filter (fun b=>decide (x<b.slot)))≠[]∧∃g,st.env 13=.own 99 g∧g<st.aQ 99∧st.heap 99 g=some (.row 74 238 (((ol v.O).take (ol v.O).length).filter (fun b=>decide (x<b.slot))).length (aL (((ol v.O).take (ol v.O).length).filter (fun b=>decide (x<b.slot)))))))∧st.env 3=.ptr 3 0 0∧st.heap 3 0=some (.cells (aA S1))∧st.env 6=.ptr 6 0 0∧st.heap 6 0=some (.cells (aA gC))∧st.env 11=.v (.int .u64 x)) ((ol v.O).length) ?step ?start ?rest
   case step =>
    rintro m st ⟨k,hI,h5,hk,hm⟩
    have Fa:(((((ol v.O).take k).filter (fun b=>decide (x<b.slot))).length:Nat):Int)<1000000:=by have:=List.length_filter_le (fun b=>decide (x<b.slot)) ((ol v.O).take k);have h2:=List.length_take_le' k (ol v.O);omega
    by_cases aZ:(k:Int)<(ol v.O).length
    ·have q0:(0:Int)≤k:=by omega
     have hw:IntKind.i64.wrap ((k:Int)+1)=((k+1:Nat):Int):=by rw[pV _ (by omega) (by omega)];omega
     have hs:=xQ fM (fun b=>decide (x<b.slot)) (ol v.O) k (by omega)
     by_cases hh:x<(gx fM (ol v.O) (k:Int)).slot
     ·rw[if_pos (decide_eq_true hh)] at hs;rcases h5 with ⟨hy,h5⟩|⟨hy,g,h5⟩
      ·rw[hy] at hs;apply Bh ((ol v.O).length-(k+1))
       ·simp only[ZG,seval,Bool.false_and,Prod.mk.injEq,hI,h5,aZ,hw,q0,sB,FL,hh];rfl
       ·exact⟨k+1,by simp only[E8,seval,hI],.inr ⟨by rw[hs];simp,_,by simp only[E8,seval]<;>rfl,(by simp only[E8,seval]<;>omega),(by rw[hs];simp only[E8,seval]<;>rfl)⟩,by omega,rfl⟩
      ·apply Bh ((ol v.O).length-(k+1))
       ·simp only[ZG,seval,Bool.false_and,Prod.mk.injEq,hI,h5,Fa,aZ,hw,q0,sB,FL,hh];rfl
       ·exact⟨k+1,by simp only[E8,seval,hI],.inr ⟨by rw[hs];simp,_,by simp only[E8,seval]<;>rfl,(by simp only[E8,seval]<;>omega),(by rw[hs];simp only[E8,seval]<;>rfl)⟩,by omega,rfl⟩
     ·rw[if_neg (by simpa using hh),List.append_nil] at hs
      apply Bh ((ol v.O).length-(k+1))
      ·simp only[ZG,seval,Bool.false_and,Prod.mk.injEq,hI,aZ,hw,q0,sB,FL,hh];rfl
      ·exact⟨k+1,by simp only[E8,seval,hI],by rw[hs];simpa only[E8,seval] using h5,by omega,rfl⟩
    ·have Ez:k=(ol v.O).length:=by omega
     rw[Ez] at h5;apply FM (.exit 0)
     ·simp only[ZG,seval,Bool.false_and,Prod.mk.injEq,hI,aZ,sB,FL];rfl
     ·exact⟨rfl,by simpa only[E8,seval] using h5,by simp only[E8,seval,hI]⟩
   case start=>exact⟨0,by simp only[E8,seval,eS]<;>rfl,.inl ⟨rfl,by simp only[E8,seval]⟩,by omega,by omega⟩
   case rest =>
    rintro e st ⟨rfl,⟨hy,h5⟩|⟨hy,g,h5,hg,zN⟩,hI⟩
    ·rw[List.take_length] at hy;rw[show nz ((ol v.O).filter fun b=>decide (x<b.slot))=none from if_pos hy] at hv
     rw[eS] at hI;simp only[ZG,seval,Bool.false_and,Prod.mk.injEq,sB,h5,hI];exact⟨_,fI rfl (by simp only[E8,seval,hI,oD,and_self]<;>rfl) (by simp only[Z8,seval,hI,oD,and_self]<;>rfl) (by simp only[eA,and_self,hI,oD,and_self]),by rw[hv];rfl⟩
    ·rw[List.take_length] at hy zN;rw[show nz ((ol v.O).filter fun b=>decide (x<b.slot))=some ((ol v.O).filter fun b=>decide (x<b.slot)) from if_neg hy] at hv
     rw[eS] at hI;simp only[ZG,seval,Bool.false_and,Prod.mk.injEq,sB,h5,zN,hI];exact⟨_,by apply eG;rfl;all_goals simp only[aE,Z8,seval,hI,zN,oD,bM,gD,bG,cY,tJ,eA]<;>rfl,by rw[hv];rfl⟩
  rw[if_neg e3] at hv;obtain⟨S1,eS⟩:∃S1:aM,S1={ cFg:=s.cFg,eZ:=s.eZ,aG:=⟨J,F⟩,dZ:=s.dZ,tree:=⟨.sl Wg.length (cF Wg)⟩,now:=s.now,iK:=s.iK,tables:=.v (.slice none 0 0)}:=⟨_,rfl⟩
  have hS:Flat (.agg (aA S1)):=by rw[eS];simp only[eA,oD,and_self]
  have Wh:=fun st d=>Ut S1 hS F.aI st d
  simp only[wN,eS,ex] at Wh
  simp only[ZG,seval,Bool.false_and,Prod.mk.injEq,sB,FK,dM,hs.tables,Wf,decide_true,decide_false,e2,hs.tree,iY _ _ hs.nn,kp,iY _ _ Gd,e3,Wh,hs.bS];have FL:S1.dZ.bS=ov aL v.O:=by rw[eS];exact hs.bS
  refine kX (fun m st=>∃k:Nat,(st.env 3=.ptr 3 0 0∧st.heap 3 0=some (.cells (aA S1))∧st.env 6=.ptr 6 0 0∧st.heap 6 0=some (.cells (aA gC))∧st.env 11=.v (.int .u64 x)∧st.env 14=.v (.int .i64 k))∧(((((ol v.O).take k).filter (fun b=>decide (x<b.slot)))=[]∧st.env 13=.v (.slice none 0 0))∨((((ol v.O).take k).filter (fun b=>decide (x<b.slot)))≠[]∧∃g,st.env 13=.own 99 g∧g<st.aQ 99∧st.heap 99 g=some (.row 74 238 (((ol v.O).take k).filter (fun b=>decide (x<b.slot))).length (aL (((ol v.O).take k).filter (fun b=>decide (x<b.slot)))))))∧k≤(ol v.O).length∧m=(ol v.O).length-k)
   (fun e st=>e=.exit 0∧(((((ol v.O).take (ol v.O).length).filter (fun b=>decide (x<b.slot)))=[]∧st.env 13=.v (.slice none 0 0))∨((((ol v.O).take (ol v.O).length).filter (fun b=>decide (x<b.slot)))≠[]∧∃g,st.env 13=.own 99 g∧g<st.aQ 99∧st.heap 99 g=some (.row 74 238 (((ol v.O).take (ol v.O).length).filter (fun b=>decide (x<b.slot))).length (aL (((ol v.O).take (ol v.O).length).filter (fun b=>decide (x<b.slot)))))))∧st.env 3=.ptr 3 0 0∧st.heap 3 0=some (.cells (aA S1))∧st.env 6=.ptr 6 0 0∧st.heap 6 0=some (.cells (aA gC))∧st.env 11=.v (.int .u64 x)) ((ol v.O).length) ?step ?start ?rest
  case step =>
   rintro m st ⟨k,hI,h5,hk,hm⟩
   have Fa:(((((ol v.O).take k).filter (fun b=>decide (x<b.slot))).length:Nat):Int)<1000000:=by have:=List.length_filter_le (fun b=>decide (x<b.slot)) ((ol v.O).take k);have h2:=List.length_take_le' k (ol v.O);omega
   by_cases aZ:(k:Int)<(ol v.O).length
   ·have q0:(0:Int)≤k:=by omega
    have hw:IntKind.i64.wrap ((k:Int)+1)=((k+1:Nat):Int):=by rw[pV _ (by omega) (by omega)];omega
    have hs:=xQ fM (fun b=>decide (x<b.slot)) (ol v.O) k (by omega)
    by_cases hh:x<(gx fM (ol v.O) (k:Int)).slot
    ·rw[if_pos (decide_eq_true hh)] at hs;rcases h5 with ⟨hy,h5⟩|⟨hy,g,h5⟩
     ·rw[hy] at hs;apply Bh ((ol v.O).length-(k+1))
      ·simp only[ZG,seval,Bool.false_and,Prod.mk.injEq,hI,h5,aZ,hw,q0,sB,FL,hh];rfl
      ·exact⟨k+1,by simp only[E8,seval,hI],.inr ⟨by rw[hs];simp,_,by simp only[E8,seval]<;>rfl,(by simp only[E8,seval]<;>omega),(by rw[hs];simp only[E8,seval]<;>rfl)⟩,by omega,rfl⟩
     ·apply Bh ((ol v.O).length-(k+1))
      ·simp only[ZG,seval,Bool.false_and,Prod.mk.injEq,hI,h5,Fa,aZ,hw,q0,sB,FL,hh];rfl
      ·exact⟨k+1,by simp only[E8,seval,hI],.inr ⟨by rw[hs];simp,_,by simp only[E8,seval]<;>rfl,(by simp only[E8,seval]<;>omega),(by rw[hs];simp only[E8,seval]<;>rfl)⟩,by omega,rfl⟩
    ·rw[if_neg (by simpa using hh),List.append_nil] at hs
     apply Bh ((ol v.O).length-(k+1))
     ·simp only[ZG,seval,Bool.false_and,Prod.mk.injEq,hI,aZ,hw,q0,sB,FL,hh];rfl
     ·exact⟨k+1,by simp only[E8,seval,hI],by rw[hs];simpa only[E8,seval] using h5,by omega,rfl⟩
   ·have Ez:k=(ol v.O).length:=by omega
    rw[Ez] at h5;apply FM (.exit 0)
    ·simp only[ZG,seval,Bool.false_and,Prod.mk.injEq,hI,aZ,sB,FL];rfl
    ·exact⟨rfl,by simpa only[E8,seval] using h5,by simp only[E8,seval,hI]⟩
  case start=>exact⟨0,by simp only[E8,seval,eS]<;>rfl,.inl ⟨rfl,by simp only[E8,seval]⟩,by omega,by omega⟩
  case rest =>
   rintro e st ⟨rfl,⟨hy,h5⟩|⟨hy,g,h5,hg,zN⟩,hI⟩
   ·rw[List.take_length] at hy;rw[show nz ((ol v.O).filter fun b=>decide (x<b.slot))=none from if_pos hy] at hv
    rw[eS] at hI;simp only[ZG,seval,Bool.false_and,Prod.mk.injEq,sB,h5,hI];exact⟨_,fI rfl (by simp only[E8,seval,hI,oD,and_self]<;>rfl) (by simp only[Z8,seval,hI,oD,and_self]<;>rfl) (by simp only[eA,and_self,hI,oD,and_self]),by rw[hv];rfl⟩
   ·rw[List.take_length] at hy zN;rw[show nz ((ol v.O).filter fun b=>decide (x<b.slot))=some ((ol v.O).filter fun b=>decide (x<b.slot)) from if_neg hy] at hv
    rw[eS] at hI;simp only[ZG,seval,Bool.false_and,Prod.mk.injEq,sB,h5,zN,hI];exact⟨_,by apply eG;rfl;all_goals simp only[aE,Z8,seval,hI,zN,oD,bM,gD,bG,cY,tJ,eA]<;>rfl,by rw[hv];rfl⟩
 ·have hz:(nz (xR (ol v.T) J.aI))=some (xR (ol v.T) J.aI):=if_neg e1
  rw[show Nb 118 34 aR (xR (ol v.T) J.aI)=.uniq 118 34 (xR (ol v.T) J.aI).length (aR (xR (ol v.T) J.aI)) from if_neg e1] at aBo;have Wf:∀(st:St),aN (aB Tryz.prog) 128 [ov aR v.T,.v (.int .u64 J.aI)] st (some 30)=_:=fun st=>jA (st:=st) (d:=30) (bA hs.fT (.v _)) aBo
  have RC:∀t∈xR (ol v.T) J.aI,Flat t.iA:=fun t m=>(hs.tB t (List.mem_filter.1 m).1).fl
  have hex:=Nf (xR (ol v.T) J.aI).length (xR (ol v.T) J.aI) RC
  by_cases e2:F=s.aG.fin
  ·rw[if_pos e2,hz] at hv;subst e2;simp only[ZG,seval,Bool.false_and,Prod.mk.injEq,sB,FK,dM,hs.tables,Wf,decide_true,decide_false];exact⟨_,by apply eG;rfl;all_goals simp only[aE,Z8,seval,oD,bM,gD,bG,cY,hex]<;>rfl,by rw[hv];rfl⟩
  rw[if_neg e2,hz] at hv;obtain⟨Wg,en⟩:∃Wg,(oE v.ns (aJ v.ns F.root) v.ns.length).1=Wg:=⟨_,rfl⟩
  have Gd:(Wg.length:Int)<1000000:=by have:=FJ (ns:=v.ns) (aJ v.ns F.root);have:=hs.nn;rw[← en];omega
  unfold aBb at kp;rw[en] at kp hv;obtain⟨x,ex⟩:∃x,(Kp F.aI s.cFg.jK).1=x:=⟨_,rfl⟩
  rw[show (wN s F.aI).1=x from ex] at hv;by_cases e3:aJ Wg s.iK<0
  ·rw[if_pos e3] at hv;obtain⟨S1,eS⟩:∃S1:aM,S1={ cFg:=s.cFg,eZ:=s.eZ,aG:=⟨J,F⟩,dZ:=s.dZ,tree:=⟨.sl Wg.length (cF Wg)⟩,now:=s.now,iK:=dT,tables:=.own 30 0 }:=⟨_,rfl⟩
   have hS:∀st:St,st.heap 30 0=some (.row 118 34 (xR (ol v.T) J.aI).length (aR (xR (ol v.T) J.aI)))→fV st (.agg (aA S1))=some (.agg (aA { S1 with tables:=.sl (xR (ol v.T) J.aI).length (aR (xR (ol v.T) J.aI))})):=by
    intro st h;rw[eS];simp only[bM,gD,bG,h,hex,cY,eA,oD,cN]
   have Wh:∀(st:St) (d:Option Nat),st.heap 30 0=some (.row 118 34 (xR (ol v.T) J.aI).length (aR (xR (ol v.T) J.aI)))→aN (aB Tryz.prog) 99 [.agg (aA S1),.v (.int .u64 F.aI)] st d=some { dst:=d,val:=.eE [.v (.int .u64 (wN S1 F.aI).1),.v (.bool ((wN S1 F.aI).2 == 0))]}:=by
    intro st d h;rw[nH,List.map_cons,List.map_cons,List.map_nil,hS st h,Qh,bR,bR,gU];exact ZW (c99 _ F.aI) (by intro x hx;simp only[List.mem_cons,List.not_mem_nil,or_false] at hx;rcases hx with rfl|rfl<;>exact .v _) (.eE _ (bA (.v _) (.v _)))
   simp only[wN,eS,ex] at Wh
   simp only[ZG,seval,Bool.false_and,Prod.mk.injEq,sB,FK,dM,hs.tables,Wf,decide_true,decide_false,e2,hs.tree,iY _ _ hs.nn,kp,iY _ _ Gd,e3,Wh,hs.bS];have FL:S1.dZ.bS=ov aL v.O:=by rw[eS];exact hs.bS
   refine kX (fun m st=>∃k:Nat,(st.env 3=.ptr 3 0 0∧st.heap 3 0=some (.cells (aA S1))∧st.env 6=.ptr 6 0 0∧st.heap 6 0=some (.cells (aA gC))∧st.env 11=.v (.int .u64 x)∧st.heap 30 0=some (.row 118 34 (xR (ol v.T) J.aI).length (aR (xR (ol v.T) J.aI)))∧st.env 14=.v (.int .i64 k))∧(((((ol v.O).take k).filter (fun b=>decide (x<b.slot)))=[]∧st.env 13=.v (.slice none 0 0))∨((((ol v.O).take k).filter (fun b=>decide (x<b.slot)))≠[]∧∃g,st.env 13=.own 99 g∧g<st.aQ 99∧st.heap 99 g=some (.row 74 238 (((ol v.O).take k).filter (fun b=>decide (x<b.slot))).length (aL (((ol v.O).take k).filter (fun b=>decide (x<b.slot)))))))∧k≤(ol v.O).length∧m=(ol v.O).length-k)
    (fun e st=>e=.exit 0∧(((((ol v.O).take (ol v.O).length).filter (fun b=>decide (x<b.slot)))=[]∧st.env 13=.v (.slice none 0 0))∨((((ol v.O).take (ol v.O).length).filter (fun b=>decide (x<b.slot)))≠[]∧∃g,st.env 13=.own 99 g∧g<st.aQ 99∧st.heap 99 g=some (.row 74 238 (((ol v.O).take (ol v.O).length).filter (fun b=>decide (x<b.slot))).length (aL (((ol v.O).take (ol v.O).length).filter (fun b=>decide (x<b.slot)))))))∧st.env 3=.ptr 3 0 0∧st.heap 3 0=some (.cells (aA S1))∧st.env 6=.ptr 6 0 0∧st.heap 6 0=some (.cells (aA gC))∧st.env 11=.v (.int .u64 x)∧st.heap 30 0=some (.row 118 34 (xR (ol v.T) J.aI).length (aR (xR (ol v.T) J.aI)))) ((ol v.O).length) ?step ?start ?rest
   case step =>
    rintro m st ⟨k,hI,h5,hk,hm⟩
    have Fa:(((((ol v.O).take k).filter (fun b=>decide (x<b.slot))).length:Nat):Int)<1000000:=by have:=List.length_filter_le (fun b=>decide (x<b.slot)) ((ol v.O).take k);have h2:=List.length_take_le' k (ol v.O);omega
    by_cases aZ:(k:Int)<(ol v.O).length
    ·have q0:(0:Int)≤k:=by omega
     have hw:IntKind.i64.wrap ((k:Int)+1)=((k+1:Nat):Int):=by rw[pV _ (by omega) (by omega)];omega
     have hs:=xQ fM (fun b=>decide (x<b.slot)) (ol v.O) k (by omega)
     by_cases hh:x<(gx fM (ol v.O) (k:Int)).slot
     ·rw[if_pos (decide_eq_true hh)] at hs;rcases h5 with ⟨hy,h5⟩|⟨hy,g,h5⟩
      ·rw[hy] at hs;apply Bh ((ol v.O).length-(k+1))
       ·simp only[ZG,seval,Bool.false_and,Prod.mk.injEq,hI,h5,aZ,hw,q0,sB,FL,hh];rfl
       ·exact⟨k+1,by simp only[E8,seval,hI],.inr ⟨by rw[hs];simp,_,by simp only[E8,seval]<;>rfl,(by simp only[E8,seval]<;>omega),(by rw[hs];simp only[E8,seval]<;>rfl)⟩,by omega,rfl⟩
      ·apply Bh ((ol v.O).length-(k+1))
       ·simp only[ZG,seval,Bool.false_and,Prod.mk.injEq,hI,h5,Fa,aZ,hw,q0,sB,FL,hh];rfl
       ·exact⟨k+1,by simp only[E8,seval,hI],.inr ⟨by rw[hs];simp,_,by simp only[E8,seval]<;>rfl,(by simp only[E8,seval]<;>omega),(by rw[hs];simp only[E8,seval]<;>rfl)⟩,by omega,rfl⟩
     ·rw[if_neg (by simpa using hh),List.append_nil] at hs
      apply Bh ((ol v.O).length-(k+1))
      ·simp only[ZG,seval,Bool.false_and,Prod.mk.injEq,hI,aZ,hw,q0,sB,FL,hh];rfl
      ·exact⟨k+1,by simp only[E8,seval,hI],by rw[hs];simpa only[E8,seval] using h5,by omega,rfl⟩
    ·have Ez:k=(ol v.O).length:=by omega
     rw[Ez] at h5;apply FM (.exit 0)
     ·simp only[ZG,seval,Bool.false_and,Prod.mk.injEq,hI,aZ,sB,FL];rfl
     ·exact⟨rfl,by simpa only[E8,seval] using h5,by simp only[E8,seval,hI]⟩
   case start=>exact⟨0,by simp only[E8,seval,eS]<;>rfl,.inl ⟨rfl,by simp only[E8,seval]⟩,by omega,by omega⟩
   case rest =>
    rintro e st ⟨rfl,⟨hy,h5⟩|⟨hy,g,h5,hg,zN⟩,hI⟩
    ·rw[List.take_length] at hy;rw[show nz ((ol v.O).filter fun b=>decide (x<b.slot))=none from if_pos hy] at hv
     rw[eS] at hI;simp only[ZG,seval,Bool.false_and,Prod.mk.injEq,sB,h5,hI];exact⟨_,by apply eG;rfl;all_goals simp only[aE,Z8,seval,hI,oD,bM,gD,bG,cY,tJ,eA,hex]<;>rfl,by rw[hv];rfl⟩
    ·rw[List.take_length] at hy zN;rw[show nz ((ol v.O).filter fun b=>decide (x<b.slot))=some ((ol v.O).filter fun b=>decide (x<b.slot)) from if_neg hy] at hv
     rw[eS] at hI;simp only[ZG,seval,Bool.false_and,Prod.mk.injEq,sB,h5,zN,hI];exact⟨_,by apply eG;rfl;all_goals simp only[aE,Z8,seval,hI,zN,oD,bM,gD,bG,cY,tJ,eA,hex]<;>rfl,by rw[hv];rfl⟩
  rw[if_neg e3] at hv;obtain⟨S1,eS⟩:∃S1:aM,S1={ cFg:=s.cFg,eZ:=s.eZ,aG:=⟨J,F⟩,dZ:=s.dZ,tree:=⟨.sl Wg.length (cF Wg)⟩,now:=s.now,iK:=s.iK,tables:=.own 30 0 }:=⟨_,rfl⟩
  have hS:∀st:St,st.heap 30 0=some (.row 118 34 (xR (ol v.T) J.aI).length (aR (xR (ol v.T) J.aI)))→fV st (.agg (aA S1))=some (.agg (aA { S1 with tables:=.sl (xR (ol v.T) J.aI).length (aR (xR (ol v.T) J.aI))})):=by
   intro st h;rw[eS];simp only[bM,gD,bG,h,hex,cY,eA,oD,cN]
  have Wh:∀(st:St) (d:Option Nat),st.heap 30 0=some (.row 118 34 (xR (ol v.T) J.aI).length (aR (xR (ol v.T) J.aI)))→aN (aB Tryz.prog) 99 [.agg (aA S1),.v (.int .u64 F.aI)] st d=some { dst:=d,val:=.eE [.v (.int .u64 (wN S1 F.aI).1),.v (.bool ((wN S1 F.aI).2 == 0))]}:=by
   intro st d h;rw[nH,List.map_cons,List.map_cons,List.map_nil,hS st h,Qh,bR,bR,gU];exact ZW (c99 _ F.aI) (by intro x hx;simp only[List.mem_cons,List.not_mem_nil,or_false] at hx;rcases hx with rfl|rfl<;>exact .v _) (.eE _ (bA (.v _) (.v _)))
  simp only[wN,eS,ex] at Wh
  simp only[ZG,seval,Bool.false_and,Prod.mk.injEq,sB,FK,dM,hs.tables,Wf,decide_true,decide_false,e2,hs.tree,iY _ _ hs.nn,kp,iY _ _ Gd,e3,Wh,hs.bS];have FL:S1.dZ.bS=ov aL v.O:=by rw[eS];exact hs.bS
  refine kX (fun m st=>∃k:Nat,(st.env 3=.ptr 3 0 0∧st.heap 3 0=some (.cells (aA S1))∧st.env 6=.ptr 6 0 0∧st.heap 6 0=some (.cells (aA gC))∧st.env 11=.v (.int .u64 x)∧st.heap 30 0=some (.row 118 34 (xR (ol v.T) J.aI).length (aR (xR (ol v.T) J.aI)))∧st.env 14=.v (.int .i64 k))∧(((((ol v.O).take k).filter (fun b=>decide (x<b.slot)))=[]∧st.env 13=.v (.slice none 0 0))∨((((ol v.O).take k).filter (fun b=>decide (x<b.slot)))≠[]∧∃g,st.env 13=.own 99 g∧g<st.aQ 99∧st.heap 99 g=some (.row 74 238 (((ol v.O).take k).filter (fun b=>decide (x<b.slot))).length (aL (((ol v.O).take k).filter (fun b=>decide (x<b.slot)))))))∧k≤(ol v.O).length∧m=(ol v.O).length-k)
   (fun e st=>e=.exit 0∧(((((ol v.O).take (ol v.O).length).filter (fun b=>decide (x<b.slot)))=[]∧st.env 13=.v (.slice none 0 0))∨((((ol v.O).take (ol v.O).length).filter (fun b=>decide (x<b.slot)))≠[]∧∃g,st.env 13=.own 99 g∧g<st.aQ 99∧st.heap 99 g=some (.row 74 238 (((ol v.O).take (ol v.O).length).filter (fun b=>decide (x<b.slot))).length (aL (((ol v.O).take (ol v.O).length).filter (fun b=>decide (x<b.slot)))))))∧st.env 3=.ptr 3 0 0∧st.heap 3 0=some (.cells (aA S1))∧st.env 6=.ptr 6 0 0∧st.heap 6 0=some (.cells (aA gC))∧st.env 11=.v (.int .u64 x)∧st.heap 30 0=some (.row 118 34 (xR (ol v.T) J.aI).length (aR (xR (ol v.T) J.aI)))) ((ol v.O).length) ?step ?start ?rest
  case step =>
   rintro m st ⟨k,hI,h5,hk,hm⟩
   have Fa:(((((ol v.O).take k).filter (fun b=>decide (x<b.slot))).length:Nat):Int)<1000000:=by have:=List.length_filter_le (fun b=>decide (x<b.slot)) ((ol v.O).take k);have h2:=List.length_take_le' k (ol v.O);omega
   by_cases aZ:(k:Int)<(ol v.O).length
   ·have q0:(0:Int)≤k:=by omega
    have hw:IntKind.i64.wrap ((k:Int)+1)=((k+1:Nat):Int):=by rw[pV _ (by omega) (by omega)];omega
    have hs:=xQ fM (fun b=>decide (x<b.slot)) (ol v.O) k (by omega)
    by_cases hh:x<(gx fM (ol v.O) (k:Int)).slot
    ·rw[if_pos (decide_eq_true hh)] at hs;rcases h5 with ⟨hy,h5⟩|⟨hy,g,h5⟩
     ·rw[hy] at hs;apply Bh ((ol v.O).length-(k+1))
      ·simp only[ZG,seval,Bool.false_and,Prod.mk.injEq,hI,h5,aZ,hw,q0,sB,FL,hh];rfl
      ·exact⟨k+1,by simp only[E8,seval,hI],.inr ⟨by rw[hs];simp,_,by simp only[E8,seval]<;>rfl,(by simp only[E8,seval]<;>omega),(by rw[hs];simp only[E8,seval]<;>rfl)⟩,by omega,rfl⟩
     ·apply Bh ((ol v.O).length-(k+1))
      ·simp only[ZG,seval,Bool.false_and,Prod.mk.injEq,hI,h5,Fa,aZ,hw,q0,sB,FL,hh];rfl
      ·exact⟨k+1,by simp only[E8,seval,hI],.inr ⟨by rw[hs];simp,_,by simp only[E8,seval]<;>rfl,(by simp only[E8,seval]<;>omega),(by rw[hs];simp only[E8,seval]<;>rfl)⟩,by omega,rfl⟩
    ·rw[if_neg (by simpa using hh),List.append_nil] at hs
     apply Bh ((ol v.O).length-(k+1))
     ·simp only[ZG,seval,Bool.false_and,Prod.mk.injEq,hI,aZ,hw,q0,sB,FL,hh];rfl
     ·exact⟨k+1,by simp only[E8,seval,hI],by rw[hs];simpa only[E8,seval] using h5,by omega,rfl⟩
   ·have Ez:k=(ol v.O).length:=by omega
    rw[Ez] at h5;apply FM (.exit 0)
    ·simp only[ZG,seval,Bool.false_and,Prod.mk.injEq,hI,aZ,sB,FL];rfl
    ·exact⟨rfl,by simpa only[E8,seval] using h5,by simp only[E8,seval,hI]⟩
  case start=>exact⟨0,by simp only[E8,seval,eS]<;>rfl,.inl ⟨rfl,by simp only[E8,seval]⟩,by omega,by omega⟩
  case rest =>
   rintro e st ⟨rfl,⟨hy,h5⟩|⟨hy,g,h5,hg,zN⟩,hI⟩
   ·rw[List.take_length] at hy;rw[show nz ((ol v.O).filter fun b=>decide (x<b.slot))=none from if_pos hy] at hv
    rw[eS] at hI;simp only[ZG,seval,Bool.false_and,Prod.mk.injEq,sB,h5,hI];exact⟨_,by apply eG;rfl;all_goals simp only[aE,Z8,seval,hI,oD,bM,gD,bG,cY,tJ,eA,hex]<;>rfl,by rw[hv];rfl⟩
   ·rw[List.take_length] at hy zN;rw[show nz ((ol v.O).filter fun b=>decide (x<b.slot))=some ((ol v.O).filter fun b=>decide (x<b.slot)) from if_neg hy] at hv
    rw[eS] at hI;simp only[ZG,seval,Bool.false_and,Prod.mk.injEq,sB,h5,zN,hI];exact⟨_,by apply eG;rfl;all_goals simp only[aE,Z8,seval,hI,zN,oD,bM,gD,bG,cY,tJ,eA,hex]<;>rfl,by rw[hv];rfl⟩
theorem k61 {s:aM} {v:SV} (hs:SD s v) (hu:fZ v.ns) (hp:s.cFg.jK≠0) (c1 c2:fB) (st:St) (d:Option Nat):aN (aB Tryz.prog) 61 [.agg (aA s),.agg (bV c1),.agg (bV c2)] st d=some { dst:=d,val:=.agg (aA (wO s v c1 c2))}:=bF (mW hs.flat (.agg _ (cT c1)) (.agg _ (cT c2))) (c61 hs hu hp c1 c2) (hs.dP hu c1 c2).flat
theorem Aj {α:Type} (s g:Nat) (cs:List α→List AV) (o:Option (List α)):eY (.own s g) (ov cs o)=True:=by cases o<;>rfl
theorem Ak {α:Type} (s g:Nat) (cs:List α→List AV) (o:Option (List α)):eY (ov cs o) (.own s g)=True:=by cases o<;>rfl
theorem yO {α:Type} (s g n:Nat) (cs:List α→List AV) (o:Option (List α)):eY (.ptr s g n) (ov cs o)=True:=by cases o<;>rfl
theorem yP {α:Type} (s g n:Nat) (cs:List α→List AV) (o:Option (List α)):eY (ov cs o) (.ptr s g n)=True:=by cases o<;>rfl
theorem aJK (t:Table) (b:Option (List Int)) (hb:t.iA=ov bH b) (hl:((ol b).length:Int)<1000000):aB Tryz.prog 158 [.agg (bZ t)]=some (.agg (bZ ⟨t.ck,ov bH (some (ol b))⟩)):=by
 rw[cL Tryz.func158 rfl aJL rfl];refine jB ?_
 simp only[Z8,seval,hb,Dz _ hl];exact⟨_,by apply eG;rfl;all_goals simp only[aE,Z8,seval,bM,sO,bG,uP]<;>rfl,rfl⟩
def aOG (o:Option (List Table)) (t':Table) (L:List Table):Prop:=L.length=(ol o).length+1∧(∀x∈L,x∈ol o∨x=t')∧∀x∈ol o,x∈L
theorem aOH (o:Option (List Table)) (hn:((ol o).length:Int)<999999) (hT:∀x∈ol o,Flat x.iA) (t:Table) (b:Option (List Int)) (hb:t.iA=ov bH b) (hl:((ol b).length:Int)<1000000) :
 ∃r,aB Tryz.prog 195 [ov aR o,.agg (bZ t)]=some r∧∃L,aOG o ⟨t.ck,ov bH (some (ol b))⟩ L∧r=.uniq 118 34 L.length (aR L):=by
 have hfT:Flat (.agg (bZ t)):=(jX t).2 (by rw[hb];exact dU b)
 have hf2:Flat (.agg (bZ ⟨t.ck,ov bH (some (ol b))⟩)):=(jX _).2 (dU (some (ol b)))
 have hto:=lG o hT
 have aFl:=kx (aJK t b hb hl) (cK hfT) hf2
 rw[cG Tryz.func195 rfl aJN (by kernel_rfl) (by cases o<;>rfl)]
 simp only[ZG,seval,Bool.false_and,Prod.mk.injEq,LJ];refine kX (fun m st=>∃k:Nat,(st.env 0=ov aR o∧st.env 3=.ptr 3 0 0∧st.heap 3 0=some (.cells (bZ t))∧st.env 5=.v (.int .i64 k))∧k≤(ol o).length∧m=(ol o).length-k)
  (fun e st=>e=.exit 0∧∃k:Nat,(st.env 0=ov aR o∧st.env 3=.ptr 3 0 0∧st.heap 3 0=some (.cells (bZ t))∧st.env 5=.v (.int .i64 k))∧k≤(ol o).length) (ol o).length ?step ?start ?rest
 case step =>
  rintro m st ⟨k,hI,hk,hm⟩
  by_cases aZ:(k:Int)<(ol o).length
  ·have q0:(0:Int)≤k:=by omega
   have hw:IntKind.i64.wrap ((k:Int)+1)=((k+1:Nat):Int):=by rw[pV _ (by omega) (by omega)];omega
   by_cases h1:aJE (gx iT (ol o) (k:Int)).ck t.ck<0
   ·apply Bh ((ol o).length-(k+1))
    ·simp only[ZG,seval,Bool.false_and,Prod.mk.injEq,LJ,hI,aZ,q0,aJF,h1,hw];rfl
    ·exact⟨k+1,by simp only[E8,seval,hI],by omega,rfl⟩
   ·apply FM (.exit 0)
    ·simp only[ZG,seval,Bool.false_and,Prod.mk.injEq,LJ,hI,aZ,q0,aJF,h1];rfl
    ·exact⟨rfl,k,by simp only[E8,seval,hI],hk⟩
  ·apply FM (.exit 0)
   ·simp only[ZG,seval,Bool.false_and,Prod.mk.injEq,LJ,hI,aZ];rfl
   ·exact⟨rfl,k,by simp only[E8,seval,hI],hk⟩
 case start=>exact⟨0,by simp only[E8,seval]<;>rfl,by omega,by omega⟩
 case rest =>
  rintro e st ⟨rfl,k,hI,hk⟩
  have e1:ol (o.map (·.take k))=(ol o).take k:=by cases o<;>simp[ol]
  have e2:ol (o.map (·.drop k))=(ol o).drop k:=by cases o<;>simp[ol]
  have n1:(((ol (o.map (·.take k))).length:Nat):Int)<1000000:=by rw[e1,List.length_take];omega
  have n2:(((ol (o.map (·.drop k))).length:Nat):Int)<1000000:=by rw[e2,List.length_drop];omega
  have n3:(((ol (o.map (·.take k))++[(⟨t.ck,ov bH (some (ol b))⟩:Table)]).length:Nat):Int)<1000000:=by rw[List.length_append,e1,List.length_take];simp;omega
  have q0:(0:Int)≤k:=by omega
  have q1:(k:Int)≤((ol o).length:Int):=by omega
  have hr:∀x∈aR (ol (o.map (·.take k))++[(⟨t.ck,ov bH (some (ol b))⟩:Table)]++ol (o.map (·.drop k))),Flat x:=by
   refine mK _ fun x m=>?_
   rw[e1,e2] at m;rcases List.mem_append.1 m with m|m
   ·rcases List.mem_append.1 m with m|m
    ·exact hT x (List.mem_of_mem_take m)
    ·rw[List.mem_singleton.1 m];exact dU (some (ol b))
   ·exact hT x (List.mem_of_mem_drop m)
  simp only[ZG,seval,Bool.false_and,Prod.mk.injEq,LJ,Aj,Ak,and_self,hI,q0,q1,Int.toNat_natCast,aFl,DO _ n1,Qi _ _ _ _ n1,DP _ _ _ _ n3 n2];refine⟨_,sU rfl (by simp only[E8,seval]<;>rfl) (by simp only[E8,seval]<;>rfl) hr,_,⟨?_,fun x m=>?_,fun x m=>?_⟩,rfl⟩
  ·rw[e1,e2,List.length_append,List.length_append,List.length_take,List.length_drop];simp;omega
  ·rw[e1,e2] at m;rcases List.mem_append.1 m with m|m
   ·rcases List.mem_append.1 m with m|m
    ·exact .inl (List.mem_of_mem_take m)
    ·exact .inr (List.mem_singleton.1 m)
   ·exact .inl (List.mem_of_mem_drop m)
  ·rw[e1,e2];rw[← List.take_append_drop k (ol o)] at m;rcases List.mem_append.1 m with m|m
   ·exact List.mem_append_left _ (List.mem_append_left _ m)
   ·exact List.mem_append_right _ m
theorem aOJ (o:Option (List Table)) (hn:((ol o).length:Int)<999999) (hT:∀x∈ol o,rK x) (t:Table) (ht:rK t) (n lS:Int) :
 ∃r,aB Tryz.prog 172 [ov aR o,.agg (bZ t),.v (.int .i64 n),.v (.int .i64 lS)]=some r∧∃o' e,r=.eE [ov aR o',.v (.int .i64 e)]∧e≠21∧((ol o').length:Int)≤max ((ol o).length:Int) lS∧(∀x∈ol o',rK x)∧(ol o ⊆ ol o')∧(e=0→o'≠some []∧∀x∈ol o',x∈ol o∨∃B,x.iA=ov bH (some B)∧(B.length:Int)=n):=by
 obtain⟨b,hb,hl⟩:=id ht
 have hfT:Flat (.agg (bZ t)):=(jX t).2 ht.fl
 have hto:=lG o fun x m=>(hT x m).fl
 obtain⟨r,hr,e,rfl,he,hlen⟩:=aD2 t b hb hl n
 have FN:=kx hr (bA hfT (.v _)) (.v _)
 have Gd:((ol o).length:Int)<1000000:=by omega
 have aFm:=yM o Gd hto
 rw[cL Tryz.func172 rfl aJO (by cases o<;>rfl)]
 by_cases g1:e=0
 case neg =>
  simp only[Z8,seval,FN,bf g1,mM _ _ fun x m=>(hT x m).fl]
  exact⟨_,dC rfl rfl rfl (by simp only[E8,seval,mM _ _ fun x m=>(hT x m).fl]<;>rfl) (by simp only[E8,seval,mM _ _ fun x m=>(hT x m).fl]<;>rfl),o,e,rfl,he,by omega,hT,fun x m=>m,fun h=>absurd h g1⟩
 by_cases g2:0≤SL (ol o) t.ck
 ·simp only[Z8,seval,FN,bt g1,aFm,g2];exact⟨_,dC rfl rfl rfl (by simp only[E8,seval,mM _ _ fun x m=>(hT x m).fl]<;>rfl) (by simp only[E8,seval,mM _ _ fun x m=>(hT x m).fl]<;>rfl),o,9,rfl,by decide,by omega,hT,fun x m=>m,fun h=>by cases h⟩
 by_cases g3:lS≤((ol o).length:Int)
 ·simp only[Z8,seval,FN,bt g1,aFm,g2,g3];exact⟨_,dC rfl rfl rfl (by simp only[E8,seval,mM _ _ fun x m=>(hT x m).fl]<;>rfl) (by simp only[E8,seval,mM _ _ fun x m=>(hT x m).fl]<;>rfl),o,11,rfl,by decide,by omega,hT,fun x m=>m,fun h=>by cases h⟩
 obtain⟨r2,hr2,L,⟨FO,hL2,hL3⟩,rfl⟩:=aOH o hn (fun x m=>(hT x m).fl) t b hb hl
 have hTL:∀x∈L,rK x:=fun x m=>(hL2 x m).elim (hT x) fun e=>by rw[e];exact⟨some (ol b),rfl,hl⟩
 have k195:∀(st:St),aN (aB Tryz.prog) 195 [ov aR o,.agg (bZ t)] st (some 31)=_:=fun st=>jA (st:=st) (d:=31) (bA hto hfT) hr2
 have hex:=Nf L.length L fun x m=>(hTL x m).fl
 simp only[Z8,seval,FN,bt g1,aFm,g2,g3,k195];exact⟨_,dC rfl rfl rfl (by simp only[E8,seval,hex]<;>rfl) (by simp only[E8,seval,hex]<;>rfl),some L,0,rfl,by decide,by show ((L.length:Nat):Int)≤_;omega,hTL,hL3,fun _=>⟨fun e=>by injection e with e;rw[e] at FO;simp at FO,fun x m=>(hL2 x m).imp id fun e=>by rw[e];exact⟨ol b,rfl,hlen g1⟩⟩⟩
theorem aOK {s:aM} {v:SV} (hs:SD s v) (hn:((ol v.T).length:Int)<999999) (t:Table) (ht:rK t) :
 ∃r,aB Tryz.prog 117 [.agg (aA s),.agg (bZ t)]=some r∧∃s' e,r=.eE [.agg (aA s'),.v (.int .i64 e)]∧Flat (.agg (aA s'))∧e≠21∧(e=0→∃o',s'={ s with tables:=ov aR o' }∧((ol o').length:Int)≤max ((ol v.T).length:Int) s.cFg.lS.qH∧(∀x∈ol o',rK x)∧(ol v.T ⊆ ol o')∧o'≠some []∧∀x∈ol o',x∈ol v.T∨∃B,x.iA=ov bH (some B)∧(B.length:Int)=(ol v.B).length):=by
 have hf:=hs.flat
 have oD:=hs.fl
 have hfT:Flat (.agg (bZ t)):=(jX t).2 ht.fl
 have hz:Flat (.agg (aA gC)):=by simp only[eA,gC,nC,Kz,Ea,Qj,and_self]
 obtain⟨r,hr,e,rfl,he⟩:=aOw t ht (ol v.B).length
 have FN:=kx hr (bA hfT (.v _)) (.v _)
 obtain⟨r2,hr2,o',e2,rfl,he2,RT,hT2,hsub,hne2⟩:=aOJ v.T hn hs.tB t ht (ol v.B).length s.cFg.lS.qH
 have hf2:Flat (ov aR o'):=lG o' fun x m=>(hT2 x m).fl
 have k172:=kx hr2 (by simp only[List.mem_cons,List.not_mem_nil,or_false,forall_eq_or_imp,forall_eq,aFe,and_true];exact⟨hs.fT,hfT⟩) (.eE _ (bA hf2 (.v _)))
 rw[cL Tryz.func117 rfl aJP rfl];by_cases g1:e=0
 case neg =>
  simp only[Z8,seval,Wb hs,FN,bf g1];exact⟨_,by apply dC;rfl;all_goals simp only[aE,bK,Z8,seval,hz]<;>rfl,gC,e,rfl,hz,he,fun h=>absurd h g1⟩
 by_cases g2:t.ck.aI<s.aG.dS.aI
 ·simp only[Z8,seval,Wb hs,FN,bt g1,g2];exact⟨_,by apply dC;rfl;all_goals simp only[aE,bK,Z8,seval,hz]<;>rfl,gC,13,rfl,hz,by decide,fun h=>by cases h⟩
 by_cases g3:e2=0
 case neg =>
  simp only[Z8,seval,Wb hs,FN,bt g1,g2,hs.tables,k172,dM,bf g3];exact⟨_,by apply dC;rfl;all_goals simp only[aE,bK,Z8,seval,hz]<;>rfl,gC,e2,rfl,hz,he2,fun h=>absurd h g3⟩
 ·have hf3:Flat (.agg (aA { s with tables:=ov aR o' })):=by simp only[eA,oD,hf2,and_self]
  simp only[Z8,seval,Wb hs,FN,bt g1,g2,hs.tables,k172,dM,bt g3];exact⟨_,by apply dC;rfl;all_goals simp only[aE,bK,Z8,seval,hf3]<;>rfl,_,0,rfl,hf3,by decide,fun _=>⟨o',rfl,RT,hT2,hsub,hne2 g3⟩⟩
noncomputable def AL (v:SV):Int:=Ji (fun k=>0≤aJ v.ns (gx fM (ol v.O) k).parent) (ol v.O).length
theorem aJQ {s:aM} {v:SV} (hs:SD s v):aB Tryz.prog 218 [.agg (aA s)]=some (.v (.int .i64 (AL v))):=by
 have hn:=hs.nO
 rw[cL Tryz.func218 rfl aJR rfl];refine jB ?_
 simp only[Z8,seval,hs.bS];refine cJ (fun m st=>∃k:Nat,(st.env 1=.ptr 1 0 0∧st.heap 1 0=some (.cells (aA s))∧st.env 3=.v (.int .i64 k))∧(∀j:Nat,j<k→¬(0≤aJ v.ns (gx fM (ol v.O) (j:Int)).parent))∧k≤(ol v.O).length∧m=(ol v.O).length-k)
  (fun e st=>(e=.ret∧∃k:Nat,k<(ol v.O).length∧(0≤aJ v.ns (gx fM (ol v.O) (k:Int)).parent)∧(∀j:Nat,j<k→¬(0≤aJ v.ns (gx fM (ol v.O) (j:Int)).parent))∧st.env 2=.v (.int .i64 (k:Nat)))∨(e=.exit 0∧(∀j:Nat,j<(ol v.O).length→¬(0≤aJ v.ns (gx fM (ol v.O) (j:Int)).parent))∧st.env 1=.ptr 1 0 0∧st.heap 1 0=some (.cells (aA s)))) ((ol v.O).length) ?step ?start ?rest
 case step =>
  rintro m st ⟨k,hI,hj,hk,hm⟩
  by_cases aZ:(k:Int)<(ol v.O).length
  ·have q0:(0:Int)≤k:=by omega
   have hw:IntKind.i64.wrap ((k:Int)+1)=((k+1:Nat):Int):=by rw[pV _ (by omega) (by omega)];omega
   by_cases hh:0≤aJ v.ns (gx fM (ol v.O) (k:Int)).parent
   ·apply oT (.ret)
    ·simp only[Z8,seval,hI,aZ,q0,hs.bS,hs.tree,iY _ _ hs.nn,hh];rfl
    ·exact .inl ⟨rfl,k,by omega,hh,hj,by simp only[E8,seval,hs.bS,hs.tree,iY _ _ hs.nn]⟩
   ·apply oN ((ol v.O).length-(k+1))
    ·simp only[Z8,seval,hI,aZ,q0,hs.bS,hs.tree,iY _ _ hs.nn,hh,hw];rfl
    ·exact⟨k+1,by simp only[E8,seval,hI],fun j h=>(Nat.lt_succ_iff_lt_or_eq.1 h).elim (hj j) fun e=>by subst e;exact hh,by omega,rfl⟩
  ·apply oT (.exit 0)
   ·simp only[Z8,seval,hI,aZ,hs.bS,hs.tree,iY _ _ hs.nn];rfl
   ·exact .inr ⟨rfl,fun j h=>hj j (by omega),by simp only[E8,seval,hI]⟩
 case start=>exact⟨0,by simp only[E8,seval]<;>rfl,fun j h=>by omega,by omega,by omega⟩
 case rest =>
  rintro e st (⟨rfl,k,hk,hh,hj,h⟩|⟨rfl,hj,hI⟩)
  ·have hv:AL v=k:=Iq hh hj _ hk
   simp only[Z8,seval];exact⟨_,bP rfl (by simp only[E8,seval,h]<;>rfl) (by first|exact .v _|simp only[eA,h]),by rw[hv]⟩
  ·have hv:AL v=-1:=sM _ hj
   simp only[Z8,seval];exact⟨_,bP rfl (by simp only[E8,seval]<;>rfl) (by first|exact .v _|simp only[eA]),by rw[hv]⟩
theorem LK {s:aM} {v:SV} (hs:SD s v) (st:St) (d:Option Nat):aN (aB Tryz.prog) 218 [.agg (aA s)] st d=some { dst:=d,val:=.v (.int .i64 (AL v))}:=bF (cK hs.flat) (aJQ hs) (.v _)
noncomputable def Cg (e:Int) (r:bX) (a:List iV × Int) (x:Int):List iV × Int :=
 if (gx gI a.1 x).has=false∨(gx gI a.1 x).aI<e then (a.1.set x.toNat ⟨true,e,r⟩,IntKind.i64.wrap (a.2+1)) else a
noncomputable def pC (L:List iV) (e:Int) (r:bX) (V:List Int):List iV × Int:=V.foldl (Cg e r) (L,0)
theorem DQ (e:Int) (r:bX) (a:List iV × Int) (x:Int):(Cg e r a x).1.length=a.1.length:=by unfold Cg;split<;>simp
theorem Ch (L:List iV) (e:Int) (r:bX) (V:List Int):(pC L e r V).1.length=L.length:=by
 unfold pC;suffices h:∀(V:List Int) (a:List iV × Int),(V.foldl (Cg e r) a).1.length=a.1.length from h V _
 intro V;induction V with
 | nil=>intro a;rfl
 | cons x V ih=>intro a;rw[List.foldl_cons,ih,DQ]
theorem Wi (L:List iV) (e:Int) (r:bX) (V:List Int) (k:Nat) (h:k<V.length):pC L e r (V.take (k+1))=Cg e r (pC L e r (V.take k)) (gx (0:Int) V k):=by
 unfold pC;rw[List.take_succ_eq_append_getElem h,List.foldl_append];simp[gx,h]
theorem aOL (o:Option (List iV)) (hn:((ol o).length:Int)<1000000) (e:Int) (r:bX) (V:Option (List Int)) (hV:((ol V).length:Int)<1000000) (hr:∀x∈ol V,0≤x∧x<(ol o).length) :
 aB Tryz.prog 110 [ov bW o,.v (.int .u64 e),.agg (aY r),ov aH V]=some (.eE [.sl (ol o).length (bW (pC (ol o) e r (ol V)).1),.v (.int .i64 (pC (ol o) e r (ol V)).2)]):=by
 rw[cL Tryz.func110 rfl aJS (by cases o<;>cases V<;>rfl)]
 refine jB ?_
 simp only[Z8,seval,LM _ hn];refine cJ (fun m st=>∃(k:Nat) (l:List iV) (c:Int),(st.env 1=.v (.int .u64 e)∧st.env 6=.ptr 6 0 0∧st.heap 6 0=some (.cells (aY r))∧st.env 3=ov aH V∧st.env 10=.own 15 0∧st.heap 15 0=some (.row 100 34 l.length (bW l))∧st.env 11=.v (.int .i64 c)∧st.env 12=.v (.int .i64 k))∧pC (ol o) e r ((ol V).take k)=(l,c)∧l.length=(ol o).length∧k≤(ol V).length∧m=(ol V).length-k)
  (fun ex st=>ex=.exit 0∧∃(l:List iV) (c:Int),(st.env 10=.own 15 0∧st.heap 15 0=some (.row 100 34 l.length (bW l))∧st.env 11=.v (.int .i64 c))∧pC (ol o) e r (ol V)=(l,c)∧l.length=(ol o).length) (ol V).length ?step ?start ?rest
 case step =>
  rintro m st ⟨k,l,c,hI,hc,hl,hk,hm⟩
  by_cases aZ:(k:Int)<(ol V).length
  ·have q0:(0:Int)≤k:=by omega
   have hw:IntKind.i64.wrap ((k:Int)+1)=((k+1:Nat):Int):=by rw[pV _ (by omega) (by omega)];omega
   have rH:=Wi (ol o) e r (ol V) k (by omega)
   rw[hc] at rH;unfold Cg at rH;have hx:=hr _ (tI (z:=(0:Int)) q0 aZ)
   obtain⟨x,ex⟩:∃x,gx (0:Int) (ol V) (k:Int)=x:=⟨_,rfl⟩
   rw[ex] at hx rH;have x0:0≤x:=hx.1
   have x1:x<(l.length:Int):=by rw[hl];exact hx.2
   have x2:x.toNat<l.length:=by omega
   have x3:x.toNat * 34+34≤l.length * 34:=by omega
   have ld:=FP (T:=100) (n:=l.length) (k:=34) x0 x1 J9 (by decide) (by decide)
   by_cases h1:(gx gI l x).has=true
   ·by_cases h2:(gx gI l x).aI<e
    ·rw[if_pos (.inr h2)] at rH;apply oN ((ol V).length-(k+1))
     ·simp only[Z8,seval,hI,aZ,q0,ex,x0,x1,x2,x3,ld,h1,h2,Ng _ _ _ x2,hw];rfl
     ·exact⟨k+1,_,_,by simp only[E8,seval,hI,List.length_set]<;>exact⟨rfl,rfl⟩,rH,by rw[List.length_set,hl],by omega,rfl⟩
    ·rw[if_neg (by simp only[h1,h2,Bool.true_eq_false,or_self,not_false_eq_true])] at rH
     apply oN ((ol V).length-(k+1))
     ·simp only[Z8,seval,hI,aZ,q0,ex,x0,x1,x2,x3,ld,h1,h2,hw];rfl
     ·exact⟨k+1,l,c,by simp only[E8,seval,hI],rH,hl,by omega,rfl⟩
   ·have Sf:(gx gI l x).has=false:=by simpa using h1
    rw[if_pos (.inl Sf)] at rH;apply oN ((ol V).length-(k+1))
    ·simp only[Z8,seval,hI,aZ,q0,ex,x0,x1,x2,x3,ld,Sf,Ng _ _ _ x2,hw];rfl
    ·exact⟨k+1,_,_,by simp only[E8,seval,hI,List.length_set]<;>exact⟨rfl,rfl⟩,rH,by rw[List.length_set,hl],by omega,rfl⟩
  ·have Ez:k=(ol V).length:=by omega
   rw[Ez,List.take_length] at hc;apply oT (.exit 0)
   ·simp only[Z8,seval,hI,aZ];rfl
   ·exact⟨rfl,l,c,by simp only[E8,seval,hI],hc,hl⟩
 case start=>exact⟨0,ol o,0,by simp only[E8,seval]<;>rfl,rfl,rfl,by omega,by omega⟩
 case rest =>
  rintro ex st ⟨rfl,l,c,hI,hc,hl⟩
  rw[hc];simp only[Z8,seval,hI];exact⟨_,dC rfl rfl rfl (by simp only[E8,seval,hI,Nh]<;>rfl) (by simp only[E8,seval,hI,Nh]<;>rfl),by rw[hl]⟩
theorem aJT (o:Option (List iV)) (hn:((ol o).length:Int)<1000000) (e:Int) (r:bX) (V:Option (List Int)) (hV:((ol V).length:Int)<1000000) (hr:∀x∈ol V,0≤x∧x<(ol o).length) (st:St) (d:Option Nat) :
 aN (aB Tryz.prog) 110 [ov bW o,.v (.int .u64 e),.agg (aY r),ov aH V] st d=some { dst:=d,val:=.eE [.sl (ol o).length (bW (pC (ol o) e r (ol V)).1),.v (.int .i64 (pC (ol o) e r (ol V)).2)]} :=
 bF (by simp only[List.mem_cons,List.not_mem_nil,or_false,forall_eq_or_imp,forall_eq,eA,and_self,and_true,true_and]) (aOL o hn e r V hV hr) (.eE _ (bA (.sl _ _ (qG _)) (.v _)))
noncomputable def Eb (s:aM) (v:SV) (a:oY) (V:List Int):aM:={ s with eZ:={ s.eZ with dR:=ov bW (some (pC (ol v.L) a.target.aI a.root V).1)} }
theorem c44 {s:aM} {v:SV} (hs:SD s v) (a:oY) (V:Option (List Int)) (ha:a.dX=ov aH V) (hV:((ol V).length:Int)<1000000) (hr:∀x∈ol V,0≤x∧x<(ol v.L).length) :
 aB Tryz.prog 44 [.agg (aA s),.agg (eH a)]=some (.agg (aA (Eb s v a (ol V)))):=by
 have oD:=hs.fl
 rw[cL Tryz.func44 rfl aOM rfl];refine jB ?_
 simp only[Z8,seval,hs.dR,ha,aJT v.L hs.nL _ _ V hV hr,dM];exact⟨_,fI rfl (by simp only[E8,seval,oD,and_self]<;>rfl) (by simp only[Z8,seval,oD,and_self]<;>rfl) (by simp only[eA,and_self,oD,and_self]),by unfold Eb;simp only[ov,Ch]⟩
theorem Wj (ns:List Node) (r:bX) (h:0≤aJ ns r):(nd ns (aJ ns r)).block.root=r:=by
 unfold aJ at h ⊢
 cases hf:ns.findIdx? (fun n=>decide (n.block.root=r)) with
 | none=>rw[hf] at h;simp only at h;omega
 | some k =>
   obtain⟨hk,hp,_⟩:=List.findIdx?_eq_some_iff_getElem.1 hf
   simp only
   have:nd ns (k:Int)=ns[k]:=by simp[nd,hk]
   rw[this];exact of_decide_eq_true hp
theorem Ni {ns:List Node} {r:bX} {j:Int} (h0:0≤j) (h1:j<ns.length) (hr:(nd ns j).block.root=r):0≤aJ ns r:=by
 unfold aJ;cases hf:ns.findIdx? (fun n=>decide (n.block.root=r)) with
 | none =>
   obtain⟨hj,e⟩:=Ku h0 h1
   have:=List.findIdx?_eq_none_iff.1 hf ns[j.toNat] (List.getElem_mem hj)
   rw[← e] at this;simp[hr] at this
 | some k=>simp only;omega
structure GI (s:aM) (v:SV) (q:Int):Prop where
 sd:SD s v
 up:fZ v.ns
 To:(nd v.ns 0).up=-1
 pos:0<v.ns.length
 nl:(v.ns.length:Int)≤s.cFg.lS.rL
 SQ:s.cFg.lS.rL≤4096
 jK:1≤s.cFg.jK∧s.cFg.jK≤64
 FQ:(ol v.L).length=(ol v.B).length
 nB:((ol v.B).length:Int)≤1024
 nO:((ol v.O).length:Int)≤s.cFg.lS.vQ
 LN:s.cFg.lS.vQ≤64
 nE:((ol v.E).length:Int)≤s.cFg.lS.pM
 RE:s.cFg.lS.pM≤256
 nT:((ol v.T).length:Int)≤s.cFg.lS.qH
 SR:s.cFg.lS.qH≤64
 nQ:((ol v.Q).length:Int)≤q
 K0:q≤900000
 dS:0≤aJ v.ns s.aG.dS.root
theorem GI.sp {s:aM} {v:SV} {q:Int} (h:GI s v q):s.cFg.jK≠0:=by have:=h.jK.1;omega
theorem vR (s:aM) (v:SV) (c1 c2:fB):(wO s v c1 c2).cFg=s.cFg:=by unfold wO;split;rfl;split<;>rfl
theorem Nj (s:aM) (v:SV) (c1 c2:fB):(wO s v c1 c2).now=s.now:=by unfold wO;split;rfl;split<;>rfl
theorem GI.dP {s:aM} {v:SV} {q:Int} (h:GI s v q) (c1 c2:fB):GI (wO s v c1 c2) (Gw s v c1 c2) q:=by
 have hsd:=h.sd.dP h.up c1 c2
 by_cases b:cS s v (Ge s c1) (Bu s c2)
 ·rw[show wO s v c1 c2=s from if_pos b,show Gw s v c1 c2=v from if_pos b];exact h
 have hJ:0≤aJ v.ns (Ge s c1).root:=by rcases Int.lt_or_le (aJ v.ns (Ge s c1).root) 0 with g|g;exact absurd (.inl g) b;exact g
 have hF:0≤aJ v.ns (Bu s c2).root:=by rcases Int.lt_or_le (aJ v.ns (Bu s c2).root) 0 with g|g;exact absurd (.inr (.inl g)) b;exact g
 have hA:vE v.ns (aJ v.ns (Bu s c2).root) (aJ v.ns (Ge s c1).root)=true:=by
  cases g:vE v.ns (aJ v.ns (Bu s c2).root) (aJ v.ns (Ge s c1).root)
  ·exact absurd (.inr (.inr (.inr (.inr (.inr (.inr (.inl g))))))) b
  ·rfl
 have hT:((ol (nz (xR (ol v.T) (Ge s c1).aI))).length:Int)≤s.cFg.lS.qH:=by
  rw[oH];have:=List.length_filter_le (fun t:Table=>decide ((Ge s c1).aI≤t.ck.aI)) (ol v.T);have:=h.nT;unfold xR;omega
 by_cases e:Bu s c2=s.aG.fin
 ·have hS:wO s v c1 c2=_:=(if_neg b).trans (if_pos e)
  have hW:Gw s v c1 c2=_:=(if_neg b).trans (if_pos e)
  rw[hS,hW] at hsd ⊢;exact⟨hsd,h.up,h.To,h.pos,h.nl,h.SQ,h.jK,h.FQ,h.nB,h.nO,h.LN,h.nE,h.RE,hT,h.SR,h.nQ,h.K0,hJ⟩
 ·have hS:wO s v c1 c2=_:=(if_neg b).trans (if_neg e)
  have hW:Gw s v c1 c2=_:=(if_neg b).trans (if_neg e)
  rw[hS,hW] at hsd ⊢;have rF:=dJ v.ns (Bu s c2).root
  have rJ:=dJ v.ns (Ge s c1).root
  have DE:=KI h.up hF rF.2
  have h1:=KL h.up DE
  have h2:=KL h.up hA
  have hz:=XD h.up DE
  have hlen:=FJ (ns:=v.ns) (aJ v.ns (Bu s c2).root)
  have RF:=h.nl
  refine⟨hsd,aBd h.up DE, ?_, ?_, ?_,h.SQ,h.jK,h.FQ,h.nB, ?_,h.LN,h.nE,h.RE,hT,h.SR,h.nQ,h.K0, ?_⟩
  ·rw[hz] at h1;show (nd (oE v.ns (aJ v.ns (Bu s c2).root) v.ns.length).1 0).up=-1
   rw[h1.2.2,if_pos rfl]
  ·have:=h1.2.1;have:=h1.1
   show 0<(oE v.ns (aJ v.ns (Bu s c2).root) v.ns.length).1.length
   omega
  ·show (((oE v.ns (aJ v.ns (Bu s c2).root) v.ns.length).1.length:Nat):Int)≤s.cFg.lS.rL
   omega
  ·show ((ol (nz _)).length:Int)≤s.cFg.lS.vQ
   rw[oH];have:=List.length_filter_le (fun b:Block=>decide ((wN s (Bu s c2).aI).1<b.slot)) (ol v.O);have:=h.nO;omega
  ·refine Ni h2.1 h2.2.1 ?_
   rw[h2.2.2];exact Wj _ _ hJ
noncomputable def Ci (v:SV) (b:Block):List Node:=v.ns++[⟨b,aJ v.ns b.parent,Tp b⟩]
noncomputable def Qk (s:aM) (v:SV) (b:Block):aM:={ s with tree:=⟨.sl (Ci v b).length (cF (Ci v b))⟩}
noncomputable def Nk (v:SV) (b:Block):SV:={ v with ns:=Ci v b }
noncomputable def K1 (s:aM) (v:SV) (b:Block):aM:=wO (Qk s v b) (Nk v b) b.dS b.fin
noncomputable def K2 (s:aM) (v:SV) (b:Block):SV:=Gw (Qk s v b) (Nk v b) b.dS b.fin
noncomputable def sC (s:aM) (v:SV) (b:Block):aM:=if mO s b.slot<mO s s.now then wO (K1 s v b) (K2 s v b) b.dV.pj b.dV.pf else K1 s v b
noncomputable def kU (s:aM) (v:SV) (b:Block):SV:=if mO s b.slot<mO s s.now then Gw (K1 s v b) (K2 s v b) b.dV.pj b.dV.pf else K2 s v b
theorem o9 (b:Block):RP (Tp b)=true:=by unfold Tp;split<;>rfl
theorem XO {s:aM} {v:SV} {q:Int} (h:GI s v q) {b:Block} (hb:Jx s v b=0):AG v.ns b (Tp b)=0∧(v.ns.length:Int)<s.cFg.lS.rL∧0≤aJ v.ns b.parent:=by
 unfold Jx at hb;by_cases g1:b.root=dT
 ·rw[if_pos g1] at hb;omega
 rw[if_neg g1] at hb;by_cases g2:KnB v b.root
 ·rw[if_pos g2] at hb;omega
 rw[if_neg g2] at hb;by_cases g3:s.now<b.slot
 ·rw[if_pos g3] at hb;omega
 rw[if_neg g3] at hb;by_cases g4:b.slot≤(wN s s.aG.fin.aI).1
 ·rw[if_pos g4] at hb;omega
 rw[if_neg g4] at hb;by_cases g5:aJ v.ns b.parent<0
 ·rw[if_pos g5] at hb;omega
 rw[if_neg g5] at hb;by_cases g6:b.slot≤(nd v.ns (aJ v.ns b.parent)).block.slot
 ·rw[if_pos g6] at hb;omega
 rw[if_neg g6] at hb;by_cases g7:(nd v.ns (aJ v.ns b.parent)).status=2
 ·rw[if_pos g7] at hb;omega
 rw[if_neg g7] at hb;by_cases g8:¬FH s v b
 ·rw[if_pos g8] at hb;omega
 rw[if_neg g8] at hb;by_cases g9:¬l9 s.cFg.AK (nd v.ns (aJ v.ns b.parent)).block b
 ·rw[if_pos g9] at hb;omega
 rw[if_neg g9] at hb;by_cases Sl:s.cFg.lS.rL≤(v.ns.length:Int)
 ·rw[if_pos Sl] at hb;omega
 have:=h.SQ
 refine⟨?_,by omega,by omega⟩
 unfold AG;rw[o9,if_neg (by simp),if_neg (fun h=>g2 (.inr h)),if_neg g5,if_neg g6,if_neg (by omega)]
theorem GI.Qk {s:aM} {v:SV} {q:Int} (h:GI s v q) {b:Block} (hb:(v.ns.length:Int)<s.cFg.lS.rL) (hp:0≤aJ v.ns b.parent):GI (Qk s v b) (Nk v b) q:=by
 have hlen:(Ci v b).length=v.ns.length+1:=by unfold Ci;simp
 have hnB:=h.SQ
 have hsd:SD (Tryz.Qk s v b) (Nk v b):=⟨h.sd.iA,h.sd.dR,h.sd.gT,h.sd.early,h.sd.bS,rfl,h.sd.tables,h.sd.eV,h.sd.tB,h.sd.nB,h.sd.nL,h.sd.nQ,h.sd.nE,h.sd.nO,h.sd.nT,by show ((Ci v b).length:Int)<1000000;omega⟩
 have rp:=dJ v.ns b.parent
 refine⟨hsd,fun i h0 h1=>?_, ?_, ?_, ?_,h.SQ,h.jK,h.FQ,h.nB,h.nO,h.LN,h.nE,h.RE,h.nT,h.SR,h.nQ,h.K0, ?_⟩
 ·have h1:i<((Ci v b).length:Int):=h1
  show 0≤(nd (Ci v b) i).up∧(nd (Ci v b) i).up<i
  by_cases hi:i<(v.ns.length:Int)
  ·unfold Ci;rw[Ip (by omega) hi];exact h.up i h0 hi
  ·unfold Ci;rw[CV (by omega)];exact⟨hp,by show aJ v.ns b.parent<i;omega⟩
 ·show (nd (Ci v b) 0).up=-1
  unfold Ci;rw[Ip (by omega) (by have:=h.pos;omega)];exact h.To
 ·show 0<(Ci v b).length;omega
 ·show ((Ci v b).length:Int)≤s.cFg.lS.rL;omega
 ·show 0≤aJ (Ci v b) s.aG.dS.root
  have rj:=dJ v.ns s.aG.dS.root
  refine Ni h.dS (by omega) ?_
  unfold Ci;rw[Ip h.dS rj.2];exact Wj _ _ h.dS
theorem GI.ins {s:aM} {v:SV} {q:Int} (h:GI s v q) {b:Block} (hb:Jx s v b=0):GI (sC s v b) (kU s v b) q:=by
 obtain⟨_,h2,h3⟩:=XO h hb
 have g1:=h.Qk h2 h3
 have g2:=g1.dP b.dS b.fin
 unfold sC kU;split
 ·exact g2.dP _ _
 ·exact g2
theorem Al (s:aM) (v:SV) (b:Block):(sC s v b).cFg=s.cFg∧(sC s v b).now=s.now:=by
 unfold sC;split
 ·rw[vR,Nj];unfold K1;rw[vR,Nj];exact⟨rfl,rfl⟩
 ·unfold K1;rw[vR,Nj];exact⟨rfl,rfl⟩
theorem aJU {s:aM} {v:SV} {q:Int} (h:GI s v q) {b:Block} (hb:Jx s v b=0):aB Tryz.prog 217 [.agg (aA s),.agg (aU b)]=some (.agg (aA (sC s v b))):=by
 obtain⟨h1,h2,h3⟩:=XO h hb
 have g1:=h.Qk h2 h3
 have g2:=g1.dP b.dS b.fin
 have hi:Gm v.ns b (Tp b)=.eE [.agg (cD ⟨Ci v b⟩),.v (.int .i64 0)]:=if_pos h1
 have K3:=aNF v.ns h.sd.nn b (Tp b)
 rw[hi] at K3
 have k61a:=k61 g1.sd g1.up g1.sp b.dS b.fin
 have k61b:=k61 g2.sd g2.up g2.sp b.dV.pj b.dV.pf
 have hcfg:(wO (Tryz.Qk s v b) (Nk v b) b.dS b.fin).cFg.jK=s.cFg.jK:=by rw[vR];rfl
 have Ec:(wO (Tryz.Qk s v b) (Nk v b) b.dS b.fin).now=s.now:=by rw[Nj];rfl
 have hep:∀x,mO (wO (Tryz.Qk s v b) (Nk v b) b.dS b.fin) x=mO s x:=fun x=>by unfold mO;rw[hcfg]
 have k98':=sA (wO (Tryz.Qk s v b) (Nk v b) b.dS b.fin) g2.sp g2.sd.flat
 have e1:({ cFg:=s.cFg,eZ:=s.eZ,aG:=s.aG,dZ:=s.dZ,tree:=⟨.sl (Ci v b).length (cF (Ci v b))⟩,now:=s.now,iK:=s.iK,tables:=s.tables }:aM)=Tryz.Qk s v b:=rfl
 rw[cL Tryz.func217 rfl aJW rfl];refine jB ?_
 by_cases c:mO s b.slot<mO s s.now
 ·have hv:sC s v b=_:=if_pos c
  have FR:=(g2.dP b.dV.pj b.dV.pf).sd.flat
  simp only[Z8,seval,h.sd.tree,aJB,K3,dM,e1,k61a,k98',hep,Ec,c,k61b];exact⟨_,fI rfl (by simp only[E8,seval,FR]<;>rfl) (by simp only[Z8,seval,FR]<;>rfl) (by simp only[eA,and_self,FR]),by rw[hv];rfl⟩
 ·have hv:sC s v b=_:=if_neg c
  have FR:=g2.sd.flat
  simp only[Z8,seval,h.sd.tree,aJB,K3,dM,e1,k61a,k98',hep,Ec,c];exact⟨_,fI rfl (by simp only[E8,seval,FR]<;>rfl) (by simp only[Z8,seval,FR]<;>rfl) (by simp only[eA,and_self,FR]),by rw[hv];rfl⟩
theorem Ql {L:List Block} {k:Nat} (hk:k≤L.length) (a g:Nat):∃X,(∀(st:St) (hi:Operand),st.ev hi=.v (.int .i64 k)→st.heap a g=some (.row 74 238 L.length (aL L))→dL Tryz.prog st 45 (.own a g) none (some hi)=some X) ∧
 (∀st:St,st.heap a g=some (.row 74 238 L.length (aL L))→aT st X=some ((L.take k).length,aL (L.take k))):=by
 have hl:(L.take k).length=k:=by simp;omega
 by_cases h0:k=0∧L.length=0
 ·obtain⟨rfl,h1⟩:=h0
  refine⟨.sl 0 [],fun st hi he hh=>?_,fun st hh=>by simp[aT,aL]⟩
  simp[dL,oF,hh,he,h1]
 ·refine⟨.vw a g 0 k,fun st hi he hh=>?_,fun st hh=>?_⟩
  ·have:¬((0:Int)=k∧¬((0:Int)=0∧0<L.length)):=by omega
   have h2:(0:Int)≤k∧(k:Int)≤L.length:=by omega
   simp only[dL,oF,hh,he,if_neg this,h2,Int.le_refl,and_self,if_true];simp
   intro h3 h4;rw[h4] at h0;simp at h0
   omega
  ·have hb:k * 238≤(aL L).length:=by rw[Am];exact Nat.mul_le_mul_right _ hk
   have:=An (c:=aU) (sz:=238) bN L k
   simp only[aT,hh,Nat.zero_add,hb,if_true,List.drop_zero,hl];exact congrArg (fun z=>some (k,z)) this
theorem Cj {L:List Block} {k:Nat} (hk:k≤L.length) (a g:Nat):∃X,(∀(st:St) (lo:Operand),st.ev lo=.v (.int .i64 k)→st.heap a g=some (.row 74 238 L.length (aL L))→dL Tryz.prog st 45 (.own a g) (some lo) none=some X) ∧
 (∀st:St,st.heap a g=some (.row 74 238 L.length (aL L))→aT st X=some ((L.drop k).length,aL (L.drop k))):=by
 have hl:(L.drop k).length=L.length-k:=by simp
 by_cases h0:k=L.length
 ·by_cases hz:0<k
  ·refine⟨.sl 0 [],fun st lo he hh=>?_,fun st hh=>by rw[h0];simp[aT,aL]⟩
   have:(k:Int)=L.length∧¬((k:Int)=0∧0<L.length):=by omega
   have h2:(0:Int)≤k∧(k:Int)≤L.length:=by omega
   simp only[dL,oF,hh,he,if_pos this,h2,Int.le_refl,and_self,if_true]
  ·refine⟨.sl 0 [],fun st lo he hh=>?_,fun st hh=>by rw[h0];simp[aT,aL]⟩
   have:(k:Int)=L.length∧¬((k:Int)=0∧0<L.length):=by omega
   have h2:(0:Int)≤k∧(k:Int)≤L.length:=by omega
   simp only[dL,oF,hh,he,if_pos this,h2,Int.le_refl,and_self,if_true]
 ·refine⟨.vw a g (k * 238) (L.length-k),fun st lo he hh=>?_,fun st hh=>?_⟩
  ·have h1:¬((k:Int)=L.length∧¬((k:Int)=0∧0<L.length)):=by omega
   have h2:((L.length:Int)-(k:Int)).toNat=L.length-k:=by omega
   have h3:(0:Int)≤k∧(k:Int)≤L.length:=by omega
   simp only[dL,oF,hh,he,if_neg h1,h3,Int.le_refl,and_self,if_true,h2,Int.toNat_natCast]
  ·have hb:k * 238+(L.length-k) * 238≤(aL L).length:=by rw[Am,← Nat.add_mul];exact Nat.mul_le_mul_right _ (by omega)
   have:=Ao (c:=aU) (sz:=238) bN L k
   have h3:((aL L).drop (k * 238)).length=(L.length-k) * 238:=by rw[List.length_drop,Am,Nat.sub_mul]
   simp only[aT,hh,hb,if_true,hl];rw[List.take_of_length_le (by omega)]
   exact congrArg (fun z=>some (L.length-k,z)) this
theorem GI.iK {s:aM} {v:SV} {q:Int} (h:GI s v q) (r:bX):GI { s with iK:=r } v q :=
 ⟨⟨h.sd.iA,h.sd.dR,h.sd.gT,h.sd.early,h.sd.bS,h.sd.tree,h.sd.tables,h.sd.eV,h.sd.tB,h.sd.nB,h.sd.nL,h.sd.nQ,h.sd.nE,h.sd.nO,h.sd.nT,h.sd.nn⟩,h.up,h.To,h.pos,h.nl,h.SQ,h.jK,h.FQ,h.nB,h.nO,h.LN,h.nE,h.RE,h.nT,h.SR,h.nQ,h.K0,h.dS⟩
def mC (s:aM) (x:AV):aM:={ s with dZ:={ s.dZ with bS:=x }}
theorem GI.SS {s:aM} {v:SV} {q:Int} (h:GI s v q) (O:Option (List Block)) (hO:((ol O).length:Int)≤s.cFg.lS.vQ):GI (mC s (ov aL O)) { v with O:=O } q :=
 ⟨⟨h.sd.iA,h.sd.dR,h.sd.gT,h.sd.early,rfl,h.sd.tree,h.sd.tables,h.sd.eV,h.sd.tB,h.sd.nB,h.sd.nL,h.sd.nQ,h.sd.nE,by have:=h.LN;show ((ol O).length:Int)<1000000;omega,h.sd.nT,h.sd.nn⟩,h.up,h.To,h.pos,h.nl,h.SQ,h.jK,h.FQ,h.nB,hO,h.LN,h.nE,h.RE,h.nT,h.SR,h.nQ,h.K0,h.dS⟩
theorem SU (s:aM) (v:SV) (c1 c2:fB):(ol (Gw s v c1 c2).O).length≤(ol v.O).length:=by
 unfold Gw;split
 ·exact Nat.le_refl _
 split
 ·exact Nat.le_refl _
 ·show (ol (nz _)).length≤_
  rw[oH];exact List.length_filter_le _ _
theorem SW (s:aM) (v:SV) (b:Block):(ol (kU s v b).O).length≤(ol v.O).length:=by
 unfold kU;split
 ·exact Nat.le_trans (SU _ _ _ _) (SU _ _ _ _)
 ·exact SU _ _ _ _
theorem yQ {s:aM} {v:SV} (h:SD s v) {O:List Block} {a g:Nat} (st:St) (hh:st.heap a g=some (.row 74 238 O.length (aL O))):fV st (.agg (aA (mC s (.own a g))))=some (.agg (aA (mC s (ov aL (some O))))):=by
 have oD:=h.fl
 unfold mC;simp only[bM,gD,bG,hh,tJ,cY,eA,oD,cN];rfl
def Rg (x:Int):Prop:=0≤x∧x<18446744073709551616
structure RB (b:Block):Prop where
 sl:Rg b.slot
 j:Rg b.dS.aI
 f:Rg b.fin.aI
 pj:Rg b.dV.pj.aI
 pf:Rg b.dV.pf.aI
def Pr (r:bX):Prop:=r≠dT∧r≠mkRoot 99
theorem Wk {α:Type} (l:List α):nz l≠some []:=by
 unfold nz;split
 ·nofun
 ·rename_i h;intro e;injection e with e;exact h e
structure NEv (v:SV):Prop where
 q:v.Q≠some []
 e:v.E≠some []
 o:v.O≠some []
 t:v.T≠some []
 ea:∀a∈ol v.E,∃V,a.dX=ov aH (some V)∧V≠[]
 tb:∀t∈ol v.T,∃B,t.iA=ov bH (some B)∧B≠[]
structure RG (s:aM) (v:SV):Prop where
 now:0≤s.now∧s.now≤1099511627776
 j:Rg s.aG.dS.aI
 f:Rg s.aG.fin.aI
 nd:∀n∈v.ns,RB n.block∧n.block.slot≤s.now
 or:∀b∈ol v.O,RB b∧Pr b.root
 rt:∀n∈v.ns,Pr n.block.root
 fe:s.aG.fin.aI≤s.aG.dS.aI∧s.aG.dS.aI≤mO s s.now
 ds:(v.ns.map fun n=>n.block.root).Nodup
 tb:∃t∈ol v.T,t.ck=s.aG.dS
 ne:NEv v
theorem FU {ns:List Node} {i:Int} (h0:0≤i) (h1:i<ns.length):nd ns i∈ns:=by
 obtain⟨h,e⟩:=Ku h0 h1
 rw[e];exact List.getElem_mem h
theorem Uu (ns:List Node) (i:Int):∀k:Nat,k≤ns.length→∀n∈(oE ns i k).1,∃a∈ns,n.block=a.block∧n.status=a.status
 | 0,_,n,hn=>by simp[oE] at hn
 | k+1,hk,n,hn=>by
   unfold oE at hn;simp only at hn
   split at hn
   ·rcases List.mem_append.1 hn with hn|hn
    ·exact Uu ns i k (by omega) n hn
    ·rw[List.mem_singleton] at hn;subst hn;exact⟨nd ns k,FU (by omega) (by omega),rfl,rfl⟩
   ·exact Uu ns i k (by omega) n hn
theorem XP (ns:List Node) (i:Int):∀k:Nat,k≤ns.length→((oE ns i k).1.map (·.block)).Sublist ((ns.take k).map (·.block))
 | 0,_=>by simp[oE]
 | k+1,hk=>by
   have ih:=XP ns i k (by omega)
   have e:ns.take (k+1)=ns.take k++[nd ns k]:=by
    rw[List.take_succ_eq_append_getElem (by omega)]
    have h:k<ns.length:=by omega
    simp[Go.Ab.nd,h]
   unfold oE;simp only
   rw[e,List.map_append];split
   ·rw[List.map_append];exact ih.append (by simp)
   ·exact ih.trans (List.sublist_append_left ..)
theorem p4 {ns:List Node} (h:(ns.map fun n=>n.block.root).Nodup) (i:Int):((oE ns i ns.length).1.map fun n=>n.block.root).Nodup:=by
 have h1:=(XP ns i ns.length (Nat.le_refl _)).map (·.root)
 rw[List.take_length] at h1;simp only[List.map_map] at h1;exact h.sublist h1
theorem RG.dP {s:aM} {v:SV} (r:RG s v) {c1 c2:fB} (r1:Rg c1.aI) (r2:Rg c2.aI):RG (wO s v c1 c2) (Gw s v c1 c2):=by
 have hJ:Rg (Ge s c1).aI:=by unfold Ge;split;exact r1;exact r.j
 have hF:Rg (Bu s c2).aI:=by unfold Bu;split;exact r2;exact r.f
 by_cases b:cS s v (Ge s c1) (Bu s c2)
 ·rw[show wO s v c1 c2=s from if_pos b,show Gw s v c1 c2=v from if_pos b];exact r
 have fe:(Bu s c2).aI≤(Ge s c1).aI∧(Ge s c1).aI≤mO s s.now:=by
  unfold cS at b;simp only[not_or] at b;obtain⟨_,_,_,_,_,_,_,b8,b9,_⟩:=b
  omega
 have tb:∃t∈ol (nz (xR (ol v.T) (Ge s c1).aI)),t.ck=Ge s c1:=by
  unfold cS at b;simp only[not_or] at b;obtain⟨_,_,_,_,_,_,_,_,_,b10⟩:=b
  unfold SL at b10;rcases Dv (fun k=>(gx iT (ol v.T) k).ck=Ge s c1) (ol v.T).length with ⟨e,_⟩|⟨k,h1,h2,_,h3⟩
  ·rw[e] at b10;omega
  ·refine⟨gx iT (ol v.T) k, ?_,h2⟩
   rw[oH];refine List.mem_filter.2 ⟨tI (by omega) (by omega),decide_eq_true ?_⟩
   rw[h2];exact Int.le_refl _
 by_cases e:Bu s c2=s.aG.fin
 ·rw[show wO s v c1 c2=_ from (if_neg b).trans (if_pos e),show Gw s v c1 c2=_ from (if_neg b).trans (if_pos e)];exact⟨r.now,hJ,hF,r.nd,r.or,r.rt,fe,r.ds,tb,⟨r.ne.q,r.ne.e,r.ne.o,Wk _,r.ne.ea,fun t ht=>r.ne.tb t (by have ht:t∈ol (nz (xR (ol v.T) (Ge s c1).aI)):=ht;rw[oH] at ht;exact (List.mem_filter.1 ht).1)⟩⟩
 ·rw[show wO s v c1 c2=_ from (if_neg b).trans (if_neg e),show Gw s v c1 c2=_ from (if_neg b).trans (if_neg e)];refine⟨r.now,hJ,hF,fun n hn=>?_,fun o ho=>?_,fun n hn=>?_,fe,p4 r.ds _,tb,⟨r.ne.q,r.ne.e,Wk _,Wk _,r.ne.ea,fun t ht=>r.ne.tb t (by have ht:t∈ol (nz (xR (ol v.T) (Ge s c1).aI)):=ht;rw[oH] at ht;exact (List.mem_filter.1 ht).1)⟩⟩
  ·obtain⟨a,ha,e1,_⟩:=Uu _ _ _ (Nat.le_refl _) n hn
   rw[e1];exact r.nd a ha
  ·have ho:o∈ol (nz ((ol v.O).filter fun b=>decide ((wN s (Bu s c2).aI).1<b.slot))):=ho
   rw[oH] at ho;exact r.or o (List.mem_filter.1 ho).1
  ·obtain⟨a,ha,e1,_⟩:=Uu _ _ _ (Nat.le_refl _) n hn
   rw[e1];exact r.rt a ha
theorem K4 {s:aM} {v:SV} {b:Block} (hb:Jx s v b=0∨Jx s v b=10):b.slot≤s.now:=by
 unfold Jx at hb;by_cases g1:b.root=dT
 ·rw[if_pos g1] at hb;omega
 rw[if_neg g1] at hb;by_cases g2:KnB v b.root
 ·rw[if_pos g2] at hb;omega
 rw[if_neg g2] at hb;by_cases g3:s.now<b.slot
 ·rw[if_pos g3] at hb;omega
 ·omega
theorem aBq {s:aM} {v:SV} {b:Block} (hb:Jx s v b=0):aJ v.ns b.root<0:=by
 rcases Int.lt_or_le (aJ v.ns b.root) 0 with h|h
 ·exact h
 ·unfold Jx at hb;by_cases g1:b.root=dT
  ·rw[if_pos g1] at hb;omega
  ·rw[if_neg g1,if_pos (.inr h)] at hb;omega
theorem p5 {ns:List Node} {r:bX} (h:aJ ns r<0):r ∉ ns.map fun n=>n.block.root:=by
 intro hm;obtain⟨n,hn,e⟩:=List.mem_map.1 hm
 obtain⟨k,hk,rfl⟩:=List.getElem_of_mem hn
 have:0≤aJ ns r:=Ni (j:=(k:Int)) (by omega) (by omega) (by
  have:Go.Ab.nd ns (k:Int)=ns[k]:=by simp[Go.Ab.nd,hk]
  rw[this];exact e)
 omega
theorem RG.ins {s:aM} {v:SV} (r:RG s v) {b:Block} (rb:RB b∧Pr b.root) (hc:Jx s v b=0):RG (sC s v b) (kU s v b):=by
 have hs:=K4 (.inl hc)
 have g1:RG (Tryz.Qk s v b) (Nk v b):=⟨r.now,r.j,r.f,fun n hn=>by
  rcases List.mem_append.1 (show n∈v.ns++[⟨b,aJ v.ns b.parent,Tp b⟩] from hn) with hn|hn
  ·exact r.nd n hn
  ·rw[List.mem_singleton] at hn;subst hn;exact⟨rb.1,hs⟩,r.or,fun n hn=>by
  rcases List.mem_append.1 (show n∈v.ns++[⟨b,aJ v.ns b.parent,Tp b⟩] from hn) with hn|hn
  ·exact r.rt n hn
  ·rw[List.mem_singleton] at hn;subst hn;exact rb.2,r.fe,by
  show ((v.ns++[(⟨b,aJ v.ns b.parent,Tp b⟩:Node)]).map fun n:Node=>n.block.root).Nodup
  rw[List.map_append];refine List.nodup_append.2 ⟨r.ds,by simp,fun x hx y hy=>?_⟩
  simp only[List.map_cons,List.map_nil,List.mem_singleton] at hy;rintro rfl
  exact p5 (aBq hc) (hy ▸ hx),r.tb,⟨r.ne.q,r.ne.e,r.ne.o,r.ne.t,r.ne.ea,r.ne.tb⟩⟩
 have g2:=g1.dP rb.1.j rb.1.f
 unfold sC kU;split
 ·exact RG.dP g2 rb.1.pj rb.1.pf
 ·exact g2
theorem RG.SS {s:aM} {v:SV} (r:RG s v) (O:Option (List Block)) (x:AV) (h:∀b∈ol O,RB b∧Pr b.root) (hO:O≠some []):RG (mC s x) { v with O:=O }:=⟨r.now,r.j,r.f,r.nd,h,r.rt,r.fe,r.ds,r.tb,⟨r.ne.q,r.ne.e,hO,r.ne.t,r.ne.ea,r.ne.tb⟩⟩
theorem RG.iK {s:aM} {v:SV} (r:RG s v) (x:bX):RG { s with iK:=x } v:=⟨r.now,r.j,r.f,r.nd,r.or,r.rt,r.fe,r.ds,r.tb,r.ne⟩
theorem GI.mono {s:aM} {v:SV} {q q':Int} (h:GI s v q) (h1:q≤q') (h2:q'≤900000):GI s v q' :=
 ⟨h.sd,h.up,h.To,h.pos,h.nl,h.SQ,h.jK,h.FQ,h.nB,h.nO,h.LN,h.nE,h.RE,h.nT,h.SR,by have:=h.nQ;omega,h2,h.dS⟩
theorem Ir:Flat (.agg (aA gC)):=by simp only[eA,gC,nC,Kz,Ea,Qj,and_self]
def StR (s:aM) (q:Int) (r:AV):Prop:=∃(s':aM) (e:Int),r=.eE [.agg (aA s'),.v (.int .i64 e)]∧Flat (.agg (aA s'))∧e≠21∧(e=0→∃v',GI s' v' q∧RG s' v'∧s'.cFg=s.cFg)
def StN (s:aM) (v:SV) (q:Int) (r:AV):Prop:=∃(s':aM) (e:Int),r=.eE [.agg (aA s'),.v (.int .i64 e)]∧Flat (.agg (aA s'))∧e≠21∧(e=0→∃v',GI s' v' q∧RG s' v'∧s'.cFg=s.cFg∧v'.ns=v.ns)
theorem aFn (s:aM) (v:SV) (b:Block):Jx s v b≠21:=by
 unfold Jx;repeat (split;simp)
 simp
theorem zP (x:Int) (h1:0≤x) (h2:x<18446744073709551616):IntKind.u64.wrap x=x:=by
 unfold IntKind.wrap;simp[IntKind.signed,IntKind.bits]
 omega
theorem K5 {x:Int} (h0:0≤x) (h1:x<18446744073709551616):IntKind.u64.wrap ((BitVec.ofInt IntKind.u64.bits x &&& BitVec.ofInt IntKind.u64.bits 4294967295).toNat:Int)=x % 4294967296:=by
 obtain⟨n,rfl⟩:=Int.eq_ofNat_of_zero_le h0
 have hn:n<18446744073709551616:=by omega
 have e:(BitVec.ofInt IntKind.u64.bits (n:Int) &&& BitVec.ofInt IntKind.u64.bits 4294967295).toNat=n % 4294967296:=by
  rw[BitVec.toNat_and];have e1:(BitVec.ofInt IntKind.u64.bits (n:Int)).toNat=n:=by
   rw[BitVec.toNat_ofInt];show ((n:Int) % ((2 ^ 64:Nat):Int)).toNat=n
   omega
  have e2:(BitVec.ofInt IntKind.u64.bits 4294967295).toNat=2 ^ 32-1:=by decide
  rw[e1,e2,Nat.and_two_pow_sub_one_eq_mod]
 rw[e,zP _ (by omega) (by omega)]
 omega
theorem LO (x:Int) (h0:0≤x):x.fdiv (2 ^ min 32 IntKind.u64.bits)=x / 4294967296:=by
 have e:(2:Int) ^ min 32 IntKind.u64.bits=4294967296:=by decide
 rw[e,Int.fdiv_eq_ediv_of_nonneg _ (by omega)]
theorem aJY:bI Tryz.f187=true:=by kernel_rfl
theorem aOO {x y:Int} (x0:0≤x) (x1:x<18446744073709551616) (y0:0≤y) (y1:y≤64):aB Tryz.prog 187 [.v (.int .u64 x),.v (.int .u64 y)]=some (.eE [.v (.int .u64 (x * y / 18446744073709551616)),.v (.int .u64 (IntKind.u64.wrap (x * y)))]):=by
 have a1:=K5 x0 x1
 have a2:=K5 y0 (by omega)
 have s1:=LO x x0
 have s2:=LO y y0
 have hy:y % 4294967296=y:=by omega
 have hy1:y / 4294967296=0:=by omega
 rw[hy] at a2;rw[hy1] at s2;obtain⟨p,hp⟩:∃p,p=x % 4294967296:=⟨_,rfl⟩
 obtain⟨r,hr⟩:∃r,r=x / 4294967296:=⟨_,rfl⟩
 have hx:x=r * 4294967296+p:=by omega
 have p0:0≤p∧p<4294967296:=by omega
 have r0:0≤r∧r<4294967296:=by omega
 rw[← hp] at a1;rw[← hr] at s1;have py:0≤p * y∧p * y≤4294967296 * 64:=⟨Int.mul_nonneg p0.1 y0,Int.mul_le_mul (by omega) y1 y0 (by omega)⟩
 have ry:0≤r * y∧r * y≤4294967295 * 64:=⟨Int.mul_nonneg r0.1 y0,Int.mul_le_mul (by omega) y1 y0 (by omega)⟩
 obtain⟨A,hA⟩:∃A,A=p * y:=⟨_,rfl⟩
 obtain⟨B,hB⟩:∃B,B=r * y:=⟨_,rfl⟩
 have hxy:x * y=B * 4294967296+A:=by rw[hx,Int.add_mul,Int.mul_right_comm,← hA,← hB]
 rw[← hA] at py;rw[← hB] at ry;have w1:IntKind.u64.wrap A=A:=zP _ (by omega) (by omega)
 have w2:IntKind.u64.wrap B=B:=zP _ (by omega) (by omega)
 have s3:=LO A (by omega)
 obtain⟨C,hC⟩:∃C,C=B+A / 4294967296:=⟨_,rfl⟩
 have w3:IntKind.u64.wrap (B+A / 4294967296)=C:=by rw[zP _ (by omega) (by omega),hC]
 have a3:=K5 (x:=C) (by omega) (by omega)
 have s4:=LO C (by omega)
 have s5:=LO (C % 4294967296) (by omega)
 have w4:IntKind.u64.wrap (C % 4294967296)=C % 4294967296:=zP _ (by omega) (by omega)
 have w5:IntKind.u64.wrap 0=0:=rfl
 have z5:C % 4294967296 / 4294967296=0:=by omega
 have w6:IntKind.u64.wrap (C / 4294967296)=C / 4294967296:=zP _ (by omega) (by omega)
 have FR:x * y / 18446744073709551616=C / 4294967296:=by rw[hxy,hC];omega
 rw[FR];rw[cL Tryz.func187 rfl aJY rfl];simp only[Z8,seval,a1,a2,s1,s2,← hA,← hB,w1,w2,s3,w3,a3,s4,Int.mul_zero,w5,Int.add_zero,w4,s5,z5,Int.zero_add,w6];exact dC rfl rfl rfl (by simp only[E8,seval]<;>rfl) (by simp only[E8,seval]<;>rfl)
theorem aOP (n:Int):aB Tryz.prog 152 [.v (.int .u64 n)]=some (.v (.bool (decide (1≤n) && decide (n≤64)))):=by
 rw[cL Tryz.func152 rfl aJ0 rfl];by_cases h:1≤n
 all_goals
  simp only[Z8,seval,h,decide_true,decide_false,Bool.true_and,Bool.false_and];exact bP rfl (by simp only[E8,seval,h,decide_true,decide_false,Bool.true_and,Bool.false_and]<;>rfl) (.v _)
theorem aFo (n:Int) (st:St) (d:Option Nat):aN (aB Tryz.prog) 152 [.v (.int .u64 n)] st d=some { dst:=d,val:=.v (.bool (decide (1≤n) && decide (n≤64)))}:=bF (cK (.v _)) (aOP n) (.v _)
theorem c95 {e p:Int} (e0:0≤e) (e1:e<18446744073709551616):aB Tryz.prog 95 [.v (.int .u64 e),.v (.int .u64 p)]=some (.eE [.v (.int .u64 (Kp e p).1),.v (.int .i64 (Kp e p).2)]):=by
 unfold Kp;by_cases h:1≤p∧p≤64
 ·have h1:(decide (1≤p) && decide (p≤64))=true:=by simp[h]
  rw[if_pos h];have k187:=kx (aOO e0 e1 (y:=p) (by omega) h.2) (bA (.v _) (.v _)) (.eE _ (bA (.v _) (.v _)))
  have c153:aB Tryz.prog 153 [.v (.int .u64 e),.v (.int .u64 p)]=some (.eE [.v (.int .u64 (AH e p).1),.v (.int .i64 (AH e p).2)]):=by
   rw[cL Tryz.func153 rfl aJ1 rfl];have ht:Int.tdiv 18446744073709551615 p=18446744073709551615 / p:=Int.tdiv_eq_ediv_of_nonneg (by omega)
   have hd:(18446744073709551615 / p<e)↔18446744073709551615<e * p:=Int.ediv_lt_iff_lt_mul (by omega)
   have hm:0≤e * p:=Int.mul_nonneg e0 (by omega)
   have hq:=Int.ediv_le_self p (show (0:Int)≤18446744073709551615 by omega)
   have hq0:=Int.ediv_nonneg (show (0:Int)≤18446744073709551615 by omega) (show 0≤p by omega)
   have hw:IntKind.u64.wrap (18446744073709551615 / p)=18446744073709551615 / p:=zP _ hq0 (by omega)
   have hp0:p≠0:=by omega
   unfold AH;rw[ht,hw];by_cases g:e * p / 18446744073709551616=0
   ·rw[if_neg (fun k=>by have:=hd.1 k.2;omega)]
    simp only[Z8,seval,k187,dM,bt g];exact dC rfl rfl rfl (by simp only[E8,seval]<;>rfl) (by simp only[E8,seval]<;>rfl)
   ·rw[if_pos ⟨hp0,hd.2 (by omega)⟩]
    simp only[Z8,seval,k187,dM,bf g];exact dC rfl rfl rfl (by simp only[E8,seval]<;>rfl) (by simp only[E8,seval]<;>rfl)
  have k153:=kx c153 (bA (.v _) (.v _)) (.eE _ (bA (.v _) (.v _)))
  rw[cL Tryz.func95 rfl aJ2 rfl];simp only[Z8,seval,aFo,h1,k153,dM];exact dC rfl rfl rfl (by simp only[E8,seval]<;>rfl) (by simp only[E8,seval]<;>rfl)
 ·have h1:(decide (1≤p) && decide (p≤64))=false:=by
   rw[Bool.eq_false_iff];intro k;simp at k;exact h k
  rw[if_neg h];rw[cL Tryz.func95 rfl aJ2 rfl];simp only[Z8,seval,aFo,h1];exact dC rfl rfl rfl (by simp only[E8,seval]<;>rfl) (by simp only[E8,seval]<;>rfl)
theorem k95 {e p:Int} (h:Rg e) (st:St) (d:Option Nat):aN (aB Tryz.prog) 95 [.v (.int .u64 e),.v (.int .u64 p)] st d=some { dst:=d,val:=.eE [.v (.int .u64 (Kp e p).1),.v (.int .i64 (Kp e p).2)]}:=bF (bA (.v _) (.v _)) (c95 h.1 h.2) (.eE _ (bA (.v _) (.v _)))
theorem c94 {s:aM} (h:1≤s.cFg.jK∧s.cFg.jK≤64) (x:Int):aB Tryz.prog 94 [.v (.int .u64 x),.v (.int .u64 s.cFg.jK)]=some (.eE [.v (.int .u64 (mO s x)),.v (.int .i64 0)]):=by
 have h1:(decide (1≤s.cFg.jK) && decide (s.cFg.jK≤64))=true:=by simp[h]
 have h0:(s.cFg.jK=0)=False:=eq_false (by omega)
 rw[cL Tryz.func94 rfl aOR rfl];simp only[Z8,seval,aFo,h1,h0];exact dC rfl rfl rfl (by simp only[E8,seval,mO]<;>rfl) (by simp only[E8,seval,mO]<;>rfl)
theorem k94 {s:aM} (h:1≤s.cFg.jK∧s.cFg.jK≤64) (x:Int) (st:St) (d:Option Nat):aN (aB Tryz.prog) 94 [.v (.int .u64 x),.v (.int .u64 s.cFg.jK)] st d=some { dst:=d,val:=.eE [.v (.int .u64 (mO s x)),.v (.int .i64 0)]}:=bF (bA (.v _) (.v _)) (c94 h x) (.eE _ (bA (.v _) (.v _)))
theorem aBr (o:Option (List bX)) (hn:((ol o).length:Int)<1000000) (r:bX):∃x,aB Tryz.prog 250 [ov gP o,.agg (aY r)]=some x∧∃b:Bool,x=.v (.bool b):=by
 rw[cL Tryz.func250 rfl aJ3 (by cases o<;>rfl)]
 simp only[Z8,seval];refine cJ (fun m st=>∃k:Nat,(st.env 0=ov gP o∧st.env 3=.ptr 3 0 0∧st.heap 3 0=some (.cells (aY r))∧st.env 5=.v (.int .i64 k))∧(∀j:Nat,j<k→¬(gx dT (ol o) (j:Int)=r))∧k≤(ol o).length∧m=(ol o).length-k)
  (fun e st=>(e=.ret∧∃k:Nat,k<(ol o).length∧(gx dT (ol o) (k:Int)=r)∧(∀j:Nat,j<k→¬(gx dT (ol o) (j:Int)=r))∧st.env 4=.v (.bool true))∨(e=.exit 0∧(∀j:Nat,j<(ol o).length→¬(gx dT (ol o) (j:Int)=r))∧st.env 0=ov gP o∧st.env 3=.ptr 3 0 0∧st.heap 3 0=some (.cells (aY r)))) ((ol o).length) ?step ?start ?rest
 case step =>
  rintro m st ⟨k,hI,hj,hk,hm⟩
  by_cases aZ:(k:Int)<(ol o).length
  ·have q0:(0:Int)≤k:=by omega
   have hw:IntKind.i64.wrap ((k:Int)+1)=((k+1:Nat):Int):=by rw[pV _ (by omega) (by omega)];omega
   by_cases hh:gx dT (ol o) (k:Int)=r
   ·apply oT (.ret)
    ·simp only[Z8,seval,hI,aZ,q0,hh];rfl
    ·exact .inl ⟨rfl,k,by omega,hh,hj,by simp only[E8,seval]⟩
   ·apply oN ((ol o).length-(k+1))
    ·simp only[Z8,seval,hI,aZ,q0,hh,hw];rfl
    ·exact⟨k+1,by simp only[E8,seval,hI],fun j h=>(Nat.lt_succ_iff_lt_or_eq.1 h).elim (hj j) fun e=>by subst e;exact hh,by omega,rfl⟩
  ·apply oT (.exit 0)
   ·simp only[Z8,seval,hI,aZ];rfl
   ·exact .inr ⟨rfl,fun j h=>hj j (by omega),by simp only[E8,seval,hI]⟩
 case start=>exact⟨0,by simp only[E8,seval]<;>rfl,fun j h=>by omega,by omega,by omega⟩
 case rest =>
  rintro e st (⟨rfl,k,hk,hh,hj,h⟩|⟨rfl,hj,hI⟩)
  ·simp only[Z8,seval];exact⟨_,bP rfl (by simp only[E8,seval,h]<;>rfl) (by first|exact .v _|simp only[eA,h]),_,rfl⟩
  ·simp only[Z8,seval];exact⟨_,bP rfl (by simp only[E8,seval]<;>rfl) (by first|exact .v _|simp only[eA]),_,rfl⟩
theorem p6 (l:List Table) (c:fB):-1≤SL l c∧SL l c<l.length:=SK _ _
theorem aOS {s:aM} {v:SV} (hs:SD s v):∃x,aB Tryz.prog 239 [.agg (aA s)]=some x∧∃o:Option (List Int),x=ov bH o∧((ol o).length:Int)<1000000:=by
 have xE:=hs.fT
 rw[cL Tryz.func239 rfl aJ4 rfl];have r1:=p6 (ol v.T) s.aG.dS
 by_cases g1:SL (ol v.T) s.aG.dS<0
 ·simp only[Z8,seval,hs.tables,yM _ hs.nT xE,g1];exact⟨_,bP rfl (by simp only[E8,seval]<;>rfl) (by first|exact .v _|simp only[eA]),none,rfl,by simp[ol]⟩
 have q0:0≤SL (ol v.T) s.aG.dS:=by omega
 obtain⟨b,hb,hl⟩:=hs.tB _ (tI (z:=iT) q0 r1.2)
 simp only[Z8,seval,hs.tables,yM _ hs.nT xE,g1,q0,r1,hb];exact⟨_,bP rfl (by simp only[E8,seval,hb]<;>rfl) (dU b),b,rfl,hl⟩
theorem aOT (a b:Claim) (ha:Flat a.dX) (hb:Flat b.dX):∃x,aB Tryz.prog 234 [.agg (gM a),.agg (gM b)]=some x∧∃c:Bool,x=.v (.bool c):=by
 rw[cL Tryz.func234 rfl aJ5 rfl];by_cases g1:a.target=b.target
 ·by_cases g2:a.source=b.source
  ·by_cases g3:a.root=b.root
   all_goals
    have g4:¬a.source<b.source:=by omega
    have g5:¬b.source<a.source:=by omega
    simp only[Z8,seval,bt g1,bt g2,g3,g4,g5];exact⟨_,bP rfl (by simp only[E8,seval]<;>rfl) (by first|exact .v _|simp only[eA]),_,rfl⟩
  ·by_cases g4:a.source<b.source
   all_goals
    by_cases g5:b.source<a.source
    all_goals
     by_cases g6:b.target<a.target
     all_goals
      by_cases g7:a.target<b.target
      all_goals
       simp only[Z8,seval,bt g1,bf g2,g4,g5,g6,g7];exact⟨_,bP rfl (by simp only[E8,seval]<;>rfl) (by first|exact .v _|simp only[eA]),_,rfl⟩
 ·by_cases g4:a.source<b.source
  all_goals
   by_cases g5:b.source<a.source
   all_goals
    by_cases g6:b.target<a.target
    all_goals
     by_cases g7:a.target<b.target
     all_goals
      simp only[Z8,seval,bf g1,g4,g5,g6,g7];exact⟨_,bP rfl (by simp only[E8,seval]<;>rfl) (by first|exact .v _|simp only[eA]),_,rfl⟩
theorem aOU {s:aM} {v:SV} (hs:SD s v):∃x,aB Tryz.prog 209 [.agg (aA s)]=some x∧∃r:bX,x=.agg (aY r):=by
 rw[cL Tryz.func209 rfl aJ6 rfl];have r1:=dJ v.ns s.aG.dS.root
 by_cases g1:0≤aJ v.ns s.aG.dS.root
 ·by_cases g2:(nd v.ns (aJ v.ns s.aG.dS.root)).status=1
  ·simp only[Z8,seval,hs.tree,iY _ _ hs.nn,g1,r1,bt g2];exact⟨_,fI rfl (by simp only[E8,seval]<;>rfl) (by simp only[Z8,seval]<;>rfl) (by simp only[eA,and_self]),_,rfl⟩
  ·simp only[Z8,seval,hs.tree,iY _ _ hs.nn,g1,r1,bf g2];exact⟨_,fI rfl (by simp only[E8,seval]<;>rfl) (by simp only[Z8,seval]<;>rfl) (by simp only[eA,and_self]),_,rfl⟩
 ·simp only[Z8,seval,hs.tree,iY _ _ hs.nn,g1];exact⟨_,fI rfl (by simp only[E8,seval]<;>rfl) (by simp only[Z8,seval]<;>rfl) (by simp only[eA,and_self]),_,rfl⟩
theorem aOV (c:Config) (hc:Flat c.iA) (x:Int):∃r,aB Tryz.prog 240 [.agg (bQ c),.v (.int .u64 x)]=some r∧∃a e:Int,r=.eE [.v (.int .u64 a),.v (.int .i64 e)]:=by
 rw[cL Tryz.func240 rfl aJ7 rfl];by_cases g1:c.jK<1
 ·simp only[Z8,seval,g1];exact⟨_,dC rfl rfl rfl (by simp only[E8,seval]<;>rfl) (by simp only[E8,seval]<;>rfl),_,_,rfl⟩
 by_cases g2:64<c.jK
 ·simp only[Z8,seval,g1,g2];exact⟨_,dC rfl rfl rfl (by simp only[E8,seval]<;>rfl) (by simp only[E8,seval]<;>rfl),_,_,rfl⟩
 by_cases g3:100<c.Gx
 ·simp only[Z8,seval,g1,g2,g3];exact⟨_,dC rfl rfl rfl (by simp only[E8,seval]<;>rfl) (by simp only[E8,seval]<;>rfl),_,_,rfl⟩
 by_cases g4:4611686018427387904<x
 ·simp only[Z8,seval,g1,g2,g3,g4];exact⟨_,dC rfl rfl rfl (by simp only[E8,seval]<;>rfl) (by simp only[E8,seval]<;>rfl),_,_,rfl⟩
 have g5:(c.jK=0)=False:=eq_false (by omega)
 simp only[Z8,seval,g1,g2,g3,g4,g5];exact⟨_,dC rfl rfl rfl (by simp only[E8,seval]<;>rfl) (by simp only[E8,seval]<;>rfl),_,_,rfl⟩
noncomputable def aFp (o:Option (List bX)) (r:bX):Bool:=if h:((ol o).length:Int)<1000000 then Classical.choose (Classical.choose_spec (aBr o h r)).2 else false
theorem aOW (o:Option (List bX)) (hn:((ol o).length:Int)<1000000) (r:bX) (st:St) (d:Option Nat):aN (aB Tryz.prog) 250 [ov gP o,.agg (aY r)] st d=some { dst:=d,val:=.v (.bool (aFp o r))}:=by
 have h:=(Classical.choose_spec (aBr o hn r)).1
 rw[Classical.choose_spec (Classical.choose_spec (aBr o hn r)).2] at h;rw[show aFp o r=Classical.choose (Classical.choose_spec (aBr o hn r)).2 from dif_pos hn];exact bF (bA (Gy o) (pY r)) h (.v _)
theorem aOX (o:Option (List Int)) (hn:((ol o).length:Int)<999999) (x:Int):∃r,aB Tryz.prog 235 [ov aH o,.v (.int .i64 x)]=some r∧(r=ov aH o∨∃L:List Int,r=.uniq 3 1 L.length (aH L)∧L.length=(ol o).length+1):=by
 rw[cG Tryz.func235 rfl aJ8 (by kernel_rfl) (by cases o<;>rfl)]
 simp only[ZG,seval,Bool.false_and,Prod.mk.injEq,Wl];refine kX (fun m st=>∃k:Nat,(st.env 0=ov aH o∧st.env 1=.v (.int .i64 x)∧st.env 5=.v (.int .i64 k))∧k≤(ol o).length∧m=(ol o).length-k)
  (fun e st=>e=.exit 0∧∃k:Nat,(st.env 0=ov aH o∧st.env 1=.v (.int .i64 x)∧st.env 5=.v (.int .i64 k))∧k≤(ol o).length) (ol o).length ?step ?start ?rest
 case step =>
  rintro m st ⟨k,hI,hk,hm⟩
  by_cases aZ:(k:Int)<(ol o).length
  ·have q0:(0:Int)≤k:=by omega
   have hw:IntKind.i64.wrap ((k:Int)+1)=((k+1:Nat):Int):=by rw[pV _ (by omega) (by omega)];omega
   by_cases h1:gx (0:Int) (ol o) (k:Int)<x
   ·apply Bh ((ol o).length-(k+1))
    ·simp only[ZG,seval,Bool.false_and,Prod.mk.injEq,Wl,hI,aZ,q0,h1,hw];rfl
    ·exact⟨k+1,by simp only[E8,seval,hI],by omega,rfl⟩
   ·apply FM (.exit 0)
    ·simp only[ZG,seval,Bool.false_and,Prod.mk.injEq,Wl,hI,aZ,q0,h1];rfl
    ·exact⟨rfl,k,by simp only[E8,seval,hI],hk⟩
  ·apply FM (.exit 0)
   ·simp only[ZG,seval,Bool.false_and,Prod.mk.injEq,Wl,hI,aZ];rfl
   ·exact⟨rfl,k,by simp only[E8,seval,hI],hk⟩
 case start=>exact⟨0,by simp only[E8,seval]<;>rfl,by omega,by omega⟩
 case rest =>
  rintro e st ⟨rfl,k,hI,hk⟩
  have e1:ol (o.map (·.take k))=(ol o).take k:=by cases o<;>simp[ol]
  have e2:ol (o.map (·.drop k))=(ol o).drop k:=by cases o<;>simp[ol]
  have n1:((((ol o).take k).length:Nat):Int)<1000000:=by rw[List.length_take];omega
  have n2:((((ol o).drop k).length:Nat):Int)<1000000:=by rw[List.length_drop];omega
  have n3:((((ol o).take k++[x]).length:Nat):Int)<1000000:=by rw[List.length_append,List.length_take];simp;omega
  have q0:(0:Int)≤k:=by omega
  have q1:(k:Int)≤((ol o).length:Int):=by omega
  have go:∃r,some (AV.uniq 3 1 ((ol o).take k++[x]++(ol o).drop k).length (aH ((ol o).take k++[x]++(ol o).drop k)))=some r∧(r=ov aH o∨∃L:List Int,r=.uniq 3 1 L.length (aH L)∧L.length=(ol o).length+1) :=
   ⟨_,rfl,.inr ⟨_,rfl,by simp;omega⟩⟩
  by_cases aZ:(k:Int)<(ol o).length
  ·by_cases h2:gx (0:Int) (ol o) (k:Int)=x
   ·simp only[ZG,seval,Bool.false_and,Prod.mk.injEq,Wl,hI,aZ,q0,bt h2];exact⟨_,bP rfl (by simp only[E8,seval,hI]<;>rfl) (bE o),.inl rfl⟩
   ·simp only[ZG,seval,Bool.false_and,Prod.mk.injEq,Wl,Aj,Ak,and_self,hI,aZ,q0,q1,bf h2,Int.toNat_natCast,e1,e2,Nl _ n1,Ed _ _ _ _ n1,FV _ _ _ _ n3 n2];refine⟨_,sU rfl (by simp only[E8,seval]<;>rfl) (by simp only[E8,seval]<;>rfl) (gB _),.inr ⟨_,rfl,by simp;omega⟩⟩
  ·simp only[ZG,seval,Bool.false_and,Prod.mk.injEq,Wl,Aj,Ak,and_self,hI,aZ,q0,q1,Int.toNat_natCast,e1,e2,Nl _ n1,Ed _ _ _ _ n1,FV _ _ _ _ n3 n2];refine⟨_,sU rfl (by simp only[E8,seval]<;>rfl) (by simp only[E8,seval]<;>rfl) (gB _),.inr ⟨_,rfl,by simp;omega⟩⟩
theorem aOY (o:Option (List Int)) (hn:((ol o).length:Int)<1000000) (a:Int):aB Tryz.prog 49 [ov aH o,.v (.int .i64 a)]=some (.v (.bool (decide (a∈ol o)))):=by
 cases o with
 | none=>rw[show ol (none:Option (List Int))=[] from rfl];simp only[List.not_mem_nil,decide_false];exact aJ9 a
 | some l=>exact c49 l a hn
theorem aBs (o:Option (List Int)) (hn:((ol o).length:Int)<1000000) (a:Int) (st:St) (d:Option Nat):aN (aB Tryz.prog) 49 [ov aH o,.v (.int .i64 a)] st d=some { dst:=d,val:=.v (.bool (decide (a∈ol o)))}:=bF (bA (bE o) (.v _)) (aOY o hn a) (.v _)
theorem aOZ (t:tW) (L:Option (List iV)) (Q:Option (List Int)) (hL:t.dR=ov bW L) (hQ:t.gT=ov aH Q) (nL:((ol L).length:Int)<1000000) (nQ:((ol Q).length:Int)<1000000)
 (B:Option (List Int)) (nB:((ol B).length:Int)<1000000) (R:Option (List bX)) (nR:((ol R).length:Int)<1000000) :
 ∃r,aB Tryz.prog 248 [.agg (eW t),ov bH B,ov gP R]=some r∧∃a:Int,r=.v (.int .u64 a):=by
 rw[cL Tryz.func248 rfl aKa (by cases B<;>cases R<;>rfl)]
 simp only[Z8,seval];refine cJ (fun m st=>∃(k:Nat) (a:Int),(st.env 1=ov bH B∧st.env 2=ov gP R∧st.env 3=.ptr 3 0 0∧st.heap 3 0=some (.cells (eW t))∧st.env 7=.v (.int .u64 a)∧st.env 8=.v (.int .i64 k))∧k≤(ol B).length∧m=(ol B).length-k)
  (fun e st=>e=.exit 0∧∃a:Int,st.env 7=.v (.int .u64 a)) (ol B).length ?step ?start ?rest
 case step =>
  rintro m st ⟨k,a,hI,hk,hm⟩
  by_cases aZ:(k:Int)<(ol B).length
  ·have q0:(0:Int)≤k:=by omega
   have hw:IntKind.i64.wrap ((k:Int)+1)=((k+1:Nat):Int):=by rw[pV _ (by omega) (by omega)];omega
   by_cases h1:(k:Int)<(ol L).length
   ·cases h2:(gx gI (ol L) (k:Int)).has
    ·apply oN ((ol B).length-(k+1))
     ·simp only[Z8,seval,hI,aZ,q0,hL,hQ,h1,h2,hw];rfl
     ·exact⟨k+1,_,by simp only[E8,seval,hI]<;>rfl,by omega,rfl⟩
    ·by_cases h3:(k:Int)∈ol Q
     ·apply oN ((ol B).length-(k+1))
      ·simp only[Z8,seval,hI,aZ,q0,hL,hQ,h1,h2,aBs Q nQ,h3,decide_true,hw];rfl
      ·exact⟨k+1,_,by simp only[E8,seval,hI]<;>rfl,by omega,rfl⟩
     ·cases h4:aFp R (gx gI (ol L) (k:Int)).root
      all_goals
       refine oI (st':=?_) ?_ ((ol B).length-(k+1)) (by omega) ?_
       rotate_left
       ·simp only[Z8,seval,hI,aZ,q0,hL,hQ,h1,h2,aBs Q nQ,h3,decide_false,aOW R nR,h4,hw];rfl
       ·exact⟨k+1,_,by simp only[E8,seval,hI]<;>rfl,by omega,rfl⟩
   ·apply oT (.exit 0)
    ·simp only[Z8,seval,hI,aZ,q0,hL,h1];rfl
    ·exact⟨rfl,a,by simp only[E8,seval,hI]⟩
  ·apply oT (.exit 0)
   ·simp only[Z8,seval,hI,aZ];rfl
   ·exact⟨rfl,a,by simp only[E8,seval,hI]⟩
 case start=>exact⟨0,0,by simp only[E8,seval]<;>rfl,by omega,by omega⟩
 case rest =>
  rintro e st ⟨rfl,a,h⟩
  simp only[Z8,seval,h];exact⟨_,bP rfl (by simp only[E8,seval,h]<;>rfl) (by first|exact .v _|simp only[eA,h]),_,rfl⟩
theorem aO0 (ns:List Node) (hn:(ns.length:Int)<1000000) (l:List Int) (hl:l.length=ns.length) (r:bX) (a:Int):∃x,aB Tryz.prog 243 [.agg (cD ⟨ns⟩),.sl l.length (bH l),.agg (aY r),.v (.int .u64 a)]=some x∧∃m:List Int,x=.uniq 23 1 m.length (bH m)∧m.length=ns.length:=by
 have Fa:(l.length:Int)<1000000:=by omega
 have rr:=dJ ns r
 rw[cL Tryz.func243 rfl aKb rfl];by_cases g1:0≤aJ ns r
 case neg =>
  simp only[Z8,seval,Dz _ Fa,iY _ _ hn,g1];exact⟨_,sU rfl (by simp only[E8,seval]<;>rfl) (by simp only[E8,seval]<;>rfl) (iD _),l,rfl,hl⟩
 by_cases g2:(nd ns (aJ ns r)).status=2
 ·simp only[Z8,seval,Dz _ Fa,iY _ _ hn,g1,rr,bt g2];exact⟨_,sU rfl (by simp only[E8,seval]<;>rfl) (by simp only[E8,seval]<;>rfl) (iD _),l,rfl,hl⟩
 by_cases g3:r=dT
 ·subst g3;simp only[Z8,seval,Dz _ Fa,iY _ _ hn,g1,rr,bf g2];exact⟨_,sU rfl (by simp only[E8,seval]<;>rfl) (by simp only[E8,seval]<;>rfl) (iD _),l,rfl,hl⟩
 have q1:aJ ns r<(l.length:Int):=by omega
 have q2:(aJ ns r).toNat<l.length:=by omega
 have q3:(aJ ns r).toNat+1≤l.length:=by omega
 have hy:=p7 g1 q1
 have Uo:∀z:Int,dP (bH l) (aJ ns r).toNat [.v (.int .u64 z)] ((aJ ns r).toNat+1)=bH (l.set (aJ ns r).toNat z):=fun z=>by
  have:=K6 l (aJ ns r) z q2
  simpa using this
 have ld:=K7 (T:=23) (n:=l.length) (k:=1) g1 q1 SP (by decide) (by decide)
 rw[Nat.mul_one] at ld;simp only[Z8,seval,Dz _ Fa,iY ns r hn,g1,rr,bf g2,g3,q1,q2,q3,hy,Uo,ld,Nat.mul_one];exact⟨_,sU rfl (by simp only[E8,seval]<;>rfl) (by simp only[E8,seval]<;>rfl) (iD _),_,by rw[List.length_set],by rw[List.length_set];exact hl⟩
theorem aBt (r:bX):gP [r]=aY r:=by simp[gP]
theorem K8 (r:bX):iX (some (.row 27 32 1 (aY r)))=some (.sl 1 (gP [r])):=by rw[← aBt];exact vF 1 [r]
noncomputable def aKc (t:tW) (B:Option (List Int)) (r:bX):Int:=if h:∃a:Int,aB Tryz.prog 248 [.agg (eW t),ov bH B,ov gP (some [r])]=some (.v (.int .u64 a)) then Classical.choose h else 0
theorem aKd (t:tW) (L:Option (List iV)) (Q:Option (List Int)) (hL:t.dR=ov bW L) (hQ:t.gT=ov aH Q) (nL:((ol L).length:Int)<1000000) (nQ:((ol Q).length:Int)<1000000)
 (B:Option (List Int)) (nB:((ol B).length:Int)<1000000) (r:bX) (s g:Nat) (st:St) (d:Option Nat) (hh:st.heap s g=some (.row 27 32 1 (aY r))) :
 aN (aB Tryz.prog) 248 [.agg (eW t),ov bH B,.own s g] st d=some { dst:=d,val:=.v (.int .u64 (aKc t B r))}:=by
 obtain⟨x,hx,a,rfl⟩:=aOZ t L Q hL hQ nL nQ B nB (some [r]) (by simp[ol])
 have he:∃a:Int,aB Tryz.prog 248 [.agg (eW t),ov bH B,ov gP (some [r])]=some (.v (.int .u64 a)):=⟨a,hx⟩
 have hf:Flat (.agg (eW t)):=(Mx t).2 ⟨by rw[hL];exact qF L,by rw[hQ];exact bE Q⟩
 rw[show aKc t B r=Classical.choose he from dif_pos he];rw[nH,List.map_cons,List.map_cons,List.map_cons,List.map_nil,eB hf,eB (dU B),uQ,hh,K8,bR,bR,bR,gU];exact KO (Classical.choose_spec he)
theorem aO1 (ns:List Node) (hn:(ns.length:Int)<1000000) (h0:0<ns.length) (t:tW) (L:Option (List iV)) (Q:Option (List Int)) (hL:t.dR=ov bW L) (hQ:t.gT=ov aH Q) (nL:((ol L).length:Int)<1000000) (nQ:((ol Q).length:Int)<1000000)
 (B:Option (List Int)) (nB:((ol B).length:Int)<1000000) :
 ∃x,aB Tryz.prog 241 [.agg (cD ⟨ns⟩),.agg (eW t),ov bH B]=some x∧∃m:List Int,x=.uniq 23 1 m.length (bH m)∧m.length=ns.length:=by
 have kw:=fun r g=>aKd t L Q hL hQ nL nQ B nB r 33 g
 rw[cL Tryz.func241 rfl aKe (by cases B<;>rfl)]
 simp only[Z8,seval];refine cJ (fun m st=>∃k:Nat,(st.env 3=.ptr 3 0 0∧st.heap 3 0=some (.cells (cD ⟨ns⟩))∧st.env 4=.ptr 4 0 0∧st.heap 4 0=some (.cells (eW t))∧st.env 2=ov bH B∧st.env 8=.v (.int .i64 k))∧((k=0∧st.env 7=.v (.slice none 0 0))∨∃(l:List Int) (g:Nat),st.env 7=.own 38 g∧g<st.aQ 38∧st.heap 38 g=some (.row 23 1 l.length (bH l))∧l.length=k)∧k≤ns.length∧m=ns.length-k)
  (fun e st=>e=.exit 0∧∃(l:List Int) (g:Nat),st.env 7=.own 38 g∧st.heap 38 g=some (.row 23 1 l.length (bH l))∧l.length=ns.length) ns.length ?step ?start ?rest
 case step =>
  rintro m st ⟨k,hI,h7,hk,hm⟩
  by_cases aZ:(k:Int)<ns.length
  ·have q0:(0:Int)≤k:=by omega
   have hw:IntKind.i64.wrap ((k:Int)+1)=((k+1:Nat):Int):=by rw[pV _ (by omega) (by omega)];omega
   by_cases h1:(nd ns k).status=2
   ·rcases h7 with ⟨vM,h7⟩|⟨l,g,h7,hg,Fq,hl⟩
    ·apply oN (ns.length-(k+1))
     ·simp only[Z8,seval,hI,h7,aZ,q0,bt h1,hw];rfl
     ·exact⟨k+1,by simp only[E8,seval,hI],.inr ⟨[0],st.aQ 38,by simp only[E8,seval]<;>rfl,by simp only[E8,seval]<;>omega,by simp only[E8,seval]<;>rfl,by simp;omega⟩,by omega,rfl⟩
    ·have nl:(l.length:Int)<1000000:=by omega
     apply oN (ns.length-(k+1))
     ·simp only[Z8,seval,hI,h7,Fq,aZ,q0,bt h1,hw,xF _ _ _ _ nl];rfl
     ·exact⟨k+1,by simp only[E8,seval,hI],.inr ⟨_,st.aQ 38,by simp only[E8,seval]<;>rfl,by simp only[E8,seval]<;>omega,by simp only[E8,seval]<;>rfl,by rw[List.length_append];simp;omega⟩,by omega,rfl⟩
   ·rcases h7 with ⟨vM,h7⟩|⟨l,g,h7,hg,Fq,hl⟩
    ·apply oN (ns.length-(k+1))
     ·simp only[Z8,seval,hI,h7,aZ,q0,bf h1,kw (nd ns k).block.root,hw];rfl
     ·exact⟨k+1,by simp only[E8,seval,hI],.inr ⟨[_],st.aQ 38,by simp only[E8,seval]<;>rfl,by simp only[E8,seval]<;>omega,by simp only[E8,seval]<;>rfl,by simp;omega⟩,by omega,rfl⟩
    ·have nl:(l.length:Int)<1000000:=by omega
     apply oN (ns.length-(k+1))
     ·simp only[Z8,seval,hI,h7,Fq,aZ,q0,bf h1,kw (nd ns k).block.root,hw,xF _ _ _ _ nl];rfl
     ·exact⟨k+1,by simp only[E8,seval,hI],.inr ⟨_,st.aQ 38,by simp only[E8,seval]<;>rfl,by simp only[E8,seval]<;>omega,by simp only[E8,seval]<;>rfl,by rw[List.length_append];simp;omega⟩,by omega,rfl⟩
  ·have Ez:k=ns.length:=by omega
   rcases h7 with ⟨vM,h7⟩|⟨l,g,h7,hg,Fq,hl⟩
   ·omega
   ·apply oT (.exit 0)
    ·simp only[Z8,seval,hI,aZ];rfl
    ·exact⟨rfl,l,g,by simp only[E8,seval,h7],by simp only[E8,seval,Fq],by omega⟩
 case start=>exact⟨0,by simp only[E8,seval]<;>rfl,.inl ⟨rfl,by simp only[E8,seval]⟩,by omega,by omega⟩
 case rest =>
  rintro e st ⟨rfl,l,g,h7,Fq,hl⟩
  simp only[Z8,seval,h7];exact⟨_,sU rfl (by simp only[E8,seval,h7]<;>rfl) (by simp only[E8,seval,Fq]<;>rfl) (iD _),l,rfl,hl⟩
theorem aO2 (ns:List Node) (hu:fZ ns) (hn:(ns.length:Int)<1000000) (h0:0<ns.length) (l:List Int) (hl:l.length=ns.length) :
 ∃x,aB Tryz.prog 242 [.agg (cD ⟨ns⟩),.sl l.length (bH l)]=some x∧∃m:List Int,x=.uniq 23 1 m.length (bH m)∧m.length=ns.length:=by
 rw[cL Tryz.func242 rfl aKf rfl];simp only[Z8,seval];refine cJ (fun m st=>∃k:Nat,(st.env 2=.ptr 2 0 0∧st.heap 2 0=some (.cells (cD ⟨ns⟩))∧st.env 1=.sl l.length (bH l)∧st.env 6=.v (.int .i64 k))∧((k=0∧st.env 5=.v (.slice none 0 0))∨∃(l:List Int) (g:Nat),st.env 5=.own 38 g∧g<st.aQ 38∧st.heap 38 g=some (.row 23 1 l.length (bH l))∧l.length=k)∧k≤ns.length∧m=ns.length-k)
  (fun e st=>e=.exit 0∧∃(l:List Int) (g:Nat),st.env 5=.own 38 g∧st.heap 38 g=some (.row 23 1 l.length (bH l))∧l.length=ns.length) ns.length ?step ?start ?rest
 case step =>
  rintro m st ⟨k,hI,h5,hk,hm⟩
  by_cases aZ:(k:Int)<ns.length
  ·have q0:(0:Int)≤k:=by omega
   have hw:IntKind.i64.wrap ((k:Int)+1)=((k+1:Nat):Int):=by rw[pV _ (by omega) (by omega)];omega
   have kd:=k64 ns hu hn k (RU hu q0 aZ ns.length aZ)
   have hrg:=XJ ns k
   have hdl:=Up ns k ns.length
   obtain⟨D,hD⟩:∃D,Fs ns k ns.length=D:=⟨_,rfl⟩
   rw[hD] at kd hrg hdl;simp only[Z8,seval,hI,aZ,q0,kd];refine ZN (fun mm st'=>∃(j:Nat) (a:Int),(st'.env 2=.ptr 2 0 0∧st'.heap 2 0=some (.cells (cD ⟨ns⟩))∧st'.env 1=.sl l.length (bH l)∧st'.env 6=.v (.int .i64 k)∧st'.env 5=st.env 5∧st'.aQ 38=st.aQ 38∧(∀g,st'.heap 38 g=st.heap 38 g)∧st'.env 7=.v (.int .u64 a)∧st'.env 8=.own 19 (st.aQ 19)∧st'.heap 19 (st.aQ 19)=some (.row 3 1 D.length (aH D))∧st'.env 9=.v (.int .i64 j))∧j≤D.length∧mm=D.length-j)
    (fun e st'=>e=.exit 2∧∃a:Int,(st'.env 2=.ptr 2 0 0∧st'.heap 2 0=some (.cells (cD ⟨ns⟩))∧st'.env 1=.sl l.length (bH l)∧st'.env 6=.v (.int .i64 k)∧st'.env 5=st.env 5∧st'.aQ 38=st.aQ 38∧(∀g,st'.heap 38 g=st.heap 38 g)∧st'.env 7=.v (.int .u64 a))) D.length ?K9 ?SX ?LP
   case K9 =>
    rintro mm st' ⟨j,a,hJ,hj,hmm⟩
    by_cases hjl:(j:Int)<D.length
    ·have p0:(0:Int)≤j:=by omega
     have hw2:IntKind.i64.wrap ((j:Int)+1)=((j+1:Nat):Int):=by rw[pV _ (by omega) (by omega)];omega
     obtain⟨hjt,hje⟩:=wK p0 hjl
     have hx:=hrg _ (List.getElem_mem hjt)
     rw[← hje] at hx;have x0:=hx.1
     have x1:it D j<(l.length:Int):=by omega
     have gi:=oS p0 hjl
     apply oN (D.length-(j+1))
     ·simp only[Z8,seval,hJ,hjl,p0,x0,x1,gi,hw2];rfl
     ·exact⟨j+1,IntKind.u64.wrap (a+gx (0:Int) l (it D j)),by simp only[E8,seval,hJ,implies_true,and_self],by omega,rfl⟩
    ·apply oT (.exit 2)
     ·simp only[Z8,seval,hJ,hjl];rfl
     ·exact⟨rfl,a,by simp only[E8,seval,hJ,implies_true,and_self]⟩
   case SX=>exact⟨0,0,by simp only[E8,seval,hI,implies_true,and_self]<;>rfl,by omega,by omega⟩
   case LP =>
    rintro e st' ⟨rfl,a,hJ⟩
    obtain⟨j2,j2',j1,j6,j5,jc,jh,j7⟩:=hJ
    rcases h5 with ⟨vM,h5⟩|⟨l',g,h5,hg,zN,Fa⟩
    ·rw[h5] at j5;refine I7 (st':=?s3) ?h3 (ns.length-(k+1)) (by omega) ?q3
     case h3 =>
      simp only[Z8,seval,j2,j2',j1,j6,j5,jc,j7,hw];rfl
     case q3=>exact⟨k+1,by simp only[E8,seval,j2,j2',j1],.inr ⟨[a],st.aQ 38,by simp only[E8,seval,jc]<;>rfl,by simp only[E8,seval,jc]<;>omega,by simp only[E8,seval,jc]<;>rfl,by simp;omega⟩,by omega,rfl⟩
    ·rw[h5] at j5;have nl:(l'.length:Int)<1000000:=by omega
     have jhh:=jh g
     rw[zN] at jhh;refine I7 (st':=?s4) ?h4 (ns.length-(k+1)) (by omega) ?q4
     case h4 =>
      simp only[Z8,seval,j2,j2',j1,j6,j5,jc,jhh,j7,hw,xF _ _ _ _ nl];rfl
     case q4=>exact⟨k+1,by simp only[E8,seval,j2,j2',j1],.inr ⟨l'++[a],st.aQ 38,by simp only[E8,seval,jc]<;>rfl,by simp only[E8,seval,jc]<;>omega,by simp only[E8,seval,jc]<;>rfl,by rw[List.length_append];simp;omega⟩,by omega,rfl⟩
  ·have Ez:k=ns.length:=by omega
   rcases h5 with ⟨vM,h5⟩|⟨l,g,h5,hg,zN,hl⟩
   ·omega
   ·apply oT (.exit 0)
    ·simp only[Z8,seval,hI,aZ];rfl
    ·exact⟨rfl,l,g,by simp only[E8,seval,h5],by simp only[E8,seval,zN],by omega⟩
 case start=>exact⟨0,by simp only[E8,seval]<;>rfl,.inl ⟨rfl,by simp only[E8,seval]⟩,by omega,by omega⟩
 case rest =>
  rintro e st ⟨rfl,l,g,h5,zN,hl⟩
  simp only[Z8,seval,h5];exact⟨_,sU rfl (by simp only[E8,seval,h5]<;>rfl) (by simp only[E8,seval,zN]<;>rfl) (iD _),l,rfl,hl⟩
theorem aO3 {s:aM} {v:SV} {q:Int} (h:GI s v q):∃x,aB Tryz.prog 223 [.agg (aA s)]=some x∧∃m:List Int,x=.uniq 23 1 m.length (bH m)∧m.length=v.ns.length:=by
 have hf:=h.sd.flat
 have hn:=h.sd.nn
 obtain⟨r1,e1,o,rfl,ho⟩:=aOS h.sd
 have k239:=kx e1 (cK hf) (dU o)
 obtain⟨r2,e2,a,c,rfl,_⟩:=aJC o ho
 have n5:=kx e2 (cK (dU o)) (.eE _ (bA (.v _) (.v _)))
 have hcb:Flat s.cFg.iA:=h.sd.fl.1
 obtain⟨r3,e3,a3,c3,rfl⟩:=aOV s.cFg hcb a
 have k240:=kx e3 (bA ((xP _).2 hcb) (.v _)) (.eE _ (bA (.v _) (.v _)))
 obtain⟨r4,e4,m1,rfl,hm1⟩:=aO1 v.ns hn h.pos s.eZ v.L v.Q h.sd.dR h.sd.gT h.sd.nL h.sd.nQ o ho
 have hfv:Flat (.agg (eW s.eZ)):=(Mx _).2 ⟨h.sd.fl.2.1,h.sd.fl.2.2.1⟩
 have k241:∀(st:St),aN (aB Tryz.prog) 241 [.agg (cD ⟨v.ns⟩),.agg (eW s.eZ),ov bH o] st (some 28)=_:=fun st=>jA (st:=st) (d:=28) (mW (lN _) hfv (dU o)) e4
 obtain⟨r5,e5,m2,rfl,hm2⟩:=aO0 v.ns hn m1 hm1 s.iK a3
 have k243:∀(st:St) (g:Nat),st.heap 28 g=some (.row 23 1 m1.length (bH m1))→aN (aB Tryz.prog) 243 [.agg (cD ⟨v.ns⟩),.own 28 g,.agg (aY s.iK),.v (.int .u64 a3)] st (some 37)=some { dst:=some 37,val:=.own 37 (st.aQ 37),new:=some (37,[.row 23 1 m2.length (bH m2)])}:=by
  intro st g hh;rw[nH,List.map_cons,List.map_cons,List.map_cons,List.map_cons,List.map_nil,Is,uQ,hh,uP,Qm,Qh,bR,bR,bR,bR,gU];exact L1 e5 (CT m2)
 obtain⟨r6,e6,m3,rfl,hm3⟩:=aO2 v.ns h.up hn h.pos m2 hm2
 have k242:∀(st:St) (g:Nat),st.heap 37 g=some (.row 23 1 m2.length (bH m2))→aN (aB Tryz.prog) 242 [.agg (cD ⟨v.ns⟩),.own 37 g] st (some 38)=some { dst:=some 38,val:=.own 38 (st.aQ 38),new:=some (38,[.row 23 1 m3.length (bH m3)])}:=by
  intro st g hh;rw[nH,List.map_cons,List.map_cons,List.map_nil,Is,uQ,hh,uP,bR,bR,gU];exact L1 e6 (CT m3)
 rw[cL Tryz.func223 rfl aKg rfl];simp only[Z8,seval,k239,n5,dM,k240,h.sd.tree,k241,k243,k242];exact⟨_,sU rfl (by simp only[E8,seval]<;>rfl) (by simp only[E8,seval]<;>rfl) (iD _),m3,rfl,hm3⟩
noncomputable def AM (s:aM) (v:SV) (i:Int):fB:=if 0≤i∧i<v.ns.length then (if mO s (nd v.ns i).block.slot<mO s s.now then (nd v.ns i).block.dV.pj else (nd v.ns i).block.dS) else iB
theorem aO4 {s:aM} {v:SV} (hs:SD s v) (hp:s.cFg.jK≠0) (i:Int):aB Tryz.prog 252 [.agg (aA s),.v (.int .i64 i)]=some (.agg (bV (AM s v i))):=by
 have hf:=hs.flat
 rw[cL Tryz.func252 rfl aKh rfl];refine jB ?_
 by_cases g1:0≤i
 case neg =>
  have hv:AM s v i=iB:=if_neg (fun h=>g1 h.1)
  simp only[Z8,seval,Wc hs,g1,Bool.false_and];exact⟨_,fI rfl (by simp only[E8,seval]<;>rfl) (by simp only[Z8,seval]<;>rfl) (by simp only[eA,and_self]),by rw[hv]⟩
 by_cases g2:i<(v.ns.length:Int)
 case neg =>
  have hv:AM s v i=iB:=if_neg (fun h=>g2 h.2)
  simp only[Z8,seval,Wc hs,g1,g2,Bool.and_false];exact⟨_,fI rfl (by simp only[E8,seval]<;>rfl) (by simp only[Z8,seval]<;>rfl) (by simp only[eA,and_self]),by rw[hv]⟩
 by_cases g3:mO s (nd v.ns i).block.slot<mO s s.now
 ·have hv:AM s v i=(nd v.ns i).block.dV.pj:=by unfold AM;rw[if_pos ⟨g1,g2⟩,if_pos g3]
  simp only[Z8,seval,Wc hs,g1,g2,hs.tree,sA s hp hf,g3];exact⟨_,fI rfl (by simp only[E8,seval]<;>rfl) (by simp only[Z8,seval]<;>rfl) (by simp only[eA,and_self]),by rw[hv]⟩
 ·have hv:AM s v i=(nd v.ns i).block.dS:=by unfold AM;rw[if_pos ⟨g1,g2⟩,if_neg g3]
  simp only[Z8,seval,Wc hs,g1,g2,hs.tree,sA s hp hf,g3];exact⟨_,fI rfl (by simp only[E8,seval]<;>rfl) (by simp only[Z8,seval]<;>rfl) (by simp only[eA,and_self]),by rw[hv]⟩
theorem aBv {s:aM} {v:SV} (hs:SD s v) (hp:s.cFg.jK≠0) (i:Int) (st:St) (d:Option Nat):aN (aB Tryz.prog) 252 [.agg (aA s),.v (.int .i64 i)] st d=some { dst:=d,val:=.agg (bV (AM s v i))}:=bF (bA hs.flat (.v _)) (aO4 hs hp i) (.agg _ (cT _))
theorem aKi {s:aM} {v:SV} (hs:SD s v) (hp:s.cFg.jK≠0) (i:Int):∃r,aB Tryz.prog 249 [.agg (aA s),.v (.int .i64 i)]=some r∧∃b:Bool,r=.v (.bool b):=by
 have hf:=hs.flat
 rw[cL Tryz.func249 rfl aKj rfl];by_cases g1:0≤i
 case neg =>
  simp only[Z8,seval,Wc hs,g1,Bool.false_and];exact⟨_,bP rfl (by simp only[E8,seval]<;>rfl) (by first|exact .v _|simp only[eA]),_,rfl⟩
 by_cases g2:i<(v.ns.length:Int)
 case neg =>
  simp only[Z8,seval,Wc hs,g1,g2,Bool.and_false];exact⟨_,bP rfl (by simp only[E8,seval]<;>rfl) (by first|exact .v _|simp only[eA]),_,rfl⟩
 by_cases g3:(nd v.ns i).status=2
 ·simp only[Z8,seval,Wc hs,g1,g2,hs.tree,bt g3];exact⟨_,bP rfl (by simp only[E8,seval]<;>rfl) (by first|exact .v _|simp only[eA]),_,rfl⟩
 by_cases g4:s.aG.dS.aI=0
 ·simp only[Z8,seval,Wc hs,g1,g2,hs.tree,bf g3,aBv hs hp,bt g4];exact⟨_,bP rfl (by simp only[E8,seval]<;>rfl) (by first|exact .v _|simp only[eA]),_,rfl⟩
 by_cases g5:(AM s v i).aI=s.aG.dS.aI
 ·simp only[Z8,seval,Wc hs,g1,g2,hs.tree,bf g3,aBv hs hp,bf g4,bt g5];exact⟨_,bP rfl (by simp only[E8,seval]<;>rfl) (by first|exact .v _|simp only[eA]),_,rfl⟩
 by_cases g6:mO s s.now≤(AM s v i).aI
 ·simp only[Z8,seval,Wc hs,g1,g2,hs.tree,bf g3,aBv hs hp,bf g4,bf g5,sA s hp hf,g6];exact⟨_,bP rfl (by simp only[E8,seval]<;>rfl) (by first|exact .v _|simp only[eA]),_,rfl⟩
 ·simp only[Z8,seval,Wc hs,g1,g2,hs.tree,bf g3,aBv hs hp,bf g4,bf g5,sA s hp hf,g6];exact⟨_,bP rfl (by simp only[E8,seval]<;>rfl) (by first|exact .v _|simp only[eA]),_,rfl⟩
end Go.Ab.Tryz
