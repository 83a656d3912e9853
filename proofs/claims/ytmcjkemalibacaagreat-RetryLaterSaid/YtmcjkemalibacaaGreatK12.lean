/-
  Part 12 of the proof: an evaluator of programs, its soundness, and what functions of this program compute.
-/
import Derived.Test.YtmcjkemalibacaaGreatK11
import Derived.Test.YtmcjkemalibacaaGreatK10
import Derived.Test.YtmcjkemalibacaaGreatK9
set_option linter.all false
set_option maxRecDepth 20000
set_option maxHeartbeats 40000000
namespace Go.Ab.Tryz
open Classical Go.Proofs Go.Ab
theorem bG (st:St) (s g:Nat):cC st (.own s g)=jE (st.heap s g):=by
 unfold cC jE;rw[if_neg (nD s g)];cases h:st.heap s g with
 | none=>simp only[h]
 | some e=>cases e<;>simp only[h]
theorem SD.fl {s:aO} {v:SV} (h:SD s v):Flat s.cFg.jQ/\Flat s.gE.dO/\Flat s.gE.gW/\Flat s.dR.early/\Flat s.dR.bV/\Flat s.tree.nodes/\Flat s.tables:=(Is s).1 h.flat
noncomputable def Ix (s:aO) (v:SV) (c1 c2:fU):SV :=
 if mT s v (Ib s c1) (Fo s c2) then v else
 if Fo s c2=s.bO.fin then { v with T:=nz (zI (ol v.T) (Ib s c1).aL)} else
 { v with T:=nz (zI (ol v.T) (Ib s c1).aL),ns:=(oU v.ns (aP v.ns (Fo s c2).root) v.ns.length).1,O:=nz ((ol v.O).filter fun b=>decide ((Fm s (Fo s c2).aL).1<b.slot))}
noncomputable def xZ (s:aO) (v:SV) (c1 c2:fU):aO :=
 if mT s v (Ib s c1) (Fo s c2) then s else
 if Fo s c2=s.bO.fin then { s with bO:=⟨Ib s c1,Fo s c2⟩,tables:=ov aR (nz (zI (ol v.T) (Ib s c1).aL))} else
 { s with bO:=⟨Ib s c1,Fo s c2⟩,tables:=ov aR (nz (zI (ol v.T) (Ib s c1).aL)),
          tree:=⟨.sl (oU v.ns (aP v.ns (Fo s c2).root) v.ns.length).1.length (cD (oU v.ns (aP v.ns (Fo s c2).root) v.ns.length).1)⟩,
          iQ:=if aP (oU v.ns (aP v.ns (Fo s c2).root) v.ns.length).1 s.iQ<0 then dK else s.iQ,
          dR:={ s.dR with bV:=ov aH (nz ((ol v.O).filter fun b=>decide ((Fm s (Fo s c2).aL).1<b.slot)))} }
theorem KA {ns:List Node} (i:Int):(oU ns i ns.length).1.length<=ns.length:=Td ns i ns.length
theorem SD.dG {s:aO} {v:SV} (h:SD s v) (hu:iB v.ns) (c1 c2:fU):SD (xZ s v c1 c2) (Ix s v c1 c2):=by
 have hT:((ol (nz (zI (ol v.T) (Ib s c1).aL))).length:Int)<1000000:=by rw[oY];have:=List.length_filter_le (fun t:Table=>decide ((Ib s c1).aL<=t.ck.aL)) (ol v.T);have:=h.nT;unfold zI;omega
 have hB:∀t∈ol (nz (zI (ol v.T) (Ib s c1).aL)),sS t:=by rw[oY];exact fun t m=>h.tB t (List.mem_filter.1 m).1
 unfold xZ Ix;split
 ·exact h
 split
 ·exact⟨h.jQ,h.dO,h.gW,h.early,h.bV,h.tree,rfl,h.eV,hB,h.nB,h.nL,h.nQ,h.nE,h.nO,hT,h.nn⟩
 ·refine⟨h.jQ,h.dO,h.gW,h.early,rfl,rfl,rfl,h.eV,hB,h.nB,h.nL,h.nQ,h.nE, ?_,hT, ?_⟩
  ·rw[oY];have:=List.length_filter_le (fun b:Block=>decide ((Fm s (Fo s c2).aL).1<b.slot)) (ol v.O);have:=h.nO;omega
  ·have:=KA (ns:=v.ns) (aP v.ns (Fo s c2).root);have:=h.nn;show ((oU v.ns (aP v.ns (Fo s c2).root) v.ns.length).1.length:Int)<1000000;omega
theorem c61 {s:aO} {v:SV} (hs:SD s v) (hu:iB v.ns) (hp:s.cFg.rD≠0) (c1 c2:fU):aC Tryz.prog 61 [.agg (aB s),.agg (bY c1),.agg (bY c2)]=some (.agg (aB (xZ s v c1 c2))):=by
 have hf:=hs.flat
 have hn:=hs.nO
 have lK:=hs.fl
 have KB:=k59 hs hu hp c1 c2
 rw[cG Tryz.func61 rfl aSy (by kernel_rfl) rfl]
 refine iX ?_
 by_cases b1:mT s v (Ib s c1) (Fo s c2)
 ·have hv:xZ s v c1 c2=s:=if_pos b1
  have hc:L6 s v c1 c2=.dX [.agg (bY gY),.agg (bY gY),.v (.bool false)]:=if_pos b1
  rw[hc] at KB
  simp only[ZG,seval,tJ,KB,eC];exact⟨_,fK rfl (by simp only[E8,seval,hf]<;>rfl) (by simp only[Z8,seval,hf]<;>rfl) (by simp only[dN,and_self,hf]),by rw[hv]⟩
 have hc:L6 s v c1 c2=.dX [.agg (bY (Ib s c1)),.agg (bY (Fo s c2)),.v (.bool true)]:=if_neg b1
 rw[hc] at KB
 have hv:xZ s v c1 c2=_:=if_neg b1
 generalize hJ:Ib s c1=J at *
 generalize hF:Fo s c2=F at *
 have WD:=fL v.ns F.root
 have hF0:0<=aP v.ns F.root:=by rcases Int.lt_or_le (aP v.ns F.root) 0 with h|h;exact absurd (.inr (.inl h)) b1;exact h
 have aD4:=aSl v.T hs.nT (fun t m=>(hs.tB t m).fl) J.aL
 have kp:=k34 v.ns hu hs.nn (aP v.ns F.root) ⟨hF0,WD.2⟩
 by_cases e1:zI (ol v.T) J.aL=[]
 ·have hz:(nz (zI (ol v.T) J.aL))=none:=if_pos e1
  rw[show Qh 118 34 aR (zI (ol v.T) J.aL)=.v (.slice none 0 0) from if_pos e1] at aD4;have AI:=kx aD4 (bH hs.fT (.v _)) (.v _)
  by_cases e2:F=s.bO.fin
  ·rw[if_pos e2,hz] at hv;subst e2;simp only[ZG,seval,tJ,KB,eC,hs.tables,AI,decide_true,decide_false];exact⟨_,fK rfl (by simp only[E8,seval,hf,lK,and_self]<;>rfl) (by simp only[Z8,seval,hf,lK,and_self]<;>rfl) (by simp only[dN,and_self,hf,lK,and_self]),by rw[hv];rfl⟩
  rw[if_neg e2,hz] at hv;obtain⟨AJ,en⟩:∃AJ,(oU v.ns (aP v.ns F.root) v.ns.length).1=AJ:=⟨_,rfl⟩
  have Kk:(AJ.length:Int)<1000000:=by have:=KA (ns:=v.ns) (aP v.ns F.root);have:=hs.nn;rw[<- en];omega
  unfold aDS at kp;rw[en] at kp hv;obtain⟨x,ex⟩:∃x,(PA F.aL s.cFg.rD).1=x:=⟨_,rfl⟩
  rw[show (Fm s F.aL).1=x from ex] at hv;by_cases e3:aP AJ s.iQ<0
  ·rw[if_pos e3] at hv;obtain⟨S1,eS⟩:∃S1:aO,S1={ cFg:=s.cFg,gE:=s.gE,bO:=⟨J,F⟩,dR:=s.dR,tree:=⟨.sl AJ.length (cD AJ)⟩,now:=s.now,iQ:=dK,tables:=.v (.slice none 0 0)}:=⟨_,rfl⟩
   have hS:Flat (.agg (aB S1)):=by rw[eS];simp only[dN,lK,and_self]
   have AK:=fun st d=>Yk S1 hS F.aL st d
   simp only[Fm,eS,ex] at AK
   simp only[ZG,seval,tJ,KB,eC,hs.tables,AI,decide_true,decide_false,e2,hs.tree,mS _ _ hs.nn,kp,mS _ _ Kk,e3,AK,hs.bV];have KC:S1.dR.bV=ov aH v.O:=by rw[eS];exact hs.bV
   refine mD (fun m st=>∃k:Nat,(st.env 3=.ptr 3 0 0/\st.heap 3 0=some (.cells (aB S1))/\st.env 6=.ptr 6 0 0/\st.heap 6 0=some (.cells (aB gK))/\st.env 11=.v (.int .u64 x)/\st.env 14=.v (.int .i64 k))/\(((((ol v.O).take k).filter (fun b=>decide (x<b.slot)))=[]/\st.env 13=.v (.slice none 0 0))\/((((ol v.O).take k).filter (fun b=>decide (x<b.slot)))≠[]/\∃g,st.env 13=.own 99 g/\g<st.aK 99/\st.heap 99 g=some (.row 74 238 (((ol v.O).take k).filter (fun b=>decide (x<b.slot))).length (aH (((ol v.O).take k).filter (fun b=>decide (x<b.slot)))))))/\k<=(ol v.O).length/\m=(ol v.O).length-k)
    (fun e st=>e=.exit 0/\(((((ol v.O).take (ol v.O).length).filter (fun b=>decide (x<b.slot)))=[]/\st.env 13=.v (.slice none 0 0))\/((((ol v.O).take (ol v.O).length).filter (fun b=>decide (x<b.slot)))≠[]/\∃g,st.env 13=.own 99 g/\g<st.aK 99/\st.heap 99 g=some (.row 74 238 (((ol v.O).take (ol v.O).length).filter (fun b=>decide (x<b.slot))).length (aH (((ol v.O).take (ol v.O).length).filter (fun b=>decide (x<b.slot)))))))/\st.env 3=.ptr 3 0 0/\st.heap 3 0=some (.cells (aB S1))/\st.env 6=.ptr 6 0 0/\st.heap 6 0=some (.cells (aB gK))/\st.env 11=.v (.int .u64 x)) ((ol v.O).length) ?step ?start ?rest
   case step =>
    rintro m st ⟨k,hI,h5,hk,hm⟩
    have Hz:(((((ol v.O).take k).filter (fun b=>decide (x<b.slot))).length:Nat):Int)<1000000:=by have:=List.length_filter_le (fun b=>decide (x<b.slot)) ((ol v.O).take k);have h2:=List.length_take_le' k (ol v.O);omega
    by_cases aZ:(k:Int)<(ol v.O).length
    ·have q0:(0:Int)<=k:=by omega
     have hw:IntKind.i64.wrap ((k:Int)+1)=((k+1:Nat):Int):=by rw[pM _ (by omega) (by omega)];omega
     have hs:=zH fV (fun b=>decide (x<b.slot)) (ol v.O) k (by omega)
     by_cases hh:x<(gx fV (ol v.O) (k:Int)).slot
     ·rw[if_pos (decide_eq_true hh)] at hs;rcases h5 with ⟨hy,h5⟩|⟨hy,g,h5⟩
      ·rw[hy] at hs;apply Ge ((ol v.O).length-(k+1))
       ·simp only[ZG,seval,hI,h5,aZ,hw,q0,tJ,KC,hh];rfl
       ·exact⟨k+1,by simp only[E8,seval,hI],.inr ⟨by rw[hs];simp,_,by simp only[E8,seval]<;>rfl,(by simp only[E8,seval]<;>omega),(by rw[hs];simp only[E8,seval]<;>rfl)⟩,by omega,rfl⟩
      ·apply Ge ((ol v.O).length-(k+1))
       ·simp only[ZG,seval,hI,h5,Hz,aZ,hw,q0,tJ,KC,hh];rfl
       ·exact⟨k+1,by simp only[E8,seval,hI],.inr ⟨by rw[hs];simp,_,by simp only[E8,seval]<;>rfl,(by simp only[E8,seval]<;>omega),(by rw[hs];simp only[E8,seval]<;>rfl)⟩,by omega,rfl⟩
     ·rw[if_neg (by simpa using hh),List.append_nil] at hs
      apply Ge ((ol v.O).length-(k+1))
      ·simp only[ZG,seval,hI,aZ,hw,q0,tJ,KC,hh];rfl
      ·exact⟨k+1,by simp only[E8,seval,hI],by rw[hs];simpa only[E8,seval] using h5,by omega,rfl⟩
    ·have Hy:k=(ol v.O).length:=by omega
     rw[Hy] at h5;apply OS (.exit 0)
     ·simp only[ZG,seval,hI,aZ,tJ,KC];rfl
     ·exact⟨rfl,by simpa only[E8,seval] using h5,by simp only[E8,seval,hI]⟩
   case start=>exact⟨0,by simp only[E8,seval,eS]<;>rfl,.inl ⟨rfl,by simp only[E8,seval]⟩,by omega,by omega⟩
   case rest =>
    rintro e st ⟨rfl,⟨hy,h5⟩|⟨hy,g,h5,hg,Bj⟩,hI⟩
    ·rw[List.take_length] at hy;rw[show nz ((ol v.O).filter fun b=>decide (x<b.slot))=none from if_pos hy] at hv
     rw[eS] at hI;simp only[ZG,seval,tJ,h5,hI];exact⟨_,fK rfl (by simp only[E8,seval,hI,lK,and_self]<;>rfl) (by simp only[Z8,seval,hI,lK,and_self]<;>rfl) (by simp only[dN,and_self,hI,lK,and_self]),by rw[hv];rfl⟩
    ·rw[List.take_length] at hy Bj;rw[show nz ((ol v.O).filter fun b=>decide (x<b.slot))=some ((ol v.O).filter fun b=>decide (x<b.slot)) from if_neg hy] at hv
     rw[eS] at hI;simp only[ZG,seval,tJ,h5,Bj,hI];exact⟨_,by apply dY;rfl;all_goals simp only[aJ,Z8,seval,hI,Bj,lK,bQ,gF,bG,cN,uN,dN]<;>rfl,by rw[hv];rfl⟩
  rw[if_neg e3] at hv;obtain⟨S1,eS⟩:∃S1:aO,S1={ cFg:=s.cFg,gE:=s.gE,bO:=⟨J,F⟩,dR:=s.dR,tree:=⟨.sl AJ.length (cD AJ)⟩,now:=s.now,iQ:=s.iQ,tables:=.v (.slice none 0 0)}:=⟨_,rfl⟩
  have hS:Flat (.agg (aB S1)):=by rw[eS];simp only[dN,lK,and_self]
  have AK:=fun st d=>Yk S1 hS F.aL st d
  simp only[Fm,eS,ex] at AK
  simp only[ZG,seval,tJ,KB,eC,hs.tables,AI,decide_true,decide_false,e2,hs.tree,mS _ _ hs.nn,kp,mS _ _ Kk,e3,AK,hs.bV];have KC:S1.dR.bV=ov aH v.O:=by rw[eS];exact hs.bV
  refine mD (fun m st=>∃k:Nat,(st.env 3=.ptr 3 0 0/\st.heap 3 0=some (.cells (aB S1))/\st.env 6=.ptr 6 0 0/\st.heap 6 0=some (.cells (aB gK))/\st.env 11=.v (.int .u64 x)/\st.env 14=.v (.int .i64 k))/\(((((ol v.O).take k).filter (fun b=>decide (x<b.slot)))=[]/\st.env 13=.v (.slice none 0 0))\/((((ol v.O).take k).filter (fun b=>decide (x<b.slot)))≠[]/\∃g,st.env 13=.own 99 g/\g<st.aK 99/\st.heap 99 g=some (.row 74 238 (((ol v.O).take k).filter (fun b=>decide (x<b.slot))).length (aH (((ol v.O).take k).filter (fun b=>decide (x<b.slot)))))))/\k<=(ol v.O).length/\m=(ol v.O).length-k)
   (fun e st=>e=.exit 0/\(((((ol v.O).take (ol v.O).length).filter (fun b=>decide (x<b.slot)))=[]/\st.env 13=.v (.slice none 0 0))\/((((ol v.O).take (ol v.O).length).filter (fun b=>decide (x<b.slot)))≠[]/\∃g,st.env 13=.own 99 g/\g<st.aK 99/\st.heap 99 g=some (.row 74 238 (((ol v.O).take (ol v.O).length).filter (fun b=>decide (x<b.slot))).length (aH (((ol v.O).take (ol v.O).length).filter (fun b=>decide (x<b.slot)))))))/\st.env 3=.ptr 3 0 0/\st.heap 3 0=some (.cells (aB S1))/\st.env 6=.ptr 6 0 0/\st.heap 6 0=some (.cells (aB gK))/\st.env 11=.v (.int .u64 x)) ((ol v.O).length) ?step ?start ?rest
  case step =>
   rintro m st ⟨k,hI,h5,hk,hm⟩
   have Hz:(((((ol v.O).take k).filter (fun b=>decide (x<b.slot))).length:Nat):Int)<1000000:=by have:=List.length_filter_le (fun b=>decide (x<b.slot)) ((ol v.O).take k);have h2:=List.length_take_le' k (ol v.O);omega
   by_cases aZ:(k:Int)<(ol v.O).length
   ·have q0:(0:Int)<=k:=by omega
    have hw:IntKind.i64.wrap ((k:Int)+1)=((k+1:Nat):Int):=by rw[pM _ (by omega) (by omega)];omega
    have hs:=zH fV (fun b=>decide (x<b.slot)) (ol v.O) k (by omega)
    by_cases hh:x<(gx fV (ol v.O) (k:Int)).slot
    ·rw[if_pos (decide_eq_true hh)] at hs;rcases h5 with ⟨hy,h5⟩|⟨hy,g,h5⟩
     ·rw[hy] at hs;apply Ge ((ol v.O).length-(k+1))
      ·simp only[ZG,seval,hI,h5,aZ,hw,q0,tJ,KC,hh];rfl
      ·exact⟨k+1,by simp only[E8,seval,hI],.inr ⟨by rw[hs];simp,_,by simp only[E8,seval]<;>rfl,(by simp only[E8,seval]<;>omega),(by rw[hs];simp only[E8,seval]<;>rfl)⟩,by omega,rfl⟩
     ·apply Ge ((ol v.O).length-(k+1))
      ·simp only[ZG,seval,hI,h5,Hz,aZ,hw,q0,tJ,KC,hh];rfl
      ·exact⟨k+1,by simp only[E8,seval,hI],.inr ⟨by rw[hs];simp,_,by simp only[E8,seval]<;>rfl,(by simp only[E8,seval]<;>omega),(by rw[hs];simp only[E8,seval]<;>rfl)⟩,by omega,rfl⟩
    ·rw[if_neg (by simpa using hh),List.append_nil] at hs
     apply Ge ((ol v.O).length-(k+1))
     ·simp only[ZG,seval,hI,aZ,hw,q0,tJ,KC,hh];rfl
     ·exact⟨k+1,by simp only[E8,seval,hI],by rw[hs];simpa only[E8,seval] using h5,by omega,rfl⟩
   ·have Hy:k=(ol v.O).length:=by omega
    rw[Hy] at h5;apply OS (.exit 0)
    ·simp only[ZG,seval,hI,aZ,tJ,KC];rfl
    ·exact⟨rfl,by simpa only[E8,seval] using h5,by simp only[E8,seval,hI]⟩
  case start=>exact⟨0,by simp only[E8,seval,eS]<;>rfl,.inl ⟨rfl,by simp only[E8,seval]⟩,by omega,by omega⟩
  case rest =>
   rintro e st ⟨rfl,⟨hy,h5⟩|⟨hy,g,h5,hg,Bj⟩,hI⟩
   ·rw[List.take_length] at hy;rw[show nz ((ol v.O).filter fun b=>decide (x<b.slot))=none from if_pos hy] at hv
    rw[eS] at hI;simp only[ZG,seval,tJ,h5,hI];exact⟨_,fK rfl (by simp only[E8,seval,hI,lK,and_self]<;>rfl) (by simp only[Z8,seval,hI,lK,and_self]<;>rfl) (by simp only[dN,and_self,hI,lK,and_self]),by rw[hv];rfl⟩
   ·rw[List.take_length] at hy Bj;rw[show nz ((ol v.O).filter fun b=>decide (x<b.slot))=some ((ol v.O).filter fun b=>decide (x<b.slot)) from if_neg hy] at hv
    rw[eS] at hI;simp only[ZG,seval,tJ,h5,Bj,hI];exact⟨_,by apply dY;rfl;all_goals simp only[aJ,Z8,seval,hI,Bj,lK,bQ,gF,bG,cN,uN,dN]<;>rfl,by rw[hv];rfl⟩
 ·have hz:(nz (zI (ol v.T) J.aL))=some (zI (ol v.T) J.aL):=if_neg e1
  rw[show Qh 118 34 aR (zI (ol v.T) J.aL)=.uniq 118 34 (zI (ol v.T) J.aL).length (aR (zI (ol v.T) J.aL)) from if_neg e1] at aD4;have AI:∀(st:St),aN (aC Tryz.prog) 128 [ov aR v.T,.v (.int .u64 J.aL)] st (some 30)=_:=fun st=>jD (st:=st) (d:=30) (bH hs.fT (.v _)) aD4
  have KE:∀t∈zI (ol v.T) J.aL,Flat t.jQ:=fun t m=>(hs.tB t (List.mem_filter.1 m).1).fl
  have hex:=Ql (zI (ol v.T) J.aL).length (zI (ol v.T) J.aL) KE
  by_cases e2:F=s.bO.fin
  ·rw[if_pos e2,hz] at hv;subst e2;simp only[ZG,seval,tJ,KB,eC,hs.tables,AI,decide_true,decide_false];exact⟨_,by apply dY;rfl;all_goals simp only[aJ,Z8,seval,lK,bQ,gF,bG,cN,hex]<;>rfl,by rw[hv];rfl⟩
  rw[if_neg e2,hz] at hv;obtain⟨AJ,en⟩:∃AJ,(oU v.ns (aP v.ns F.root) v.ns.length).1=AJ:=⟨_,rfl⟩
  have Kk:(AJ.length:Int)<1000000:=by have:=KA (ns:=v.ns) (aP v.ns F.root);have:=hs.nn;rw[<- en];omega
  unfold aDS at kp;rw[en] at kp hv;obtain⟨x,ex⟩:∃x,(PA F.aL s.cFg.rD).1=x:=⟨_,rfl⟩
  rw[show (Fm s F.aL).1=x from ex] at hv;by_cases e3:aP AJ s.iQ<0
  ·rw[if_pos e3] at hv;obtain⟨S1,eS⟩:∃S1:aO,S1={ cFg:=s.cFg,gE:=s.gE,bO:=⟨J,F⟩,dR:=s.dR,tree:=⟨.sl AJ.length (cD AJ)⟩,now:=s.now,iQ:=dK,tables:=.own 30 0 }:=⟨_,rfl⟩
   have hS:∀st:St,st.heap 30 0=some (.row 118 34 (zI (ol v.T) J.aL).length (aR (zI (ol v.T) J.aL)))->eW st (.agg (aB S1))=some (.agg (aB { S1 with tables:=.sl (zI (ol v.T) J.aL).length (aR (zI (ol v.T) J.aL))})):=by
    intro st h;rw[eS];simp only[bQ,gF,bG,h,hex,cN,dN,lK,cI]
   have AK:∀(st:St) (d:Option Nat),st.heap 30 0=some (.row 118 34 (zI (ol v.T) J.aL).length (aR (zI (ol v.T) J.aL)))->aN (aC Tryz.prog) 99 [.agg (aB S1),.v (.int .u64 F.aL)] st d=some { dst:=d,val:=.dX [.v (.int .u64 (Fm S1 F.aL).1),.v (.bool ((Fm S1 F.aL).2 == 0))]}:=by
    intro st d h;rw[kJ,List.map_cons,List.map_cons,List.map_nil,hS st h,Iy,bJ,bJ,gB];exact XB (c99 _ F.aL) (by intro x hx;simp only[List.mem_cons,List.not_mem_nil,or_false] at hx;rcases hx with rfl|rfl<;>exact .v _) (.dX _ (bH (.v _) (.v _)))
   simp only[Fm,eS,ex] at AK
   simp only[ZG,seval,tJ,KB,eC,hs.tables,AI,decide_true,decide_false,e2,hs.tree,mS _ _ hs.nn,kp,mS _ _ Kk,e3,AK,hs.bV];have KC:S1.dR.bV=ov aH v.O:=by rw[eS];exact hs.bV
   refine mD (fun m st=>∃k:Nat,(st.env 3=.ptr 3 0 0/\st.heap 3 0=some (.cells (aB S1))/\st.env 6=.ptr 6 0 0/\st.heap 6 0=some (.cells (aB gK))/\st.env 11=.v (.int .u64 x)/\st.heap 30 0=some (.row 118 34 (zI (ol v.T) J.aL).length (aR (zI (ol v.T) J.aL)))/\st.env 14=.v (.int .i64 k))/\(((((ol v.O).take k).filter (fun b=>decide (x<b.slot)))=[]/\st.env 13=.v (.slice none 0 0))\/((((ol v.O).take k).filter (fun b=>decide (x<b.slot)))≠[]/\∃g,st.env 13=.own 99 g/\g<st.aK 99/\st.heap 99 g=some (.row 74 238 (((ol v.O).take k).filter (fun b=>decide (x<b.slot))).length (aH (((ol v.O).take k).filter (fun b=>decide (x<b.slot)))))))/\k<=(ol v.O).length/\m=(ol v.O).length-k)
    (fun e st=>e=.exit 0/\(((((ol v.O).take (ol v.O).length).filter (fun b=>decide (x<b.slot)))=[]/\st.env 13=.v (.slice none 0 0))\/((((ol v.O).take (ol v.O).length).filter (fun b=>decide (x<b.slot)))≠[]/\∃g,st.env 13=.own 99 g/\g<st.aK 99/\st.heap 99 g=some (.row 74 238 (((ol v.O).take (ol v.O).length).filter (fun b=>decide (x<b.slot))).length (aH (((ol v.O).take (ol v.O).length).filter (fun b=>decide (x<b.slot)))))))/\st.env 3=.ptr 3 0 0/\st.heap 3 0=some (.cells (aB S1))/\st.env 6=.ptr 6 0 0/\st.heap 6 0=some (.cells (aB gK))/\st.env 11=.v (.int .u64 x)/\st.heap 30 0=some (.row 118 34 (zI (ol v.T) J.aL).length (aR (zI (ol v.T) J.aL)))) ((ol v.O).length) ?step ?start ?rest
   case step =>
    rintro m st ⟨k,hI,h5,hk,hm⟩
    have Hz:(((((ol v.O).take k).filter (fun b=>decide (x<b.slot))).length:Nat):Int)<1000000:=by have:=List.length_filter_le (fun b=>decide (x<b.slot)) ((ol v.O).take k);have h2:=List.length_take_le' k (ol v.O);omega
    by_cases aZ:(k:Int)<(ol v.O).length
    ·have q0:(0:Int)<=k:=by omega
     have hw:IntKind.i64.wrap ((k:Int)+1)=((k+1:Nat):Int):=by rw[pM _ (by omega) (by omega)];omega
     have hs:=zH fV (fun b=>decide (x<b.slot)) (ol v.O) k (by omega)
     by_cases hh:x<(gx fV (ol v.O) (k:Int)).slot
     ·rw[if_pos (decide_eq_true hh)] at hs;rcases h5 with ⟨hy,h5⟩|⟨hy,g,h5⟩
      ·rw[hy] at hs;apply Ge ((ol v.O).length-(k+1))
       ·simp only[ZG,seval,hI,h5,aZ,hw,q0,tJ,KC,hh];rfl
       ·exact⟨k+1,by simp only[E8,seval,hI],.inr ⟨by rw[hs];simp,_,by simp only[E8,seval]<;>rfl,(by simp only[E8,seval]<;>omega),(by rw[hs];simp only[E8,seval]<;>rfl)⟩,by omega,rfl⟩
      ·apply Ge ((ol v.O).length-(k+1))
       ·simp only[ZG,seval,hI,h5,Hz,aZ,hw,q0,tJ,KC,hh];rfl
       ·exact⟨k+1,by simp only[E8,seval,hI],.inr ⟨by rw[hs];simp,_,by simp only[E8,seval]<;>rfl,(by simp only[E8,seval]<;>omega),(by rw[hs];simp only[E8,seval]<;>rfl)⟩,by omega,rfl⟩
     ·rw[if_neg (by simpa using hh),List.append_nil] at hs
      apply Ge ((ol v.O).length-(k+1))
      ·simp only[ZG,seval,hI,aZ,hw,q0,tJ,KC,hh];rfl
      ·exact⟨k+1,by simp only[E8,seval,hI],by rw[hs];simpa only[E8,seval] using h5,by omega,rfl⟩
    ·have Hy:k=(ol v.O).length:=by omega
     rw[Hy] at h5;apply OS (.exit 0)
     ·simp only[ZG,seval,hI,aZ,tJ,KC];rfl
     ·exact⟨rfl,by simpa only[E8,seval] using h5,by simp only[E8,seval,hI]⟩
   case start=>exact⟨0,by simp only[E8,seval,eS]<;>rfl,.inl ⟨rfl,by simp only[E8,seval]⟩,by omega,by omega⟩
   case rest =>
    rintro e st ⟨rfl,⟨hy,h5⟩|⟨hy,g,h5,hg,Bj⟩,hI⟩
    ·rw[List.take_length] at hy;rw[show nz ((ol v.O).filter fun b=>decide (x<b.slot))=none from if_pos hy] at hv
     rw[eS] at hI;simp only[ZG,seval,tJ,h5,hI];exact⟨_,by apply dY;rfl;all_goals simp only[aJ,Z8,seval,hI,lK,bQ,gF,bG,cN,uN,dN,hex]<;>rfl,by rw[hv];rfl⟩
    ·rw[List.take_length] at hy Bj;rw[show nz ((ol v.O).filter fun b=>decide (x<b.slot))=some ((ol v.O).filter fun b=>decide (x<b.slot)) from if_neg hy] at hv
     rw[eS] at hI;simp only[ZG,seval,tJ,h5,Bj,hI];exact⟨_,by apply dY;rfl;all_goals simp only[aJ,Z8,seval,hI,Bj,lK,bQ,gF,bG,cN,uN,dN,hex]<;>rfl,by rw[hv];rfl⟩
  rw[if_neg e3] at hv;obtain⟨S1,eS⟩:∃S1:aO,S1={ cFg:=s.cFg,gE:=s.gE,bO:=⟨J,F⟩,dR:=s.dR,tree:=⟨.sl AJ.length (cD AJ)⟩,now:=s.now,iQ:=s.iQ,tables:=.own 30 0 }:=⟨_,rfl⟩
  have hS:∀st:St,st.heap 30 0=some (.row 118 34 (zI (ol v.T) J.aL).length (aR (zI (ol v.T) J.aL)))->eW st (.agg (aB S1))=some (.agg (aB { S1 with tables:=.sl (zI (ol v.T) J.aL).length (aR (zI (ol v.T) J.aL))})):=by
   intro st h;rw[eS];simp only[bQ,gF,bG,h,hex,cN,dN,lK,cI]
  have AK:∀(st:St) (d:Option Nat),st.heap 30 0=some (.row 118 34 (zI (ol v.T) J.aL).length (aR (zI (ol v.T) J.aL)))->aN (aC Tryz.prog) 99 [.agg (aB S1),.v (.int .u64 F.aL)] st d=some { dst:=d,val:=.dX [.v (.int .u64 (Fm S1 F.aL).1),.v (.bool ((Fm S1 F.aL).2 == 0))]}:=by
   intro st d h;rw[kJ,List.map_cons,List.map_cons,List.map_nil,hS st h,Iy,bJ,bJ,gB];exact XB (c99 _ F.aL) (by intro x hx;simp only[List.mem_cons,List.not_mem_nil,or_false] at hx;rcases hx with rfl|rfl<;>exact .v _) (.dX _ (bH (.v _) (.v _)))
  simp only[Fm,eS,ex] at AK
  simp only[ZG,seval,tJ,KB,eC,hs.tables,AI,decide_true,decide_false,e2,hs.tree,mS _ _ hs.nn,kp,mS _ _ Kk,e3,AK,hs.bV];have KC:S1.dR.bV=ov aH v.O:=by rw[eS];exact hs.bV
  refine mD (fun m st=>∃k:Nat,(st.env 3=.ptr 3 0 0/\st.heap 3 0=some (.cells (aB S1))/\st.env 6=.ptr 6 0 0/\st.heap 6 0=some (.cells (aB gK))/\st.env 11=.v (.int .u64 x)/\st.heap 30 0=some (.row 118 34 (zI (ol v.T) J.aL).length (aR (zI (ol v.T) J.aL)))/\st.env 14=.v (.int .i64 k))/\(((((ol v.O).take k).filter (fun b=>decide (x<b.slot)))=[]/\st.env 13=.v (.slice none 0 0))\/((((ol v.O).take k).filter (fun b=>decide (x<b.slot)))≠[]/\∃g,st.env 13=.own 99 g/\g<st.aK 99/\st.heap 99 g=some (.row 74 238 (((ol v.O).take k).filter (fun b=>decide (x<b.slot))).length (aH (((ol v.O).take k).filter (fun b=>decide (x<b.slot)))))))/\k<=(ol v.O).length/\m=(ol v.O).length-k)
   (fun e st=>e=.exit 0/\(((((ol v.O).take (ol v.O).length).filter (fun b=>decide (x<b.slot)))=[]/\st.env 13=.v (.slice none 0 0))\/((((ol v.O).take (ol v.O).length).filter (fun b=>decide (x<b.slot)))≠[]/\∃g,st.env 13=.own 99 g/\g<st.aK 99/\st.heap 99 g=some (.row 74 238 (((ol v.O).take (ol v.O).length).filter (fun b=>decide (x<b.slot))).length (aH (((ol v.O).take (ol v.O).length).filter (fun b=>decide (x<b.slot)))))))/\st.env 3=.ptr 3 0 0/\st.heap 3 0=some (.cells (aB S1))/\st.env 6=.ptr 6 0 0/\st.heap 6 0=some (.cells (aB gK))/\st.env 11=.v (.int .u64 x)/\st.heap 30 0=some (.row 118 34 (zI (ol v.T) J.aL).length (aR (zI (ol v.T) J.aL)))) ((ol v.O).length) ?step ?start ?rest
  case step =>
   rintro m st ⟨k,hI,h5,hk,hm⟩
   have Hz:(((((ol v.O).take k).filter (fun b=>decide (x<b.slot))).length:Nat):Int)<1000000:=by have:=List.length_filter_le (fun b=>decide (x<b.slot)) ((ol v.O).take k);have h2:=List.length_take_le' k (ol v.O);omega
   by_cases aZ:(k:Int)<(ol v.O).length
   ·have q0:(0:Int)<=k:=by omega
    have hw:IntKind.i64.wrap ((k:Int)+1)=((k+1:Nat):Int):=by rw[pM _ (by omega) (by omega)];omega
    have hs:=zH fV (fun b=>decide (x<b.slot)) (ol v.O) k (by omega)
    by_cases hh:x<(gx fV (ol v.O) (k:Int)).slot
    ·rw[if_pos (decide_eq_true hh)] at hs;rcases h5 with ⟨hy,h5⟩|⟨hy,g,h5⟩
     ·rw[hy] at hs;apply Ge ((ol v.O).length-(k+1))
      ·simp only[ZG,seval,hI,h5,aZ,hw,q0,tJ,KC,hh];rfl
      ·exact⟨k+1,by simp only[E8,seval,hI],.inr ⟨by rw[hs];simp,_,by simp only[E8,seval]<;>rfl,(by simp only[E8,seval]<;>omega),(by rw[hs];simp only[E8,seval]<;>rfl)⟩,by omega,rfl⟩
     ·apply Ge ((ol v.O).length-(k+1))
      ·simp only[ZG,seval,hI,h5,Hz,aZ,hw,q0,tJ,KC,hh];rfl
      ·exact⟨k+1,by simp only[E8,seval,hI],.inr ⟨by rw[hs];simp,_,by simp only[E8,seval]<;>rfl,(by simp only[E8,seval]<;>omega),(by rw[hs];simp only[E8,seval]<;>rfl)⟩,by omega,rfl⟩
    ·rw[if_neg (by simpa using hh),List.append_nil] at hs
     apply Ge ((ol v.O).length-(k+1))
     ·simp only[ZG,seval,hI,aZ,hw,q0,tJ,KC,hh];rfl
     ·exact⟨k+1,by simp only[E8,seval,hI],by rw[hs];simpa only[E8,seval] using h5,by omega,rfl⟩
   ·have Hy:k=(ol v.O).length:=by omega
    rw[Hy] at h5;apply OS (.exit 0)
    ·simp only[ZG,seval,hI,aZ,tJ,KC];rfl
    ·exact⟨rfl,by simpa only[E8,seval] using h5,by simp only[E8,seval,hI]⟩
  case start=>exact⟨0,by simp only[E8,seval,eS]<;>rfl,.inl ⟨rfl,by simp only[E8,seval]⟩,by omega,by omega⟩
  case rest =>
   rintro e st ⟨rfl,⟨hy,h5⟩|⟨hy,g,h5,hg,Bj⟩,hI⟩
   ·rw[List.take_length] at hy;rw[show nz ((ol v.O).filter fun b=>decide (x<b.slot))=none from if_pos hy] at hv
    rw[eS] at hI;simp only[ZG,seval,tJ,h5,hI];exact⟨_,by apply dY;rfl;all_goals simp only[aJ,Z8,seval,hI,lK,bQ,gF,bG,cN,uN,dN,hex]<;>rfl,by rw[hv];rfl⟩
   ·rw[List.take_length] at hy Bj;rw[show nz ((ol v.O).filter fun b=>decide (x<b.slot))=some ((ol v.O).filter fun b=>decide (x<b.slot)) from if_neg hy] at hv
    rw[eS] at hI;simp only[ZG,seval,tJ,h5,Bj,hI];exact⟨_,by apply dY;rfl;all_goals simp only[aJ,Z8,seval,hI,Bj,lK,bQ,gF,bG,cN,uN,dN,hex]<;>rfl,by rw[hv];rfl⟩
theorem k61 {s:aO} {v:SV} (hs:SD s v) (hu:iB v.ns) (hp:s.cFg.rD≠0) (c1 c2:fU) (st:St) (d:Option Nat):aN (aC Tryz.prog) 61 [.agg (aB s),.agg (bY c1),.agg (bY c2)] st d=some { dst:=d,val:=.agg (aB (xZ s v c1 c2))}:=bL (oW hs.flat (.agg _ (dB c1)) (.agg _ (dB c2))) (c61 hs hu hp c1 c2) (hs.dG hu c1 c2).flat
theorem Cb {α:Type} (s g:Nat) (cs:List α->List AV) (o:Option (List α)):fD (.own s g) (ov cs o)=True:=by cases o<;>rfl
theorem Cc {α:Type} (s g:Nat) (cs:List α->List AV) (o:Option (List α)):fD (ov cs o) (.own s g)=True:=by cases o<;>rfl
theorem Iz {α:Type} (s g n:Nat) (cs:List α->List AV) (o:Option (List α)):fD (.ptr s g n) (ov cs o)=True:=by cases o<;>rfl
theorem Ja {α:Type} (s g n:Nat) (cs:List α->List AV) (o:Option (List α)):fD (ov cs o) (.ptr s g n)=True:=by cases o<;>rfl
theorem aM6 (t:Table) (b:Option (List Int)) (hb:t.jQ=ov bD b) (hl:((ol b).length:Int)<1000000):aC Tryz.prog 158 [.agg (cF t)]=some (.agg (cF ⟨t.ck,ov bD (some (ol b))⟩)):=by
 rw[cL Tryz.func158 rfl aM7 rfl];refine iX ?_
 simp only[Z8,seval,hb,Gf _ hl];exact⟨_,by apply dY;rfl;all_goals simp only[aJ,Z8,seval,bQ,tU,bG,vZ]<;>rfl,rfl⟩
def aSA (o:Option (List Table)) (t':Table) (L:List Table):Prop:=L.length=(ol o).length+1/\(∀x∈L,x∈ol o\/x=t')/\∀x∈ol o,x∈L
theorem aSB (o:Option (List Table)) (hn:((ol o).length:Int)<999999) (hT:∀x∈ol o,Flat x.jQ) (t:Table) (b:Option (List Int)) (hb:t.jQ=ov bD b) (hl:((ol b).length:Int)<1000000) :
 ∃r,aC Tryz.prog 195 [ov aR o,.agg (cF t)]=some r/\∃L,aSA o ⟨t.ck,ov bD (some (ol b))⟩ L/\r=.uniq 118 34 L.length (aR L):=by
 have hfT:Flat (.agg (cF t)):=(kK t).2 (by rw[hb];exact dP b)
 have hf2:Flat (.agg (cF ⟨t.ck,ov bD (some (ol b))⟩)):=(kK _).2 (dP (some (ol b)))
 have hto:=lQ o hT
 have aIa:=kx (aM6 t b hb hl) (cT hfT) hf2
 rw[cG Tryz.func195 rfl aM9 (by kernel_rfl) (by cases o<;>rfl)]
 simp only[ZG,seval,QC];refine mD (fun m st=>∃k:Nat,(st.env 0=ov aR o/\st.env 3=.ptr 3 0 0/\st.heap 3 0=some (.cells (cF t))/\st.env 5=.v (.int .i64 k))/\k<=(ol o).length/\m=(ol o).length-k)
  (fun e st=>e=.exit 0/\∃k:Nat,(st.env 0=ov aR o/\st.env 3=.ptr 3 0 0/\st.heap 3 0=some (.cells (cF t))/\st.env 5=.v (.int .i64 k))/\k<=(ol o).length) (ol o).length ?step ?start ?rest
 case step =>
  rintro m st ⟨k,hI,hk,hm⟩
  by_cases aZ:(k:Int)<(ol o).length
  ·have q0:(0:Int)<=k:=by omega
   have hw:IntKind.i64.wrap ((k:Int)+1)=((k+1:Nat):Int):=by rw[pM _ (by omega) (by omega)];omega
   by_cases h1:aM0 (gx iW (ol o) (k:Int)).ck t.ck<0
   ·apply Ge ((ol o).length-(k+1))
    ·simp only[ZG,seval,QC,hI,aZ,q0,aM1,h1,hw];rfl
    ·exact⟨k+1,by simp only[E8,seval,hI],by omega,rfl⟩
   ·apply OS (.exit 0)
    ·simp only[ZG,seval,QC,hI,aZ,q0,aM1,h1];rfl
    ·exact⟨rfl,k,by simp only[E8,seval,hI],hk⟩
  ·apply OS (.exit 0)
   ·simp only[ZG,seval,QC,hI,aZ];rfl
   ·exact⟨rfl,k,by simp only[E8,seval,hI],hk⟩
 case start=>exact⟨0,by simp only[E8,seval]<;>rfl,by omega,by omega⟩
 case rest =>
  rintro e st ⟨rfl,k,hI,hk⟩
  have e1:ol (o.map (·.take k))=(ol o).take k:=by cases o<;>simp[ol]
  have e2:ol (o.map (·.drop k))=(ol o).drop k:=by cases o<;>simp[ol]
  have n1:(((ol (o.map (·.take k))).length:Nat):Int)<1000000:=by rw[e1,List.length_take];omega
  have n2:(((ol (o.map (·.drop k))).length:Nat):Int)<1000000:=by rw[e2,List.length_drop];omega
  have n3:(((ol (o.map (·.take k))++[(⟨t.ck,ov bD (some (ol b))⟩:Table)]).length:Nat):Int)<1000000:=by rw[List.length_append,e1,List.length_take];simp;omega
  have q0:(0:Int)<=k:=by omega
  have q1:(k:Int)<=((ol o).length:Int):=by omega
  have hr:∀x∈aR (ol (o.map (·.take k))++[(⟨t.ck,ov bD (some (ol b))⟩:Table)]++ol (o.map (·.drop k))),Flat x:=by
   refine lR _ fun x m=>?_
   rw[e1,e2] at m;rcases List.mem_append.1 m with m|m
   ·rcases List.mem_append.1 m with m|m
    ·exact hT x (List.mem_of_mem_take m)
    ·rw[List.mem_singleton.1 m];exact dP (some (ol b))
   ·exact hT x (List.mem_of_mem_drop m)
  simp only[ZG,seval,QC,Cb,Cc,and_self,hI,q0,q1,Int.toNat_natCast,aIa,ID _ n1,Ti _ _ _ _ n1,IE _ _ _ _ n3 n2];refine⟨_,tH rfl (by simp only[E8,seval]<;>rfl) (by simp only[E8,seval]<;>rfl) hr,_,⟨?_,fun x m=>?_,fun x m=>?_⟩,rfl⟩
  ·rw[e1,e2,List.length_append,List.length_append,List.length_take,List.length_drop];simp;omega
  ·rw[e1,e2] at m;rcases List.mem_append.1 m with m|m
   ·rcases List.mem_append.1 m with m|m
    ·exact .inl (List.mem_of_mem_take m)
    ·exact .inr (List.mem_singleton.1 m)
   ·exact .inl (List.mem_of_mem_drop m)
  ·rw[e1,e2];rw[<- List.take_append_drop k (ol o)] at m;rcases List.mem_append.1 m with m|m
   ·exact List.mem_append_left _ (List.mem_append_left _ m)
   ·exact List.mem_append_right _ m
theorem aSD (o:Option (List Table)) (hn:((ol o).length:Int)<999999) (hT:∀x∈ol o,sS x) (t:Table) (ht:sS t) (n kF:Int) :
 ∃r,aC Tryz.prog 172 [ov aR o,.agg (cF t),.v (.int .i64 n),.v (.int .i64 kF)]=some r/\∃o' e,r=.dX [ov aR o',.v (.int .i64 e)]/\e≠21/\((ol o').length:Int)<=max ((ol o).length:Int) kF/\(∀x∈ol o',sS x)/\(ol o ⊆ ol o')/\(e=0->o'≠some []/\∀x∈ol o',x∈ol o\/∃B,x.jQ=ov bD (some B)/\(B.length:Int)=n):=by
 obtain⟨b,hb,hl⟩:=id ht
 have hfT:Flat (.agg (cF t)):=(kK t).2 ht.fl
 have hto:=lQ o fun x m=>(hT x m).fl
 obtain⟨r,hr,e,rfl,he,hlen⟩:=aGF t b hb hl n
 have KF:=kx hr (bH hfT (.v _)) (.v _)
 have Kk:((ol o).length:Int)<1000000:=by omega
 have aIb:=C9 o Kk hto
 rw[cL Tryz.func172 rfl aNa (by cases o<;>rfl)]
 by_cases g1:e=0
 case neg =>
  simp only[Z8,seval,KF,bf g1,nH _ _ fun x m=>(hT x m).fl]
  exact⟨_,dJ rfl rfl rfl (by simp only[E8,seval,nH _ _ fun x m=>(hT x m).fl]<;>rfl) (by simp only[E8,seval,nH _ _ fun x m=>(hT x m).fl]<;>rfl),o,e,rfl,he,by omega,hT,fun x m=>m,fun h=>absurd h g1⟩
 by_cases g2:0<=W6 (ol o) t.ck
 ·simp only[Z8,seval,KF,bt g1,aIb,g2];exact⟨_,dJ rfl rfl rfl (by simp only[E8,seval,nH _ _ fun x m=>(hT x m).fl]<;>rfl) (by simp only[E8,seval,nH _ _ fun x m=>(hT x m).fl]<;>rfl),o,9,rfl,by decide,by omega,hT,fun x m=>m,fun h=>by cases h⟩
 by_cases g3:kF<=((ol o).length:Int)
 ·simp only[Z8,seval,KF,bt g1,aIb,g2,g3];exact⟨_,dJ rfl rfl rfl (by simp only[E8,seval,nH _ _ fun x m=>(hT x m).fl]<;>rfl) (by simp only[E8,seval,nH _ _ fun x m=>(hT x m).fl]<;>rfl),o,11,rfl,by decide,by omega,hT,fun x m=>m,fun h=>by cases h⟩
 obtain⟨r2,hr2,L,⟨EY,hL2,hL3⟩,rfl⟩:=aSB o hn (fun x m=>(hT x m).fl) t b hb hl
 have hTL:∀x∈L,sS x:=fun x m=>(hL2 x m).elim (hT x) fun e=>by rw[e];exact⟨some (ol b),rfl,hl⟩
 have k195:∀(st:St),aN (aC Tryz.prog) 195 [ov aR o,.agg (cF t)] st (some 31)=_:=fun st=>jD (st:=st) (d:=31) (bH hto hfT) hr2
 have hex:=Ql L.length L fun x m=>(hTL x m).fl
 simp only[Z8,seval,KF,bt g1,aIb,g2,g3,k195];exact⟨_,dJ rfl rfl rfl (by simp only[E8,seval,hex]<;>rfl) (by simp only[E8,seval,hex]<;>rfl),some L,0,rfl,by decide,by show ((L.length:Nat):Int)<=_;omega,hTL,hL3,fun _=>⟨fun e=>by injection e with e;rw[e] at EY;simp at EY,fun x m=>(hL2 x m).imp id fun e=>by rw[e];exact⟨ol b,rfl,hlen g1⟩⟩⟩
theorem aSE {s:aO} {v:SV} (hs:SD s v) (hn:((ol v.T).length:Int)<999999) (t:Table) (ht:sS t) :
 ∃r,aC Tryz.prog 117 [.agg (aB s),.agg (cF t)]=some r/\∃s' e,r=.dX [.agg (aB s'),.v (.int .i64 e)]/\Flat (.agg (aB s'))/\e≠21/\(e=0->∃o',s'={ s with tables:=ov aR o' }/\((ol o').length:Int)<=max ((ol v.T).length:Int) s.cFg.kF.rE/\(∀x∈ol o',sS x)/\(ol v.T ⊆ ol o')/\o'≠some []/\∀x∈ol o',x∈ol v.T\/∃B,x.jQ=ov bD (some B)/\(B.length:Int)=(ol v.B).length):=by
 have hf:=hs.flat
 have lK:=hs.fl
 have hfT:Flat (.agg (cF t)):=(kK t).2 ht.fl
 have hz:Flat (.agg (aB gK)):=by simp only[dN,gK,oA,Nw,Gg,Tj,and_self]
 obtain⟨r,hr,e,rfl,he⟩:=aSq t ht (ol v.B).length
 have KF:=kx hr (bH hfT (.v _)) (.v _)
 obtain⟨r2,hr2,o',e2,rfl,he2,I9,hT2,hsub,hne2⟩:=aSD v.T hn hs.tB t ht (ol v.B).length s.cFg.kF.rE
 have hf2:Flat (ov aR o'):=lQ o' fun x m=>(hT2 x m).fl
 have k172:=kx hr2 (by simp only[List.mem_cons,List.not_mem_nil,or_false,forall_eq_or_imp,forall_eq,aH1,and_true];exact⟨hs.fT,hfT⟩) (.dX _ (bH hf2 (.v _)))
 rw[cL Tryz.func117 rfl aNb rfl];by_cases g1:e=0
 case neg =>
  simp only[Z8,seval,AE hs,KF,bf g1];exact⟨_,by apply dJ;rfl;all_goals simp only[aJ,bX,Z8,seval,hz]<;>rfl,gK,e,rfl,hz,he,fun h=>absurd h g1⟩
 by_cases g2:t.ck.aL<s.bO.gX.aL
 ·simp only[Z8,seval,AE hs,KF,bt g1,g2];exact⟨_,by apply dJ;rfl;all_goals simp only[aJ,bX,Z8,seval,hz]<;>rfl,gK,13,rfl,hz,by decide,fun h=>by cases h⟩
 by_cases g3:e2=0
 case neg =>
  simp only[Z8,seval,AE hs,KF,bt g1,g2,hs.tables,k172,eC,bf g3];exact⟨_,by apply dJ;rfl;all_goals simp only[aJ,bX,Z8,seval,hz]<;>rfl,gK,e2,rfl,hz,he2,fun h=>absurd h g3⟩
 ·have hf3:Flat (.agg (aB { s with tables:=ov aR o' })):=by simp only[dN,lK,hf2,and_self]
  simp only[Z8,seval,AE hs,KF,bt g1,g2,hs.tables,k172,eC,bt g3];exact⟨_,by apply dJ;rfl;all_goals simp only[aJ,bX,Z8,seval,hf3]<;>rfl,_,0,rfl,hf3,by decide,fun _=>⟨o',rfl,I9,hT2,hsub,hne2 g3⟩⟩
noncomputable def EZ (v:SV):Int:=Du (fun k=>0<=aP v.ns (gx fV (ol v.O) k).parent) (ol v.O).length
theorem aNc {s:aO} {v:SV} (hs:SD s v):aC Tryz.prog 218 [.agg (aB s)]=some (.v (.int .i64 (EZ v))):=by
 have hn:=hs.nO
 rw[cL Tryz.func218 rfl aNd rfl];refine iX ?_
 simp only[Z8,seval,hs.bV];refine cB (fun m st=>∃k:Nat,(st.env 1=.ptr 1 0 0/\st.heap 1 0=some (.cells (aB s))/\st.env 3=.v (.int .i64 k))/\(∀j:Nat,j<k->¬(0<=aP v.ns (gx fV (ol v.O) (j:Int)).parent))/\k<=(ol v.O).length/\m=(ol v.O).length-k)
  (fun e st=>(e=.ret/\∃k:Nat,k<(ol v.O).length/\(0<=aP v.ns (gx fV (ol v.O) (k:Int)).parent)/\(∀j:Nat,j<k->¬(0<=aP v.ns (gx fV (ol v.O) (j:Int)).parent))/\st.env 2=.v (.int .i64 (k:Nat)))\/(e=.exit 0/\(∀j:Nat,j<(ol v.O).length->¬(0<=aP v.ns (gx fV (ol v.O) (j:Int)).parent))/\st.env 1=.ptr 1 0 0/\st.heap 1 0=some (.cells (aB s)))) ((ol v.O).length) ?step ?start ?rest
 case step =>
  rintro m st ⟨k,hI,hj,hk,hm⟩
  by_cases aZ:(k:Int)<(ol v.O).length
  ·have q0:(0:Int)<=k:=by omega
   have hw:IntKind.i64.wrap ((k:Int)+1)=((k+1:Nat):Int):=by rw[pM _ (by omega) (by omega)];omega
   by_cases hh:0<=aP v.ns (gx fV (ol v.O) (k:Int)).parent
   ·apply oT (.ret)
    ·simp only[Z8,seval,hI,aZ,q0,hs.bV,hs.tree,mS _ _ hs.nn,hh];rfl
    ·exact .inl ⟨rfl,k,by omega,hh,hj,by simp only[E8,seval,hs.bV,hs.tree,mS _ _ hs.nn]⟩
   ·apply oN ((ol v.O).length-(k+1))
    ·simp only[Z8,seval,hI,aZ,q0,hs.bV,hs.tree,mS _ _ hs.nn,hh,hw];rfl
    ·exact⟨k+1,by simp only[E8,seval,hI],fun j h=>(Nat.lt_succ_iff_lt_or_eq.1 h).elim (hj j) fun e=>by subst e;exact hh,by omega,rfl⟩
  ·apply oT (.exit 0)
   ·simp only[Z8,seval,hI,aZ,hs.bV,hs.tree,mS _ _ hs.nn];rfl
   ·exact .inr ⟨rfl,fun j h=>hj j (by omega),by simp only[E8,seval,hI]⟩
 case start=>exact⟨0,by simp only[E8,seval]<;>rfl,fun j h=>by omega,by omega,by omega⟩
 case rest =>
  rintro e st (⟨rfl,k,hk,hh,hj,h⟩|⟨rfl,hj,hI⟩)
  ·have hv:EZ v=k:=Ko hh hj _ hk
   simp only[Z8,seval];exact⟨_,bT rfl (by simp only[E8,seval,h]<;>rfl) (by first|exact .v _|simp only[dN,h]),by rw[hv]⟩
  ·have hv:EZ v=-1:=vY _ hj
   simp only[Z8,seval];exact⟨_,bT rfl (by simp only[E8,seval]<;>rfl) (by first|exact .v _|simp only[dN]),by rw[hv]⟩
theorem QD {s:aO} {v:SV} (hs:SD s v) (st:St) (d:Option Nat):aN (aC Tryz.prog) 218 [.agg (aB s)] st d=some { dst:=d,val:=.v (.int .i64 (EZ v))}:=bL (cT hs.flat) (aNc hs) (.v _)
noncomputable def IF (e:Int) (r:cJ) (a:List kO × Int) (x:Int):List kO × Int :=
 if (gx tV a.1 x).has=false\/(gx tV a.1 x).aL<e then (a.1.set x.toNat ⟨true,e,r⟩,IntKind.i64.wrap (a.2+1)) else a
noncomputable def uO (L:List kO) (e:Int) (r:cJ) (V:List Int):List kO × Int:=V.foldl (IF e r) (L,0)
theorem L7 (e:Int) (r:cJ) (a:List kO × Int) (x:Int):(IF e r a x).1.length=a.1.length:=by unfold IF;split<;>simp
theorem Tk (L:List kO) (e:Int) (r:cJ) (V:List Int):(uO L e r V).1.length=L.length:=by
 unfold uO;suffices h:∀(V:List Int) (a:List kO × Int),(V.foldl (IF e r) a).1.length=a.1.length from h V _
 intro V;induction V with
 | nil=>intro a;rfl
 | cons x V ih=>intro a;rw[List.foldl_cons,ih,L7]
theorem XR (L:List kO) (e:Int) (r:cJ) (V:List Int) (k:Nat) (h:k<V.length):uO L e r (V.take (k+1))=IF e r (uO L e r (V.take k)) (gx (0:Int) V k):=by
 unfold uO;rw[List.take_succ_eq_append_getElem h,List.foldl_append];simp[gx,h]
theorem aSF (o:Option (List kO)) (hn:((ol o).length:Int)<1000000) (e:Int) (r:cJ) (V:Option (List Int)) (hV:((ol V).length:Int)<1000000) (hr:∀x∈ol V,0<=x/\x<(ol o).length) :
 aC Tryz.prog 110 [ov cP o,.v (.int .u64 e),.agg (aX r),ov aI V]=some (.dX [.sl (ol o).length (cP (uO (ol o) e r (ol V)).1),.v (.int .i64 (uO (ol o) e r (ol V)).2)]):=by
 rw[cL Tryz.func110 rfl aNe (by cases o<;>cases V<;>rfl)]
 refine iX ?_
 simp only[Z8,seval,QE _ hn];refine cB (fun m st=>∃(k:Nat) (l:List kO) (c:Int),(st.env 1=.v (.int .u64 e)/\st.env 6=.ptr 6 0 0/\st.heap 6 0=some (.cells (aX r))/\st.env 3=ov aI V/\st.env 10=.own 15 0/\st.heap 15 0=some (.row 100 34 l.length (cP l))/\st.env 11=.v (.int .i64 c)/\st.env 12=.v (.int .i64 k))/\uO (ol o) e r ((ol V).take k)=(l,c)/\l.length=(ol o).length/\k<=(ol V).length/\m=(ol V).length-k)
  (fun ex st=>ex=.exit 0/\∃(l:List kO) (c:Int),(st.env 10=.own 15 0/\st.heap 15 0=some (.row 100 34 l.length (cP l))/\st.env 11=.v (.int .i64 c))/\uO (ol o) e r (ol V)=(l,c)/\l.length=(ol o).length) (ol V).length ?step ?start ?rest
 case step =>
  rintro m st ⟨k,l,c,hI,hc,hl,hk,hm⟩
  by_cases aZ:(k:Int)<(ol V).length
  ·have q0:(0:Int)<=k:=by omega
   have hw:IntKind.i64.wrap ((k:Int)+1)=((k+1:Nat):Int):=by rw[pM _ (by omega) (by omega)];omega
   have xV:=XR (ol o) e r (ol V) k (by omega)
   rw[hc] at xV;unfold IF at xV;have hx:=hr _ (uM (z:=(0:Int)) q0 aZ)
   obtain⟨x,ex⟩:∃x,gx (0:Int) (ol V) (k:Int)=x:=⟨_,rfl⟩
   rw[ex] at hx xV;have x0:0<=x:=hx.1
   have x1:x<(l.length:Int):=by rw[hl];exact hx.2
   have x2:x.toNat<l.length:=by omega
   have x3:x.toNat * 34+34<=l.length * 34:=by omega
   have ld:=D1 (T:=100) (n:=l.length) (k:=34) x0 x1 aGK (by decide) (by decide)
   by_cases h1:(gx tV l x).has=true
   ·by_cases h2:(gx tV l x).aL<e
    ·rw[if_pos (.inr h2)] at xV;apply oN ((ol V).length-(k+1))
     ·simp only[Z8,seval,hI,aZ,q0,ex,x0,x1,x2,x3,ld,h1,h2,KG _ _ _ x2,hw];rfl
     ·exact⟨k+1,_,_,by simp only[E8,seval,hI,List.length_set]<;>exact⟨rfl,rfl⟩,xV,by rw[List.length_set,hl],by omega,rfl⟩
    ·rw[if_neg (by simp only[h1,h2,Bool.true_eq_false,or_self,not_false_eq_true])] at xV
     apply oN ((ol V).length-(k+1))
     ·simp only[Z8,seval,hI,aZ,q0,ex,x0,x1,x2,x3,ld,h1,h2,hw];rfl
     ·exact⟨k+1,l,c,by simp only[E8,seval,hI],xV,hl,by omega,rfl⟩
   ·have HH:(gx tV l x).has=false:=by simpa using h1
    rw[if_pos (.inl HH)] at xV;apply oN ((ol V).length-(k+1))
    ·simp only[Z8,seval,hI,aZ,q0,ex,x0,x1,x2,x3,ld,HH,KG _ _ _ x2,hw];rfl
    ·exact⟨k+1,_,_,by simp only[E8,seval,hI,List.length_set]<;>exact⟨rfl,rfl⟩,xV,by rw[List.length_set,hl],by omega,rfl⟩
  ·have Hy:k=(ol V).length:=by omega
   rw[Hy,List.take_length] at hc;apply oT (.exit 0)
   ·simp only[Z8,seval,hI,aZ];rfl
   ·exact⟨rfl,l,c,by simp only[E8,seval,hI],hc,hl⟩
 case start=>exact⟨0,ol o,0,by simp only[E8,seval]<;>rfl,rfl,rfl,by omega,by omega⟩
 case rest =>
  rintro ex st ⟨rfl,l,c,hI,hc,hl⟩
  rw[hc];simp only[Z8,seval,hI];exact⟨_,dJ rfl rfl rfl (by simp only[E8,seval,hI,Yl]<;>rfl) (by simp only[E8,seval,hI,Yl]<;>rfl),by rw[hl]⟩
theorem aNf (o:Option (List kO)) (hn:((ol o).length:Int)<1000000) (e:Int) (r:cJ) (V:Option (List Int)) (hV:((ol V).length:Int)<1000000) (hr:∀x∈ol V,0<=x/\x<(ol o).length) (st:St) (d:Option Nat) :
 aN (aC Tryz.prog) 110 [ov cP o,.v (.int .u64 e),.agg (aX r),ov aI V] st d=some { dst:=d,val:=.dX [.sl (ol o).length (cP (uO (ol o) e r (ol V)).1),.v (.int .i64 (uO (ol o) e r (ol V)).2)]} :=
 bL (by simp only[List.mem_cons,List.not_mem_nil,or_false,forall_eq_or_imp,forall_eq,dN,and_self,and_true,true_and]) (aSF o hn e r V hV hr) (.dX _ (bH (.sl _ _ (nG _)) (.v _)))
noncomputable def Tl (s:aO) (v:SV) (a:sP) (V:List Int):aO:={ s with gE:={ s.gE with dO:=ov cP (some (uO (ol v.L) a.target.aL a.root V).1)} }
theorem c44 {s:aO} {v:SV} (hs:SD s v) (a:sP) (V:Option (List Int)) (ha:a.eU=ov aI V) (hV:((ol V).length:Int)<1000000) (hr:∀x∈ol V,0<=x/\x<(ol v.L).length) :
 aC Tryz.prog 44 [.agg (aB s),.agg (gZ a)]=some (.agg (aB (Tl s v a (ol V)))):=by
 have lK:=hs.fl
 rw[cL Tryz.func44 rfl aSG rfl];refine iX ?_
 simp only[Z8,seval,hs.dO,ha,aNf v.L hs.nL _ _ V hV hr,eC];exact⟨_,fK rfl (by simp only[E8,seval,lK,and_self]<;>rfl) (by simp only[Z8,seval,lK,and_self]<;>rfl) (by simp only[dN,and_self,lK,and_self]),by unfold Tl;simp only[ov,Tk]⟩
theorem AL (ns:List Node) (r:cJ) (h:0<=aP ns r):(nd ns (aP ns r)).block.root=r:=by
 unfold aP at h ⊢
 cases hf:ns.findIdx? (fun n=>decide (n.block.root=r)) with
 | none=>rw[hf] at h;simp only at h;omega
 | some k =>
   obtain⟨hk,hp,_⟩:=List.findIdx?_eq_some_iff_getElem.1 hf
   simp only
   have:nd ns (k:Int)=ns[k]:=by simp[nd,hk]
   rw[this];exact of_decide_eq_true hp
theorem Qm {ns:List Node} {r:cJ} {j:Int} (h0:0<=j) (h1:j<ns.length) (hr:(nd ns j).block.root=r):0<=aP ns r:=by
 unfold aP;cases hf:ns.findIdx? (fun n=>decide (n.block.root=r)) with
 | none =>
   obtain⟨hj,e⟩:=Nu h0 h1
   have:=List.findIdx?_eq_none_iff.1 hf ns[j.toNat] (List.getElem_mem hj)
   rw[<- e] at this;simp[hr] at this
 | some k=>simp only;omega
structure GI (s:aO) (v:SV) (q:Int):Prop where
 sd:SD s v
 up:iB v.ns
 PI:(nd v.ns 0).up=-1
 pos:0<v.ns.length
 nl:(v.ns.length:Int)<=s.cFg.kF.sU
 XS:s.cFg.kF.sU<=4096
 rD:1<=s.cFg.rD/\s.cFg.rD<=64
 QF:(ol v.L).length=(ol v.B).length
 nB:((ol v.B).length:Int)<=1024
 nO:((ol v.O).length:Int)<=s.cFg.kF.xI
 QG:s.cFg.kF.xI<=64
 nE:((ol v.E).length:Int)<=s.cFg.kF.qJ
 WG:s.cFg.kF.qJ<=256
 nT:((ol v.T).length:Int)<=s.cFg.kF.rE
 XT:s.cFg.kF.rE<=64
 nQ:((ol v.Q).length:Int)<=q
 Z6:q<=900000
 gX:0<=aP v.ns s.bO.gX.root
theorem GI.sp {s:aO} {v:SV} {q:Int} (h:GI s v q):s.cFg.rD≠0:=by have:=h.rD.1;omega
theorem xJ (s:aO) (v:SV) (c1 c2:fU):(xZ s v c1 c2).cFg=s.cFg:=by unfold xZ;split;rfl;split<;>rfl
theorem Qn (s:aO) (v:SV) (c1 c2:fU):(xZ s v c1 c2).now=s.now:=by unfold xZ;split;rfl;split<;>rfl
theorem GI.dG {s:aO} {v:SV} {q:Int} (h:GI s v q) (c1 c2:fU):GI (xZ s v c1 c2) (Ix s v c1 c2) q:=by
 have hsd:=h.sd.dG h.up c1 c2
 by_cases b:mT s v (Ib s c1) (Fo s c2)
 ·rw[show xZ s v c1 c2=s from if_pos b,show Ix s v c1 c2=v from if_pos b];exact h
 have hJ:0<=aP v.ns (Ib s c1).root:=by rcases Int.lt_or_le (aP v.ns (Ib s c1).root) 0 with g|g;exact absurd (.inl g) b;exact g
 have hF:0<=aP v.ns (Fo s c2).root:=by rcases Int.lt_or_le (aP v.ns (Fo s c2).root) 0 with g|g;exact absurd (.inr (.inl g)) b;exact g
 have hA:Bw v.ns (aP v.ns (Fo s c2).root) (aP v.ns (Ib s c1).root)=true:=by
  cases g:Bw v.ns (aP v.ns (Fo s c2).root) (aP v.ns (Ib s c1).root)
  ·exact absurd (.inr (.inr (.inr (.inr (.inr (.inr (.inl g))))))) b
  ·rfl
 have hT:((ol (nz (zI (ol v.T) (Ib s c1).aL))).length:Int)<=s.cFg.kF.rE:=by
  rw[oY];have:=List.length_filter_le (fun t:Table=>decide ((Ib s c1).aL<=t.ck.aL)) (ol v.T);have:=h.nT;unfold zI;omega
 by_cases e:Fo s c2=s.bO.fin
 ·have hS:xZ s v c1 c2=_:=(if_neg b).trans (if_pos e)
  have hW:Ix s v c1 c2=_:=(if_neg b).trans (if_pos e)
  rw[hS,hW] at hsd ⊢;exact⟨hsd,h.up,h.PI,h.pos,h.nl,h.XS,h.rD,h.QF,h.nB,h.nO,h.QG,h.nE,h.WG,hT,h.XT,h.nQ,h.Z6,hJ⟩
 ·have hS:xZ s v c1 c2=_:=(if_neg b).trans (if_neg e)
  have hW:Ix s v c1 c2=_:=(if_neg b).trans (if_neg e)
  rw[hS,hW] at hsd ⊢;have rF:=fL v.ns (Fo s c2).root
  have rJ:=fL v.ns (Ib s c1).root
  have HT:=PF h.up hF rF.2
  have h1:=PH h.up HT
  have h2:=PH h.up hA
  have hz:=B9 h.up HT
  have hlen:=KA (ns:=v.ns) (aP v.ns (Fo s c2).root)
  have WH:=h.nl
  refine⟨hsd,aDU h.up HT, ?_, ?_, ?_,h.XS,h.rD,h.QF,h.nB, ?_,h.QG,h.nE,h.WG,hT,h.XT,h.nQ,h.Z6, ?_⟩
  ·rw[hz] at h1;show (nd (oU v.ns (aP v.ns (Fo s c2).root) v.ns.length).1 0).up=-1
   rw[h1.2.2,if_pos rfl]
  ·have:=h1.2.1;have:=h1.1
   show 0<(oU v.ns (aP v.ns (Fo s c2).root) v.ns.length).1.length
   omega
  ·show (((oU v.ns (aP v.ns (Fo s c2).root) v.ns.length).1.length:Nat):Int)<=s.cFg.kF.sU
   omega
  ·show ((ol (nz _)).length:Int)<=s.cFg.kF.xI
   rw[oY];have:=List.length_filter_le (fun b:Block=>decide ((Fm s (Fo s c2).aL).1<b.slot)) (ol v.O);have:=h.nO;omega
  ·refine Qm h2.1 h2.2.1 ?_
   rw[h2.2.2];exact AL _ _ hJ
noncomputable def Dx (v:SV) (b:Block):List Node:=v.ns++[⟨b,aP v.ns b.parent,Xb b⟩]
noncomputable def Tm (s:aO) (v:SV) (b:Block):aO:={ s with tree:=⟨.sl (Dx v b).length (cD (Dx v b))⟩}
noncomputable def Qo (v:SV) (b:Block):SV:={ v with ns:=Dx v b }
noncomputable def Z7 (s:aO) (v:SV) (b:Block):aO:=xZ (Tm s v b) (Qo v b) b.gX b.fin
noncomputable def Z9 (s:aO) (v:SV) (b:Block):SV:=Ix (Tm s v b) (Qo v b) b.gX b.fin
noncomputable def tK (s:aO) (v:SV) (b:Block):aO:=if Fl s b.slot<Fl s s.now then xZ (Z7 s v b) (Z9 s v b) b.dL.pj b.dL.pf else Z7 s v b
noncomputable def lF (s:aO) (v:SV) (b:Block):SV:=if Fl s b.slot<Fl s s.now then Ix (Z7 s v b) (Z9 s v b) b.dL.pj b.dL.pf else Z9 s v b
theorem L9 (b:Block):WV (Xb b)=true:=by unfold Xb;split<;>rfl
theorem D2 {s:aO} {v:SV} {q:Int} (h:GI s v q) {b:Block} (hb:Mq s v b=0):ET v.ns b (Xb b)=0/\(v.ns.length:Int)<s.cFg.kF.sU/\0<=aP v.ns b.parent:=by
 unfold Mq at hb;by_cases g1:b.root=dK
 ·rw[if_pos g1] at hb;omega
 rw[if_neg g1] at hb;by_cases g2:KnB v b.root
 ·rw[if_pos g2] at hb;omega
 rw[if_neg g2] at hb;by_cases g3:s.now<b.slot
 ·rw[if_pos g3] at hb;omega
 rw[if_neg g3] at hb;by_cases g4:b.slot<=(Fm s s.bO.fin.aL).1
 ·rw[if_pos g4] at hb;omega
 rw[if_neg g4] at hb;by_cases g5:aP v.ns b.parent<0
 ·rw[if_pos g5] at hb;omega
 rw[if_neg g5] at hb;by_cases g6:b.slot<=(nd v.ns (aP v.ns b.parent)).block.slot
 ·rw[if_pos g6] at hb;omega
 rw[if_neg g6] at hb;by_cases g7:(nd v.ns (aP v.ns b.parent)).status=2
 ·rw[if_pos g7] at hb;omega
 rw[if_neg g7] at hb;by_cases g8:¬JY s v b
 ·rw[if_pos g8] at hb;omega
 rw[if_neg g8] at hb;by_cases g9:¬L1 s.cFg.EX (nd v.ns (aP v.ns b.parent)).block b
 ·rw[if_pos g9] at hb;omega
 rw[if_neg g9] at hb;by_cases Z5:s.cFg.kF.sU<=(v.ns.length:Int)
 ·rw[if_pos Z5] at hb;omega
 have:=h.XS
 refine⟨?_,by omega,by omega⟩
 unfold ET;rw[L9,if_neg (by simp),if_neg (fun h=>g2 (.inr h)),if_neg g5,if_neg g6,if_neg (by omega)]
theorem GI.Tm {s:aO} {v:SV} {q:Int} (h:GI s v q) {b:Block} (hb:(v.ns.length:Int)<s.cFg.kF.sU) (hp:0<=aP v.ns b.parent):GI (Tm s v b) (Qo v b) q:=by
 have hlen:(Dx v b).length=v.ns.length+1:=by unfold Dx;simp
 have hnB:=h.XS
 have hsd:SD (Tryz.Tm s v b) (Qo v b):=⟨h.sd.jQ,h.sd.dO,h.sd.gW,h.sd.early,h.sd.bV,rfl,h.sd.tables,h.sd.eV,h.sd.tB,h.sd.nB,h.sd.nL,h.sd.nQ,h.sd.nE,h.sd.nO,h.sd.nT,by show ((Dx v b).length:Int)<1000000;omega⟩
 have rp:=fL v.ns b.parent
 refine⟨hsd,fun i h0 h1=>?_, ?_, ?_, ?_,h.XS,h.rD,h.QF,h.nB,h.nO,h.QG,h.nE,h.WG,h.nT,h.XT,h.nQ,h.Z6, ?_⟩
 ·have h1:i<((Dx v b).length:Int):=h1
  show 0<=(nd (Dx v b) i).up/\(nd (Dx v b) i).up<i
  by_cases hi:i<(v.ns.length:Int)
  ·unfold Dx;rw[Km (by omega) hi];exact h.up i h0 hi
  ·unfold Dx;rw[HK (by omega)];exact⟨hp,by show aP v.ns b.parent<i;omega⟩
 ·show (nd (Dx v b) 0).up=-1
  unfold Dx;rw[Km (by omega) (by have:=h.pos;omega)];exact h.PI
 ·show 0<(Dx v b).length;omega
 ·show ((Dx v b).length:Int)<=s.cFg.kF.sU;omega
 ·show 0<=aP (Dx v b) s.bO.gX.root
  have rj:=fL v.ns s.bO.gX.root
  refine Qm h.gX (by omega) ?_
  unfold Dx;rw[Km h.gX rj.2];exact AL _ _ h.gX
theorem GI.ins {s:aO} {v:SV} {q:Int} (h:GI s v q) {b:Block} (hb:Mq s v b=0):GI (tK s v b) (lF s v b) q:=by
 obtain⟨_,h2,h3⟩:=D2 h hb
 have g1:=h.Tm h2 h3
 have g2:=g1.dG b.gX b.fin
 unfold tK lF;split
 ·exact g2.dG _ _
 ·exact g2
theorem Cd (s:aO) (v:SV) (b:Block):(tK s v b).cFg=s.cFg/\(tK s v b).now=s.now:=by
 unfold tK;split
 ·rw[xJ,Qn];unfold Z7;rw[xJ,Qn];exact⟨rfl,rfl⟩
 ·unfold Z7;rw[xJ,Qn];exact⟨rfl,rfl⟩
theorem aNg {s:aO} {v:SV} {q:Int} (h:GI s v q) {b:Block} (hb:Mq s v b=0):aC Tryz.prog 217 [.agg (aB s),.agg (aT b)]=some (.agg (aB (tK s v b))):=by
 obtain⟨h1,h2,h3⟩:=D2 h hb
 have g1:=h.Tm h2 h3
 have g2:=g1.dG b.gX b.fin
 have hi:Ip v.ns b (Xb b)=.dX [.agg (cU ⟨Dx v b⟩),.v (.int .i64 0)]:=if_pos h1
 have aAa:=aRE v.ns h.sd.nn b (Xb b)
 rw[hi] at aAa
 have k61a:=k61 g1.sd g1.up g1.sp b.gX b.fin
 have k61b:=k61 g2.sd g2.up g2.sp b.dL.pj b.dL.pf
 have hcfg:(xZ (Tryz.Tm s v b) (Qo v b) b.gX b.fin).cFg.rD=s.cFg.rD:=by rw[xJ];rfl
 have hnow:(xZ (Tryz.Tm s v b) (Qo v b) b.gX b.fin).now=s.now:=by rw[Qn];rfl
 have hep:∀x,Fl (xZ (Tryz.Tm s v b) (Qo v b) b.gX b.fin) x=Fl s x:=fun x=>by unfold Fl;rw[hcfg]
 have k98':=Pm (xZ (Tryz.Tm s v b) (Qo v b) b.gX b.fin) g2.sp g2.sd.flat
 have e1:({ cFg:=s.cFg,gE:=s.gE,bO:=s.bO,dR:=s.dR,tree:=⟨.sl (Dx v b).length (cD (Dx v b))⟩,now:=s.now,iQ:=s.iQ,tables:=s.tables }:aO)=Tryz.Tm s v b:=rfl
 rw[cL Tryz.func217 rfl aNh rfl];refine iX ?_
 by_cases c:Fl s b.slot<Fl s s.now
 ·have hv:tK s v b=_:=if_pos c
  have XU:=(g2.dG b.dL.pj b.dL.pf).sd.flat
  simp only[Z8,seval,h.sd.tree,aMX,aAa,eC,e1,k61a,k98',hep,hnow,c,k61b];exact⟨_,fK rfl (by simp only[E8,seval,XU]<;>rfl) (by simp only[Z8,seval,XU]<;>rfl) (by simp only[dN,and_self,XU]),by rw[hv];rfl⟩
 ·have hv:tK s v b=_:=if_neg c
  have XU:=g2.sd.flat
  simp only[Z8,seval,h.sd.tree,aMX,aAa,eC,e1,k61a,k98',hep,hnow,c];exact⟨_,fK rfl (by simp only[E8,seval,XU]<;>rfl) (by simp only[Z8,seval,XU]<;>rfl) (by simp only[dN,and_self,XU]),by rw[hv];rfl⟩
theorem Tn {L:List Block} {k:Nat} (hk:k<=L.length) (a g:Nat):∃X,(∀(st:St) (hi:Operand),st.ev hi=.v (.int .i64 k)->st.heap a g=some (.row 74 238 L.length (aH L))->dA Tryz.prog st 45 (.own a g) none (some hi)=some X) /\
 (∀st:St,st.heap a g=some (.row 74 238 L.length (aH L))->aQ st X=some ((L.take k).length,aH (L.take k))):=by
 have hl:(L.take k).length=k:=by simp;omega
 by_cases h0:k=0/\L.length=0
 ·obtain⟨rfl,h1⟩:=h0
  refine⟨.sl 0 [],fun st hi he hh=>?_,fun st hh=>by simp[aQ,aH]⟩
  simp[dA,nY,hh,he,h1]
 ·refine⟨.vw a g 0 k,fun st hi he hh=>?_,fun st hh=>?_⟩
  ·have:¬((0:Int)=k/\¬((0:Int)=0/\0<L.length)):=by omega
   have h2:(0:Int)<=k/\(k:Int)<=L.length:=by omega
   simp only[dA,nY,hh,he,if_neg this,h2,Int.le_refl,and_self,if_true];simp
   intro h3 h4;rw[h4] at h0;simp at h0
   omega
  ·have hb:k * 238<=(aH L).length:=by rw[Ce];exact Nat.mul_le_mul_right _ hk
   have:=yV (c:=aT) (sz:=238) bP L k
   simp only[aQ,hh,Nat.zero_add,hb,if_true,List.drop_zero,hl];exact congrArg (fun z=>some (k,z)) this
theorem Dy {L:List Block} {k:Nat} (hk:k<=L.length) (a g:Nat):∃X,(∀(st:St) (lo:Operand),st.ev lo=.v (.int .i64 k)->st.heap a g=some (.row 74 238 L.length (aH L))->dA Tryz.prog st 45 (.own a g) (some lo) none=some X) /\
 (∀st:St,st.heap a g=some (.row 74 238 L.length (aH L))->aQ st X=some ((L.drop k).length,aH (L.drop k))):=by
 have hl:(L.drop k).length=L.length-k:=by simp
 by_cases h0:k=L.length
 ·by_cases hz:0<k
  ·refine⟨.sl 0 [],fun st lo he hh=>?_,fun st hh=>by rw[h0];simp[aQ,aH]⟩
   have:(k:Int)=L.length/\¬((k:Int)=0/\0<L.length):=by omega
   have h2:(0:Int)<=k/\(k:Int)<=L.length:=by omega
   simp only[dA,nY,hh,he,if_pos this,h2,Int.le_refl,and_self,if_true]
  ·refine⟨.sl 0 [],fun st lo he hh=>?_,fun st hh=>by rw[h0];simp[aQ,aH]⟩
   have:(k:Int)=L.length/\¬((k:Int)=0/\0<L.length):=by omega
   have h2:(0:Int)<=k/\(k:Int)<=L.length:=by omega
   simp only[dA,nY,hh,he,if_pos this,h2,Int.le_refl,and_self,if_true]
 ·refine⟨.vw a g (k * 238) (L.length-k),fun st lo he hh=>?_,fun st hh=>?_⟩
  ·have h1:¬((k:Int)=L.length/\¬((k:Int)=0/\0<L.length)):=by omega
   have h2:((L.length:Int)-(k:Int)).toNat=L.length-k:=by omega
   have h3:(0:Int)<=k/\(k:Int)<=L.length:=by omega
   simp only[dA,nY,hh,he,if_neg h1,h3,Int.le_refl,and_self,if_true,h2,Int.toNat_natCast]
  ·have hb:k * 238+(L.length-k) * 238<=(aH L).length:=by rw[Ce,<- Nat.add_mul];exact Nat.mul_le_mul_right _ (by omega)
   have:=yW (c:=aT) (sz:=238) bP L k
   have h3:((aH L).drop (k * 238)).length=(L.length-k) * 238:=by rw[List.length_drop,Ce,Nat.sub_mul]
   simp only[aQ,hh,hb,if_true,hl];rw[List.take_of_length_le (by omega)]
   exact congrArg (fun z=>some (L.length-k,z)) this
theorem GI.iQ {s:aO} {v:SV} {q:Int} (h:GI s v q) (r:cJ):GI { s with iQ:=r } v q :=
 ⟨⟨h.sd.jQ,h.sd.dO,h.sd.gW,h.sd.early,h.sd.bV,h.sd.tree,h.sd.tables,h.sd.eV,h.sd.tB,h.sd.nB,h.sd.nL,h.sd.nQ,h.sd.nE,h.sd.nO,h.sd.nT,h.sd.nn⟩,h.up,h.PI,h.pos,h.nl,h.XS,h.rD,h.QF,h.nB,h.nO,h.QG,h.nE,h.WG,h.nT,h.XT,h.nQ,h.Z6,h.gX⟩
def mU (s:aO) (x:AV):aO:={ s with dR:={ s.dR with bV:=x }}
theorem GI.XV {s:aO} {v:SV} {q:Int} (h:GI s v q) (O:Option (List Block)) (hO:((ol O).length:Int)<=s.cFg.kF.xI):GI (mU s (ov aH O)) { v with O:=O } q :=
 ⟨⟨h.sd.jQ,h.sd.dO,h.sd.gW,h.sd.early,rfl,h.sd.tree,h.sd.tables,h.sd.eV,h.sd.tB,h.sd.nB,h.sd.nL,h.sd.nQ,h.sd.nE,by have:=h.QG;show ((ol O).length:Int)<1000000;omega,h.sd.nT,h.sd.nn⟩,h.up,h.PI,h.pos,h.nl,h.XS,h.rD,h.QF,h.nB,hO,h.QG,h.nE,h.WG,h.nT,h.XT,h.nQ,h.Z6,h.gX⟩
theorem XW (s:aO) (v:SV) (c1 c2:fU):(ol (Ix s v c1 c2).O).length<=(ol v.O).length:=by
 unfold Ix;split
 ·exact Nat.le_refl _
 split
 ·exact Nat.le_refl _
 ·show (ol (nz _)).length<=_
  rw[oY];exact List.length_filter_le _ _
theorem XX (s:aO) (v:SV) (b:Block):(ol (lF s v b).O).length<=(ol v.O).length:=by
 unfold lF;split
 ·exact Nat.le_trans (XW _ _ _ _) (XW _ _ _ _)
 ·exact XW _ _ _ _
theorem Ak {s:aO} {v:SV} (h:SD s v) {O:List Block} {a g:Nat} (st:St) (hh:st.heap a g=some (.row 74 238 O.length (aH O))):eW st (.agg (aB (mU s (.own a g))))=some (.agg (aB (mU s (ov aH (some O))))):=by
 have lK:=h.fl
 unfold mU;simp only[bQ,gF,bG,hh,uN,cN,dN,lK,cI];rfl
def Rg (x:Int):Prop:=0<=x/\x<18446744073709551616
structure RB (b:Block):Prop where
 sl:Rg b.slot
 j:Rg b.gX.aL
 f:Rg b.fin.aL
 pj:Rg b.dL.pj.aL
 pf:Rg b.dL.pf.aL
def Pr (r:cJ):Prop:=r≠dK/\r≠mkRoot 99
theorem AM {α:Type} (l:List α):nz l≠some []:=by
 unfold nz;split
 ·nofun
 ·rename_i h;intro e;injection e with e;exact h e
structure NEv (v:SV):Prop where
 q:v.Q≠some []
 e:v.E≠some []
 o:v.O≠some []
 t:v.T≠some []
 ea:∀a∈ol v.E,∃V,a.eU=ov aI (some V)/\V≠[]
 tb:∀t∈ol v.T,∃B,t.jQ=ov bD (some B)/\B≠[]
structure RG (s:aO) (v:SV):Prop where
 now:0<=s.now/\s.now<=1099511627776
 j:Rg s.bO.gX.aL
 f:Rg s.bO.fin.aL
 nd:∀n∈v.ns,RB n.block/\n.block.slot<=s.now
 or:∀b∈ol v.O,RB b/\Pr b.root
 rt:∀n∈v.ns,Pr n.block.root
 fe:s.bO.fin.aL<=s.bO.gX.aL/\s.bO.gX.aL<=Fl s s.now
 ds:(v.ns.map fun n=>n.block.root).Nodup
 tb:∃t∈ol v.T,t.ck=s.bO.gX
 ne:NEv v
theorem KH {ns:List Node} {i:Int} (h0:0<=i) (h1:i<ns.length):nd ns i∈ns:=by
 obtain⟨h,e⟩:=Nu h0 h1
 rw[e];exact List.getElem_mem h
theorem Ym (ns:List Node) (i:Int):∀k:Nat,k<=ns.length->∀n∈(oU ns i k).1,∃a∈ns,n.block=a.block/\n.status=a.status
 | 0,_,n,hn=>by simp[oU] at hn
 | k+1,hk,n,hn=>by
   unfold oU at hn;simp only at hn
   split at hn
   ·rcases List.mem_append.1 hn with hn|hn
    ·exact Ym ns i k (by omega) n hn
    ·rw[List.mem_singleton] at hn;subst hn;exact⟨nd ns k,KH (by omega) (by omega),rfl,rfl⟩
   ·exact Ym ns i k (by omega) n hn
theorem D3 (ns:List Node) (i:Int):∀k:Nat,k<=ns.length->((oU ns i k).1.map (·.block)).Sublist ((ns.take k).map (·.block))
 | 0,_=>by simp[oU]
 | k+1,hk=>by
   have ih:=D3 ns i k (by omega)
   have e:ns.take (k+1)=ns.take k++[nd ns k]:=by
    rw[List.take_succ_eq_append_getElem (by omega)]
    have h:k<ns.length:=by omega
    simp[Go.Ab.nd,h]
   unfold oU;simp only
   rw[e,List.map_append];split
   ·rw[List.map_append];exact ih.append (by simp)
   ·exact ih.trans (List.sublist_append_left ..)
theorem M0 {ns:List Node} (h:(ns.map fun n=>n.block.root).Nodup) (i:Int):((oU ns i ns.length).1.map fun n=>n.block.root).Nodup:=by
 have h1:=(D3 ns i ns.length (Nat.le_refl _)).map (·.root)
 rw[List.take_length] at h1;simp only[List.map_map] at h1;exact h.sublist h1
theorem RG.dG {s:aO} {v:SV} (r:RG s v) {c1 c2:fU} (r1:Rg c1.aL) (r2:Rg c2.aL):RG (xZ s v c1 c2) (Ix s v c1 c2):=by
 have hJ:Rg (Ib s c1).aL:=by unfold Ib;split;exact r1;exact r.j
 have hF:Rg (Fo s c2).aL:=by unfold Fo;split;exact r2;exact r.f
 by_cases b:mT s v (Ib s c1) (Fo s c2)
 ·rw[show xZ s v c1 c2=s from if_pos b,show Ix s v c1 c2=v from if_pos b];exact r
 have fe:(Fo s c2).aL<=(Ib s c1).aL/\(Ib s c1).aL<=Fl s s.now:=by
  unfold mT at b;simp only[not_or] at b;obtain⟨_,_,_,_,_,_,_,b8,b9,_⟩:=b
  omega
 have tb:∃t∈ol (nz (zI (ol v.T) (Ib s c1).aL)),t.ck=Ib s c1:=by
  unfold mT at b;simp only[not_or] at b;obtain⟨_,_,_,_,_,_,_,_,_,b10⟩:=b
  unfold W6 at b10;rcases Gc (fun k=>(gx iW (ol v.T) k).ck=Ib s c1) (ol v.T).length with ⟨e,_⟩|⟨k,h1,h2,_,h3⟩
  ·rw[e] at b10;omega
  ·refine⟨gx iW (ol v.T) k, ?_,h2⟩
   rw[oY];refine List.mem_filter.2 ⟨uM (by omega) (by omega),decide_eq_true ?_⟩
   rw[h2];exact Int.le_refl _
 by_cases e:Fo s c2=s.bO.fin
 ·rw[show xZ s v c1 c2=_ from (if_neg b).trans (if_pos e),show Ix s v c1 c2=_ from (if_neg b).trans (if_pos e)];exact⟨r.now,hJ,hF,r.nd,r.or,r.rt,fe,r.ds,tb,⟨r.ne.q,r.ne.e,r.ne.o,AM _,r.ne.ea,fun t ht=>r.ne.tb t (by have ht:t∈ol (nz (zI (ol v.T) (Ib s c1).aL)):=ht;rw[oY] at ht;exact (List.mem_filter.1 ht).1)⟩⟩
 ·rw[show xZ s v c1 c2=_ from (if_neg b).trans (if_neg e),show Ix s v c1 c2=_ from (if_neg b).trans (if_neg e)];refine⟨r.now,hJ,hF,fun n hn=>?_,fun o ho=>?_,fun n hn=>?_,fe,M0 r.ds _,tb,⟨r.ne.q,r.ne.e,AM _,AM _,r.ne.ea,fun t ht=>r.ne.tb t (by have ht:t∈ol (nz (zI (ol v.T) (Ib s c1).aL)):=ht;rw[oY] at ht;exact (List.mem_filter.1 ht).1)⟩⟩
  ·obtain⟨a,ha,e1,_⟩:=Ym _ _ _ (Nat.le_refl _) n hn
   rw[e1];exact r.nd a ha
  ·have ho:o∈ol (nz ((ol v.O).filter fun b=>decide ((Fm s (Fo s c2).aL).1<b.slot))):=ho
   rw[oY] at ho;exact r.or o (List.mem_filter.1 ho).1
  ·obtain⟨a,ha,e1,_⟩:=Ym _ _ _ (Nat.le_refl _) n hn
   rw[e1];exact r.rt a ha
theorem aAb {s:aO} {v:SV} {b:Block} (hb:Mq s v b=0\/Mq s v b=10):b.slot<=s.now:=by
 unfold Mq at hb;by_cases g1:b.root=dK
 ·rw[if_pos g1] at hb;omega
 rw[if_neg g1] at hb;by_cases g2:KnB v b.root
 ·rw[if_pos g2] at hb;omega
 rw[if_neg g2] at hb;by_cases g3:s.now<b.slot
 ·rw[if_pos g3] at hb;omega
 ·omega
theorem aD6 {s:aO} {v:SV} {b:Block} (hb:Mq s v b=0):aP v.ns b.root<0:=by
 rcases Int.lt_or_le (aP v.ns b.root) 0 with h|h
 ·exact h
 ·unfold Mq at hb;by_cases g1:b.root=dK
  ·rw[if_pos g1] at hb;omega
  ·rw[if_neg g1,if_pos (.inr h)] at hb;omega
theorem M1 {ns:List Node} {r:cJ} (h:aP ns r<0):r ∉ ns.map fun n=>n.block.root:=by
 intro hm;obtain⟨n,hn,e⟩:=List.mem_map.1 hm
 obtain⟨k,hk,rfl⟩:=List.getElem_of_mem hn
 have:0<=aP ns r:=Qm (j:=(k:Int)) (by omega) (by omega) (by
  have:Go.Ab.nd ns (k:Int)=ns[k]:=by simp[Go.Ab.nd,hk]
  rw[this];exact e)
 omega
theorem RG.ins {s:aO} {v:SV} (r:RG s v) {b:Block} (rb:RB b/\Pr b.root) (hc:Mq s v b=0):RG (tK s v b) (lF s v b):=by
 have hs:=aAb (.inl hc)
 have g1:RG (Tryz.Tm s v b) (Qo v b):=⟨r.now,r.j,r.f,fun n hn=>by
  rcases List.mem_append.1 (show n∈v.ns++[⟨b,aP v.ns b.parent,Xb b⟩] from hn) with hn|hn
  ·exact r.nd n hn
  ·rw[List.mem_singleton] at hn;subst hn;exact⟨rb.1,hs⟩,r.or,fun n hn=>by
  rcases List.mem_append.1 (show n∈v.ns++[⟨b,aP v.ns b.parent,Xb b⟩] from hn) with hn|hn
  ·exact r.rt n hn
  ·rw[List.mem_singleton] at hn;subst hn;exact rb.2,r.fe,by
  show ((v.ns++[(⟨b,aP v.ns b.parent,Xb b⟩:Node)]).map fun n:Node=>n.block.root).Nodup
  rw[List.map_append];refine List.nodup_append.2 ⟨r.ds,by simp,fun x hx y hy=>?_⟩
  simp only[List.map_cons,List.map_nil,List.mem_singleton] at hy;rintro rfl
  exact M1 (aD6 hc) (hy ▸ hx),r.tb,⟨r.ne.q,r.ne.e,r.ne.o,r.ne.t,r.ne.ea,r.ne.tb⟩⟩
 have g2:=g1.dG rb.1.j rb.1.f
 unfold tK lF;split
 ·exact RG.dG g2 rb.1.pj rb.1.pf
 ·exact g2
theorem RG.XV {s:aO} {v:SV} (r:RG s v) (O:Option (List Block)) (x:AV) (h:∀b∈ol O,RB b/\Pr b.root) (hO:O≠some []):RG (mU s x) { v with O:=O }:=⟨r.now,r.j,r.f,r.nd,h,r.rt,r.fe,r.ds,r.tb,⟨r.ne.q,r.ne.e,hO,r.ne.t,r.ne.ea,r.ne.tb⟩⟩
theorem RG.iQ {s:aO} {v:SV} (r:RG s v) (x:cJ):RG { s with iQ:=x } v:=⟨r.now,r.j,r.f,r.nd,r.or,r.rt,r.fe,r.ds,r.tb,r.ne⟩
theorem GI.mono {s:aO} {v:SV} {q q':Int} (h:GI s v q) (h1:q<=q') (h2:q'<=900000):GI s v q' :=
 ⟨h.sd,h.up,h.PI,h.pos,h.nl,h.XS,h.rD,h.QF,h.nB,h.nO,h.QG,h.nE,h.WG,h.nT,h.XT,by have:=h.nQ;omega,h2,h.gX⟩
theorem Kq:Flat (.agg (aB gK)):=by simp only[dN,gK,oA,Nw,Gg,Tj,and_self]
def StR (s:aO) (q:Int) (r:AV):Prop:=∃(s':aO) (e:Int),r=.dX [.agg (aB s'),.v (.int .i64 e)]/\Flat (.agg (aB s'))/\e≠21/\(e=0->∃v',GI s' v' q/\RG s' v'/\s'.cFg=s.cFg)
def StN (s:aO) (v:SV) (q:Int) (r:AV):Prop:=∃(s':aO) (e:Int),r=.dX [.agg (aB s'),.v (.int .i64 e)]/\Flat (.agg (aB s'))/\e≠21/\(e=0->∃v',GI s' v' q/\RG s' v'/\s'.cFg=s.cFg/\v'.ns=v.ns)
theorem aId (s:aO) (v:SV) (b:Block):Mq s v b≠21:=by
 unfold Mq;repeat (split;simp)
 simp
theorem aD7 (x:Int) (h1:0<=x) (h2:x<18446744073709551616):IntKind.u64.wrap x=x:=by
 unfold IntKind.wrap;simp[IntKind.signed,IntKind.bits]
 omega
theorem aD8 (o:Option (List cJ)) (hn:((ol o).length:Int)<1000000) (r:cJ):∃x,aC Tryz.prog 250 [ov gS o,.agg (aX r)]=some x/\∃b:Bool,x=.v (.bool b):=by
 rw[cL Tryz.func250 rfl aNi (by cases o<;>rfl)]
 simp only[Z8,seval];refine cB (fun m st=>∃k:Nat,(st.env 0=ov gS o/\st.env 3=.ptr 3 0 0/\st.heap 3 0=some (.cells (aX r))/\st.env 5=.v (.int .i64 k))/\(∀j:Nat,j<k->¬(gx dK (ol o) (j:Int)=r))/\k<=(ol o).length/\m=(ol o).length-k)
  (fun e st=>(e=.ret/\∃k:Nat,k<(ol o).length/\(gx dK (ol o) (k:Int)=r)/\(∀j:Nat,j<k->¬(gx dK (ol o) (j:Int)=r))/\st.env 4=.v (.bool true))\/(e=.exit 0/\(∀j:Nat,j<(ol o).length->¬(gx dK (ol o) (j:Int)=r))/\st.env 0=ov gS o/\st.env 3=.ptr 3 0 0/\st.heap 3 0=some (.cells (aX r)))) ((ol o).length) ?step ?start ?rest
 case step =>
  rintro m st ⟨k,hI,hj,hk,hm⟩
  by_cases aZ:(k:Int)<(ol o).length
  ·have q0:(0:Int)<=k:=by omega
   have hw:IntKind.i64.wrap ((k:Int)+1)=((k+1:Nat):Int):=by rw[pM _ (by omega) (by omega)];omega
   by_cases hh:gx dK (ol o) (k:Int)=r
   ·apply oT (.ret)
    ·simp only[Z8,seval,hI,aZ,q0,hh];rfl
    ·exact .inl ⟨rfl,k,by omega,hh,hj,by simp only[E8,seval]⟩
   ·apply oN ((ol o).length-(k+1))
    ·simp only[Z8,seval,hI,aZ,q0,hh,hw];rfl
    ·exact⟨k+1,by simp only[E8,seval,hI],fun j h=>(Nat.lt_succ_iff_lt_or_eq.1 h).elim (hj j) fun e=>by subst e;exact hh,by omega,rfl⟩
  ·apply oT (.exit 0)
   ·simp only[Z8,seval,hI,aZ];rfl
   ·exact .inr ⟨rfl,fun j h=>hj j (by omega),by simp only[E8,seval,hI]⟩
 case start=>exact⟨0,by simp only[E8,seval]<;>rfl,fun j h=>by omega,by omega,by omega⟩
 case rest =>
  rintro e st (⟨rfl,k,hk,hh,hj,h⟩|⟨rfl,hj,hI⟩)
  ·simp only[Z8,seval];exact⟨_,bT rfl (by simp only[E8,seval,h]<;>rfl) (by first|exact .v _|simp only[dN,h]),_,rfl⟩
  ·simp only[Z8,seval];exact⟨_,bT rfl (by simp only[E8,seval]<;>rfl) (by first|exact .v _|simp only[dN]),_,rfl⟩
theorem M3 (l:List Table) (c:fU):-1<=W6 l c/\W6 l c<l.length:=XL _ _
theorem aSI {s:aO} {v:SV} (hs:SD s v):∃x,aC Tryz.prog 239 [.agg (aB s)]=some x/\∃o:Option (List Int),x=ov bD o/\((ol o).length:Int)<1000000:=by
 have WE:=hs.fT
 rw[cL Tryz.func239 rfl aNj rfl];have r1:=M3 (ol v.T) s.bO.gX
 by_cases g1:W6 (ol v.T) s.bO.gX<0
 ·simp only[Z8,seval,hs.tables,C9 _ hs.nT WE,g1];exact⟨_,bT rfl (by simp only[E8,seval]<;>rfl) (by first|exact .v _|simp only[dN]),none,rfl,by simp[ol]⟩
 have q0:0<=W6 (ol v.T) s.bO.gX:=by omega
 obtain⟨b,hb,hl⟩:=hs.tB _ (uM (z:=iW) q0 r1.2)
 simp only[Z8,seval,hs.tables,C9 _ hs.nT WE,g1,q0,r1,hb];exact⟨_,bT rfl (by simp only[E8,seval,hb]<;>rfl) (dP b),b,rfl,hl⟩
theorem aSJ (a b:Claim) (ha:Flat a.eU) (hb:Flat b.eU):∃x,aC Tryz.prog 234 [.agg (gN a),.agg (gN b)]=some x/\∃c:Bool,x=.v (.bool c):=by
 rw[cL Tryz.func234 rfl aNk rfl];by_cases g1:a.target=b.target
 ·by_cases g2:a.source=b.source
  ·by_cases g3:a.root=b.root
   all_goals
    have g4:¬a.source<b.source:=by omega
    have g5:¬b.source<a.source:=by omega
    simp only[Z8,seval,bt g1,bt g2,g3,g4,g5];exact⟨_,bT rfl (by simp only[E8,seval]<;>rfl) (by first|exact .v _|simp only[dN]),_,rfl⟩
  ·by_cases g4:a.source<b.source
   all_goals
    by_cases g5:b.source<a.source
    all_goals
     by_cases g6:b.target<a.target
     all_goals
      by_cases g7:a.target<b.target
      all_goals
       simp only[Z8,seval,bt g1,bf g2,g4,g5,g6,g7];exact⟨_,bT rfl (by simp only[E8,seval]<;>rfl) (by first|exact .v _|simp only[dN]),_,rfl⟩
 ·by_cases g4:a.source<b.source
  all_goals
   by_cases g5:b.source<a.source
   all_goals
    by_cases g6:b.target<a.target
    all_goals
     by_cases g7:a.target<b.target
     all_goals
      simp only[Z8,seval,bf g1,g4,g5,g6,g7];exact⟨_,bT rfl (by simp only[E8,seval]<;>rfl) (by first|exact .v _|simp only[dN]),_,rfl⟩
theorem aSK {s:aO} {v:SV} (hs:SD s v):∃x,aC Tryz.prog 209 [.agg (aB s)]=some x/\∃r:cJ,x=.agg (aX r):=by
 rw[cL Tryz.func209 rfl aNl rfl];have r1:=fL v.ns s.bO.gX.root
 by_cases g1:0<=aP v.ns s.bO.gX.root
 ·by_cases g2:(nd v.ns (aP v.ns s.bO.gX.root)).status=1
  ·simp only[Z8,seval,hs.tree,mS _ _ hs.nn,g1,r1,bt g2];exact⟨_,fK rfl (by simp only[E8,seval]<;>rfl) (by simp only[Z8,seval]<;>rfl) (by simp only[dN,and_self]),_,rfl⟩
  ·simp only[Z8,seval,hs.tree,mS _ _ hs.nn,g1,r1,bf g2];exact⟨_,fK rfl (by simp only[E8,seval]<;>rfl) (by simp only[Z8,seval]<;>rfl) (by simp only[dN,and_self]),_,rfl⟩
 ·simp only[Z8,seval,hs.tree,mS _ _ hs.nn,g1];exact⟨_,fK rfl (by simp only[E8,seval]<;>rfl) (by simp only[Z8,seval]<;>rfl) (by simp only[dN,and_self]),_,rfl⟩
theorem aSL (c:Config) (hc:Flat c.jQ) (x:Int):∃r,aC Tryz.prog 240 [.agg (bU c),.v (.int .u64 x)]=some r/\∃a e:Int,r=.dX [.v (.int .u64 a),.v (.int .i64 e)]:=by
 rw[cL Tryz.func240 rfl aNm rfl];by_cases g1:c.rD<1
 ·simp only[Z8,seval,g1];exact⟨_,dJ rfl rfl rfl (by simp only[E8,seval]<;>rfl) (by simp only[E8,seval]<;>rfl),_,_,rfl⟩
 by_cases g2:64<c.rD
 ·simp only[Z8,seval,g1,g2];exact⟨_,dJ rfl rfl rfl (by simp only[E8,seval]<;>rfl) (by simp only[E8,seval]<;>rfl),_,_,rfl⟩
 by_cases g3:100<c.Jb
 ·simp only[Z8,seval,g1,g2,g3];exact⟨_,dJ rfl rfl rfl (by simp only[E8,seval]<;>rfl) (by simp only[E8,seval]<;>rfl),_,_,rfl⟩
 by_cases g4:4611686018427387904<x
 ·simp only[Z8,seval,g1,g2,g3,g4];exact⟨_,dJ rfl rfl rfl (by simp only[E8,seval]<;>rfl) (by simp only[E8,seval]<;>rfl),_,_,rfl⟩
 have g5:(c.rD=0)=False:=eq_false (by omega)
 simp only[Z8,seval,g1,g2,g3,g4,g5];exact⟨_,dJ rfl rfl rfl (by simp only[E8,seval]<;>rfl) (by simp only[E8,seval]<;>rfl),_,_,rfl⟩
noncomputable def aIe (o:Option (List cJ)) (r:cJ):Bool:=if h:((ol o).length:Int)<1000000 then Classical.choose (Classical.choose_spec (aD8 o h r)).2 else false
theorem aSM (o:Option (List cJ)) (hn:((ol o).length:Int)<1000000) (r:cJ) (st:St) (d:Option Nat):aN (aC Tryz.prog) 250 [ov gS o,.agg (aX r)] st d=some { dst:=d,val:=.v (.bool (aIe o r))}:=by
 have h:=(Classical.choose_spec (aD8 o hn r)).1
 rw[Classical.choose_spec (Classical.choose_spec (aD8 o hn r)).2] at h;rw[show aIe o r=Classical.choose (Classical.choose_spec (aD8 o hn r)).2 from dif_pos hn];exact bL (bH (Jc o) (qS r)) h (.v _)
theorem aSN (o:Option (List Int)) (hn:((ol o).length:Int)<999999) (x:Int):∃r,aC Tryz.prog 235 [ov aI o,.v (.int .i64 x)]=some r/\(r=ov aI o\/∃L:List Int,r=.uniq 3 1 L.length (aI L)/\L.length=(ol o).length+1):=by
 rw[cG Tryz.func235 rfl aNn (by kernel_rfl) (by cases o<;>rfl)]
 simp only[ZG,seval,AN];refine mD (fun m st=>∃k:Nat,(st.env 0=ov aI o/\st.env 1=.v (.int .i64 x)/\st.env 5=.v (.int .i64 k))/\k<=(ol o).length/\m=(ol o).length-k)
  (fun e st=>e=.exit 0/\∃k:Nat,(st.env 0=ov aI o/\st.env 1=.v (.int .i64 x)/\st.env 5=.v (.int .i64 k))/\k<=(ol o).length) (ol o).length ?step ?start ?rest
 case step =>
  rintro m st ⟨k,hI,hk,hm⟩
  by_cases aZ:(k:Int)<(ol o).length
  ·have q0:(0:Int)<=k:=by omega
   have hw:IntKind.i64.wrap ((k:Int)+1)=((k+1:Nat):Int):=by rw[pM _ (by omega) (by omega)];omega
   by_cases h1:gx (0:Int) (ol o) (k:Int)<x
   ·apply Ge ((ol o).length-(k+1))
    ·simp only[ZG,seval,AN,hI,aZ,q0,h1,hw];rfl
    ·exact⟨k+1,by simp only[E8,seval,hI],by omega,rfl⟩
   ·apply OS (.exit 0)
    ·simp only[ZG,seval,AN,hI,aZ,q0,h1];rfl
    ·exact⟨rfl,k,by simp only[E8,seval,hI],hk⟩
  ·apply OS (.exit 0)
   ·simp only[ZG,seval,AN,hI,aZ];rfl
   ·exact⟨rfl,k,by simp only[E8,seval,hI],hk⟩
 case start=>exact⟨0,by simp only[E8,seval]<;>rfl,by omega,by omega⟩
 case rest =>
  rintro e st ⟨rfl,k,hI,hk⟩
  have e1:ol (o.map (·.take k))=(ol o).take k:=by cases o<;>simp[ol]
  have e2:ol (o.map (·.drop k))=(ol o).drop k:=by cases o<;>simp[ol]
  have n1:((((ol o).take k).length:Nat):Int)<1000000:=by rw[List.length_take];omega
  have n2:((((ol o).drop k).length:Nat):Int)<1000000:=by rw[List.length_drop];omega
  have n3:((((ol o).take k++[x]).length:Nat):Int)<1000000:=by rw[List.length_append,List.length_take];simp;omega
  have q0:(0:Int)<=k:=by omega
  have q1:(k:Int)<=((ol o).length:Int):=by omega
  have go:∃r,some (AV.uniq 3 1 ((ol o).take k++[x]++(ol o).drop k).length (aI ((ol o).take k++[x]++(ol o).drop k)))=some r/\(r=ov aI o\/∃L:List Int,r=.uniq 3 1 L.length (aI L)/\L.length=(ol o).length+1) :=
   ⟨_,rfl,.inr ⟨_,rfl,by simp;omega⟩⟩
  by_cases aZ:(k:Int)<(ol o).length
  ·by_cases h2:gx (0:Int) (ol o) (k:Int)=x
   ·simp only[ZG,seval,AN,hI,aZ,q0,bt h2];exact⟨_,bT rfl (by simp only[E8,seval,hI]<;>rfl) (bR o),.inl rfl⟩
   ·simp only[ZG,seval,AN,Cb,Cc,and_self,hI,aZ,q0,q1,bf h2,Int.toNat_natCast,e1,e2,Qp _ n1,Gh _ _ _ _ n1,KI _ _ _ _ n3 n2];refine⟨_,tH rfl (by simp only[E8,seval]<;>rfl) (by simp only[E8,seval]<;>rfl) (fS _),.inr ⟨_,rfl,by simp;omega⟩⟩
  ·simp only[ZG,seval,AN,Cb,Cc,and_self,hI,aZ,q0,q1,Int.toNat_natCast,e1,e2,Qp _ n1,Gh _ _ _ _ n1,KI _ _ _ _ n3 n2];refine⟨_,tH rfl (by simp only[E8,seval]<;>rfl) (by simp only[E8,seval]<;>rfl) (fS _),.inr ⟨_,rfl,by simp;omega⟩⟩
theorem aSO (o:Option (List Int)) (hn:((ol o).length:Int)<1000000) (a:Int):aC Tryz.prog 49 [ov aI o,.v (.int .i64 a)]=some (.v (.bool (decide (a∈ol o)))):=by
 cases o with
 | none=>rw[show ol (none:Option (List Int))=[] from rfl];simp only[List.not_mem_nil,decide_false];exact aL0 a
 | some l=>exact c49 l a hn
theorem aIf (o:Option (List Int)) (hn:((ol o).length:Int)<1000000) (a:Int) (st:St) (d:Option Nat):aN (aC Tryz.prog) 49 [ov aI o,.v (.int .i64 a)] st d=some { dst:=d,val:=.v (.bool (decide (a∈ol o)))}:=bL (bH (bR o) (.v _)) (aSO o hn a) (.v _)
theorem aSP (t:vK) (L:Option (List kO)) (Q:Option (List Int)) (hL:t.dO=ov cP L) (hQ:t.gW=ov aI Q) (nL:((ol L).length:Int)<1000000) (nQ:((ol Q).length:Int)<1000000)
 (B:Option (List Int)) (nB:((ol B).length:Int)<1000000) (R:Option (List cJ)) (nR:((ol R).length:Int)<1000000) :
 ∃r,aC Tryz.prog 248 [.agg (eP t),ov bD B,ov gS R]=some r/\∃a:Int,r=.v (.int .u64 a):=by
 rw[cL Tryz.func248 rfl aNo (by cases B<;>cases R<;>rfl)]
 simp only[Z8,seval];refine cB (fun m st=>∃(k:Nat) (a:Int),(st.env 1=ov bD B/\st.env 2=ov gS R/\st.env 3=.ptr 3 0 0/\st.heap 3 0=some (.cells (eP t))/\st.env 7=.v (.int .u64 a)/\st.env 8=.v (.int .i64 k))/\k<=(ol B).length/\m=(ol B).length-k)
  (fun e st=>e=.exit 0/\∃a:Int,st.env 7=.v (.int .u64 a)) (ol B).length ?step ?start ?rest
 case step =>
  rintro m st ⟨k,a,hI,hk,hm⟩
  by_cases aZ:(k:Int)<(ol B).length
  ·have q0:(0:Int)<=k:=by omega
   have hw:IntKind.i64.wrap ((k:Int)+1)=((k+1:Nat):Int):=by rw[pM _ (by omega) (by omega)];omega
   by_cases h1:(k:Int)<(ol L).length
   ·cases h2:(gx tV (ol L) (k:Int)).has
    ·apply oN ((ol B).length-(k+1))
     ·simp only[Z8,seval,hI,aZ,q0,hL,hQ,h1,h2,hw];rfl
     ·exact⟨k+1,_,by simp only[E8,seval,hI]<;>rfl,by omega,rfl⟩
    ·by_cases h3:(k:Int)∈ol Q
     ·apply oN ((ol B).length-(k+1))
      ·simp only[Z8,seval,hI,aZ,q0,hL,hQ,h1,h2,aIf Q nQ,h3,decide_true,hw];rfl
      ·exact⟨k+1,_,by simp only[E8,seval,hI]<;>rfl,by omega,rfl⟩
     ·cases h4:aIe R (gx tV (ol L) (k:Int)).root
      all_goals
       refine oZ (st':=?_) ?_ ((ol B).length-(k+1)) (by omega) ?_
       rotate_left
       ·simp only[Z8,seval,hI,aZ,q0,hL,hQ,h1,h2,aIf Q nQ,h3,decide_false,aSM R nR,h4,hw];rfl
       ·exact⟨k+1,_,by simp only[E8,seval,hI]<;>rfl,by omega,rfl⟩
   ·apply oT (.exit 0)
    ·simp only[Z8,seval,hI,aZ,q0,hL,h1];rfl
    ·exact⟨rfl,a,by simp only[E8,seval,hI]⟩
  ·apply oT (.exit 0)
   ·simp only[Z8,seval,hI,aZ];rfl
   ·exact⟨rfl,a,by simp only[E8,seval,hI]⟩
 case start=>exact⟨0,0,by simp only[E8,seval]<;>rfl,by omega,by omega⟩
 case rest =>
  rintro e st ⟨rfl,a,h⟩
  simp only[Z8,seval,h];exact⟨_,bT rfl (by simp only[E8,seval,h]<;>rfl) (by first|exact .v _|simp only[dN,h]),_,rfl⟩
theorem aSQ (ns:List Node) (hn:(ns.length:Int)<1000000) (l:List Int) (hl:l.length=ns.length) (r:cJ) (a:Int):∃x,aC Tryz.prog 243 [.agg (cU ⟨ns⟩),.sl l.length (bD l),.agg (aX r),.v (.int .u64 a)]=some x/\∃m:List Int,x=.uniq 23 1 m.length (bD m)/\m.length=ns.length:=by
 have Hz:(l.length:Int)<1000000:=by omega
 have rr:=fL ns r
 rw[cL Tryz.func243 rfl aNp rfl];by_cases g1:0<=aP ns r
 case neg =>
  simp only[Z8,seval,Gf _ Hz,mS _ _ hn,g1];exact⟨_,tH rfl (by simp only[E8,seval]<;>rfl) (by simp only[E8,seval]<;>rfl) (iC _),l,rfl,hl⟩
 by_cases g2:(nd ns (aP ns r)).status=2
 ·simp only[Z8,seval,Gf _ Hz,mS _ _ hn,g1,rr,bt g2];exact⟨_,tH rfl (by simp only[E8,seval]<;>rfl) (by simp only[E8,seval]<;>rfl) (iC _),l,rfl,hl⟩
 by_cases g3:r=dK
 ·subst g3;simp only[Z8,seval,Gf _ Hz,mS _ _ hn,g1,rr,bf g2];exact⟨_,tH rfl (by simp only[E8,seval]<;>rfl) (by simp only[E8,seval]<;>rfl) (iC _),l,rfl,hl⟩
 have q1:aP ns r<(l.length:Int):=by omega
 have q2:(aP ns r).toNat<l.length:=by omega
 have q3:(aP ns r).toNat+1<=l.length:=by omega
 have hy:=M4 g1 q1
 have Zp:∀z:Int,dG (bD l) (aP ns r).toNat [.v (.int .u64 z)] ((aP ns r).toNat+1)=bD (l.set (aP ns r).toNat z):=fun z=>by
  have:=aAc l (aP ns r) z q2
  simpa using this
 have ld:=aAd (T:=23) (n:=l.length) (k:=1) g1 q1 XQ (by decide) (by decide)
 rw[Nat.mul_one] at ld;simp only[Z8,seval,Gf _ Hz,mS ns r hn,g1,rr,bf g2,g3,q1,q2,q3,hy,Zp,ld,Nat.mul_one];exact⟨_,tH rfl (by simp only[E8,seval]<;>rfl) (by simp only[E8,seval]<;>rfl) (iC _),_,by rw[List.length_set],by rw[List.length_set];exact hl⟩
theorem aD9 (r:cJ):gS [r]=aX r:=by simp[gS]
theorem aAe (r:cJ):jE (some (.row 27 32 1 (aX r)))=some (.sl 1 (gS [r])):=by rw[<- aD9];exact wV 1 [r]
noncomputable def aNq (t:vK) (B:Option (List Int)) (r:cJ):Int:=if h:∃a:Int,aC Tryz.prog 248 [.agg (eP t),ov bD B,ov gS (some [r])]=some (.v (.int .u64 a)) then Classical.choose h else 0
theorem aNr (t:vK) (L:Option (List kO)) (Q:Option (List Int)) (hL:t.dO=ov cP L) (hQ:t.gW=ov aI Q) (nL:((ol L).length:Int)<1000000) (nQ:((ol Q).length:Int)<1000000)
 (B:Option (List Int)) (nB:((ol B).length:Int)<1000000) (r:cJ) (s g:Nat) (st:St) (d:Option Nat) (hh:st.heap s g=some (.row 27 32 1 (aX r))) :
 aN (aC Tryz.prog) 248 [.agg (eP t),ov bD B,.own s g] st d=some { dst:=d,val:=.v (.int .u64 (aNq t B r))}:=by
 obtain⟨x,hx,a,rfl⟩:=aSP t L Q hL hQ nL nQ B nB (some [r]) (by simp[ol])
 have he:∃a:Int,aC Tryz.prog 248 [.agg (eP t),ov bD B,ov gS (some [r])]=some (.v (.int .u64 a)):=⟨a,hx⟩
 have hf:Flat (.agg (eP t)):=(Qd t).2 ⟨by rw[hL];exact rA L,by rw[hQ];exact bR Q⟩
 rw[show aNq t B r=Classical.choose he from dif_pos he];rw[kJ,List.map_cons,List.map_cons,List.map_cons,List.map_nil,dQ hf,dQ (dP B),wA,hh,aAe,bJ,bJ,bJ,gB];exact Zs (Classical.choose_spec he)
theorem aSR (ns:List Node) (hn:(ns.length:Int)<1000000) (h0:0<ns.length) (t:vK) (L:Option (List kO)) (Q:Option (List Int)) (hL:t.dO=ov cP L) (hQ:t.gW=ov aI Q) (nL:((ol L).length:Int)<1000000) (nQ:((ol Q).length:Int)<1000000)
 (B:Option (List Int)) (nB:((ol B).length:Int)<1000000) :
 ∃x,aC Tryz.prog 241 [.agg (cU ⟨ns⟩),.agg (eP t),ov bD B]=some x/\∃m:List Int,x=.uniq 23 1 m.length (bD m)/\m.length=ns.length:=by
 have kw:=fun r g=>aNr t L Q hL hQ nL nQ B nB r 33 g
 rw[cL Tryz.func241 rfl aNs (by cases B<;>rfl)]
 simp only[Z8,seval];refine cB (fun m st=>∃k:Nat,(st.env 3=.ptr 3 0 0/\st.heap 3 0=some (.cells (cU ⟨ns⟩))/\st.env 4=.ptr 4 0 0/\st.heap 4 0=some (.cells (eP t))/\st.env 2=ov bD B/\st.env 8=.v (.int .i64 k))/\((k=0/\st.env 7=.v (.slice none 0 0))\/∃(l:List Int) (g:Nat),st.env 7=.own 38 g/\g<st.aK 38/\st.heap 38 g=some (.row 23 1 l.length (bD l))/\l.length=k)/\k<=ns.length/\m=ns.length-k)
  (fun e st=>e=.exit 0/\∃(l:List Int) (g:Nat),st.env 7=.own 38 g/\st.heap 38 g=some (.row 23 1 l.length (bD l))/\l.length=ns.length) ns.length ?step ?start ?rest
 case step =>
  rintro m st ⟨k,hI,h7,hk,hm⟩
  by_cases aZ:(k:Int)<ns.length
  ·have q0:(0:Int)<=k:=by omega
   have hw:IntKind.i64.wrap ((k:Int)+1)=((k+1:Nat):Int):=by rw[pM _ (by omega) (by omega)];omega
   by_cases h1:(nd ns k).status=2
   ·rcases h7 with ⟨xE,h7⟩|⟨l,g,h7,hg,Hn,hl⟩
    ·apply oN (ns.length-(k+1))
     ·simp only[Z8,seval,hI,h7,aZ,q0,bt h1,hw];rfl
     ·exact⟨k+1,by simp only[E8,seval,hI],.inr ⟨[0],st.aK 38,by simp only[E8,seval]<;>rfl,by simp only[E8,seval]<;>omega,by simp only[E8,seval]<;>rfl,by simp;omega⟩,by omega,rfl⟩
    ·have nl:(l.length:Int)<1000000:=by omega
     apply oN (ns.length-(k+1))
     ·simp only[Z8,seval,hI,h7,Hn,aZ,q0,bt h1,hw,yX _ _ _ _ nl];rfl
     ·exact⟨k+1,by simp only[E8,seval,hI],.inr ⟨_,st.aK 38,by simp only[E8,seval]<;>rfl,by simp only[E8,seval]<;>omega,by simp only[E8,seval]<;>rfl,by rw[List.length_append];simp;omega⟩,by omega,rfl⟩
   ·rcases h7 with ⟨xE,h7⟩|⟨l,g,h7,hg,Hn,hl⟩
    ·apply oN (ns.length-(k+1))
     ·simp only[Z8,seval,hI,h7,aZ,q0,bf h1,kw (nd ns k).block.root,hw];rfl
     ·exact⟨k+1,by simp only[E8,seval,hI],.inr ⟨[_],st.aK 38,by simp only[E8,seval]<;>rfl,by simp only[E8,seval]<;>omega,by simp only[E8,seval]<;>rfl,by simp;omega⟩,by omega,rfl⟩
    ·have nl:(l.length:Int)<1000000:=by omega
     apply oN (ns.length-(k+1))
     ·simp only[Z8,seval,hI,h7,Hn,aZ,q0,bf h1,kw (nd ns k).block.root,hw,yX _ _ _ _ nl];rfl
     ·exact⟨k+1,by simp only[E8,seval,hI],.inr ⟨_,st.aK 38,by simp only[E8,seval]<;>rfl,by simp only[E8,seval]<;>omega,by simp only[E8,seval]<;>rfl,by rw[List.length_append];simp;omega⟩,by omega,rfl⟩
  ·have Hy:k=ns.length:=by omega
   rcases h7 with ⟨xE,h7⟩|⟨l,g,h7,hg,Hn,hl⟩
   ·omega
   ·apply oT (.exit 0)
    ·simp only[Z8,seval,hI,aZ];rfl
    ·exact⟨rfl,l,g,by simp only[E8,seval,h7],by simp only[E8,seval,Hn],by omega⟩
 case start=>exact⟨0,by simp only[E8,seval]<;>rfl,.inl ⟨rfl,by simp only[E8,seval]⟩,by omega,by omega⟩
 case rest =>
  rintro e st ⟨rfl,l,g,h7,Hn,hl⟩
  simp only[Z8,seval,h7];exact⟨_,tH rfl (by simp only[E8,seval,h7]<;>rfl) (by simp only[E8,seval,Hn]<;>rfl) (iC _),l,rfl,hl⟩
theorem aSS (ns:List Node) (hu:iB ns) (hn:(ns.length:Int)<1000000) (h0:0<ns.length) (l:List Int) (hl:l.length=ns.length) :
 ∃x,aC Tryz.prog 242 [.agg (cU ⟨ns⟩),.sl l.length (bD l)]=some x/\∃m:List Int,x=.uniq 23 1 m.length (bD m)/\m.length=ns.length:=by
 rw[cL Tryz.func242 rfl aNt rfl];simp only[Z8,seval];refine cB (fun m st=>∃k:Nat,(st.env 2=.ptr 2 0 0/\st.heap 2 0=some (.cells (cU ⟨ns⟩))/\st.env 1=.sl l.length (bD l)/\st.env 6=.v (.int .i64 k))/\((k=0/\st.env 5=.v (.slice none 0 0))\/∃(l:List Int) (g:Nat),st.env 5=.own 38 g/\g<st.aK 38/\st.heap 38 g=some (.row 23 1 l.length (bD l))/\l.length=k)/\k<=ns.length/\m=ns.length-k)
  (fun e st=>e=.exit 0/\∃(l:List Int) (g:Nat),st.env 5=.own 38 g/\st.heap 38 g=some (.row 23 1 l.length (bD l))/\l.length=ns.length) ns.length ?step ?start ?rest
 case step =>
  rintro m st ⟨k,hI,h5,hk,hm⟩
  by_cases aZ:(k:Int)<ns.length
  ·have q0:(0:Int)<=k:=by omega
   have hw:IntKind.i64.wrap ((k:Int)+1)=((k+1:Nat):Int):=by rw[pM _ (by omega) (by omega)];omega
   have kd:=k64 ns hu hn k (WX hu q0 aZ ns.length aZ)
   have hrg:=C4 ns k
   have JV:=Yh ns k ns.length
   obtain⟨D,hD⟩:∃D,Ho ns k ns.length=D:=⟨_,rfl⟩
   rw[hD] at kd hrg JV;simp only[Z8,seval,hI,aZ,q0,kd];refine J1 (fun mm st'=>∃(j:Nat) (a:Int),(st'.env 2=.ptr 2 0 0/\st'.heap 2 0=some (.cells (cU ⟨ns⟩))/\st'.env 1=.sl l.length (bD l)/\st'.env 6=.v (.int .i64 k)/\st'.env 5=st.env 5/\st'.aK 38=st.aK 38/\(∀g,st'.heap 38 g=st.heap 38 g)/\st'.env 7=.v (.int .u64 a)/\st'.env 8=.own 19 (st.aK 19)/\st'.heap 19 (st.aK 19)=some (.row 3 1 D.length (aI D))/\st'.env 9=.v (.int .i64 j))/\j<=D.length/\mm=D.length-j)
    (fun e st'=>e=.exit 2/\∃a:Int,(st'.env 2=.ptr 2 0 0/\st'.heap 2 0=some (.cells (cU ⟨ns⟩))/\st'.env 1=.sl l.length (bD l)/\st'.env 6=.v (.int .i64 k)/\st'.env 5=st.env 5/\st'.aK 38=st.aK 38/\(∀g,st'.heap 38 g=st.heap 38 g)/\st'.env 7=.v (.int .u64 a))) D.length ?aAf ?XY ?QH
   case aAf =>
    rintro mm st' ⟨j,a,hJ,hj,hmm⟩
    by_cases hjl:(j:Int)<D.length
    ·have p0:(0:Int)<=j:=by omega
     have hw2:IntKind.i64.wrap ((j:Int)+1)=((j+1:Nat):Int):=by rw[pM _ (by omega) (by omega)];omega
     obtain⟨hjt,hje⟩:=xW p0 hjl
     have hx:=hrg _ (List.getElem_mem hjt)
     rw[<- hje] at hx;have x0:=hx.1
     have x1:it D j<(l.length:Int):=by omega
     have gi:=nU p0 hjl
     apply oN (D.length-(j+1))
     ·simp only[Z8,seval,hJ,hjl,p0,x0,x1,gi,hw2];rfl
     ·exact⟨j+1,IntKind.u64.wrap (a+gx (0:Int) l (it D j)),by simp only[E8,seval,hJ,implies_true,and_self],by omega,rfl⟩
    ·apply oT (.exit 2)
     ·simp only[Z8,seval,hJ,hjl];rfl
     ·exact⟨rfl,a,by simp only[E8,seval,hJ,implies_true,and_self]⟩
   case XY=>exact⟨0,0,by simp only[E8,seval,hI,implies_true,and_self]<;>rfl,by omega,by omega⟩
   case QH =>
    rintro e st' ⟨rfl,a,hJ⟩
    obtain⟨j2,j2',j1,j6,j5,jc,jh,j7⟩:=hJ
    rcases h5 with ⟨xE,h5⟩|⟨l',g,h5,hg,Bj,Hz⟩
    ·rw[h5] at j5;refine Y4 (st':=?s3) ?h3 (ns.length-(k+1)) (by omega) ?q3
     case h3 =>
      simp only[Z8,seval,j2,j2',j1,j6,j5,jc,j7,hw];rfl
     case q3=>exact⟨k+1,by simp only[E8,seval,j2,j2',j1],.inr ⟨[a],st.aK 38,by simp only[E8,seval,jc]<;>rfl,by simp only[E8,seval,jc]<;>omega,by simp only[E8,seval,jc]<;>rfl,by simp;omega⟩,by omega,rfl⟩
    ·rw[h5] at j5;have nl:(l'.length:Int)<1000000:=by omega
     have jhh:=jh g
     rw[Bj] at jhh;refine Y4 (st':=?s4) ?h4 (ns.length-(k+1)) (by omega) ?q4
     case h4 =>
      simp only[Z8,seval,j2,j2',j1,j6,j5,jc,jhh,j7,hw,yX _ _ _ _ nl];rfl
     case q4=>exact⟨k+1,by simp only[E8,seval,j2,j2',j1],.inr ⟨l'++[a],st.aK 38,by simp only[E8,seval,jc]<;>rfl,by simp only[E8,seval,jc]<;>omega,by simp only[E8,seval,jc]<;>rfl,by rw[List.length_append];simp;omega⟩,by omega,rfl⟩
  ·have Hy:k=ns.length:=by omega
   rcases h5 with ⟨xE,h5⟩|⟨l,g,h5,hg,Bj,hl⟩
   ·omega
   ·apply oT (.exit 0)
    ·simp only[Z8,seval,hI,aZ];rfl
    ·exact⟨rfl,l,g,by simp only[E8,seval,h5],by simp only[E8,seval,Bj],by omega⟩
 case start=>exact⟨0,by simp only[E8,seval]<;>rfl,.inl ⟨rfl,by simp only[E8,seval]⟩,by omega,by omega⟩
 case rest =>
  rintro e st ⟨rfl,l,g,h5,Bj,hl⟩
  simp only[Z8,seval,h5];exact⟨_,tH rfl (by simp only[E8,seval,h5]<;>rfl) (by simp only[E8,seval,Bj]<;>rfl) (iC _),l,rfl,hl⟩
theorem aSU {s:aO} {v:SV} {q:Int} (h:GI s v q):∃x,aC Tryz.prog 223 [.agg (aB s)]=some x/\∃m:List Int,x=.uniq 23 1 m.length (bD m)/\m.length=v.ns.length:=by
 have hf:=h.sd.flat
 have hn:=h.sd.nn
 obtain⟨r1,e1,o,rfl,ho⟩:=aSI h.sd
 have k239:=kx e1 (cT hf) (dP o)
 obtain⟨r2,e2,a,c,rfl,_⟩:=aMY o ho
 have L2:=kx e2 (cT (dP o)) (.dX _ (bH (.v _) (.v _)))
 have hcb:Flat s.cFg.jQ:=h.sd.fl.1
 obtain⟨r3,e3,a3,c3,rfl⟩:=aSL s.cFg hcb a
 have k240:=kx e3 (bH ((Dr _).2 hcb) (.v _)) (.dX _ (bH (.v _) (.v _)))
 obtain⟨r4,e4,m1,rfl,hm1⟩:=aSR v.ns hn h.pos s.gE v.L v.Q h.sd.dO h.sd.gW h.sd.nL h.sd.nQ o ho
 have hfv:Flat (.agg (eP s.gE)):=(Qd _).2 ⟨h.sd.fl.2.1,h.sd.fl.2.2.1⟩
 have k241:∀(st:St),aN (aC Tryz.prog) 241 [.agg (cU ⟨v.ns⟩),.agg (eP s.gE),ov bD o] st (some 28)=_:=fun st=>jD (st:=st) (d:=28) (oW (nC _) hfv (dP o)) e4
 obtain⟨r5,e5,m2,rfl,hm2⟩:=aSQ v.ns hn m1 hm1 s.iQ a3
 have k243:∀(st:St) (g:Nat),st.heap 28 g=some (.row 23 1 m1.length (bD m1))->aN (aC Tryz.prog) 243 [.agg (cU ⟨v.ns⟩),.own 28 g,.agg (aX s.iQ),.v (.int .u64 a3)] st (some 37)=some { dst:=some 37,val:=.own 37 (st.aK 37),new:=some (37,[.row 23 1 m2.length (bD m2)])}:=by
  intro st g hh;rw[kJ,List.map_cons,List.map_cons,List.map_cons,List.map_cons,List.map_nil,Kr,wA,hh,vZ,To,Iy,bJ,bJ,bJ,bJ,gB];exact aAh e5 (HJ m2)
 obtain⟨r6,e6,m3,rfl,hm3⟩:=aSS v.ns h.up hn h.pos m2 hm2
 have k242:∀(st:St) (g:Nat),st.heap 37 g=some (.row 23 1 m2.length (bD m2))->aN (aC Tryz.prog) 242 [.agg (cU ⟨v.ns⟩),.own 37 g] st (some 38)=some { dst:=some 38,val:=.own 38 (st.aK 38),new:=some (38,[.row 23 1 m3.length (bD m3)])}:=by
  intro st g hh;rw[kJ,List.map_cons,List.map_cons,List.map_nil,Kr,wA,hh,vZ,bJ,bJ,gB];exact aAh e6 (HJ m3)
 rw[cL Tryz.func223 rfl aNu rfl];simp only[Z8,seval,k239,L2,eC,k240,h.sd.tree,k241,k243,k242];exact⟨_,tH rfl (by simp only[E8,seval]<;>rfl) (by simp only[E8,seval]<;>rfl) (iC _),m3,rfl,hm3⟩
noncomputable def FB (s:aO) (v:SV) (i:Int):fU:=if 0<=i/\i<v.ns.length then (if Fl s (nd v.ns i).block.slot<Fl s s.now then (nd v.ns i).block.dL.pj else (nd v.ns i).block.gX) else gY
theorem aSV {s:aO} {v:SV} (hs:SD s v) (hp:s.cFg.rD≠0) (i:Int):aC Tryz.prog 252 [.agg (aB s),.v (.int .i64 i)]=some (.agg (bY (FB s v i))):=by
 have hf:=hs.flat
 rw[cL Tryz.func252 rfl aNv rfl];refine iX ?_
 by_cases g1:0<=i
 case neg =>
  have hv:FB s v i=gY:=if_neg (fun h=>g1 h.1)
  simp only[Z8,seval,AF hs,g1,Bool.false_and];exact⟨_,fK rfl (by simp only[E8,seval]<;>rfl) (by simp only[Z8,seval]<;>rfl) (by simp only[dN,and_self]),by rw[hv]⟩
 by_cases g2:i<(v.ns.length:Int)
 case neg =>
  have hv:FB s v i=gY:=if_neg (fun h=>g2 h.2)
  simp only[Z8,seval,AF hs,g1,g2,Bool.and_false];exact⟨_,fK rfl (by simp only[E8,seval]<;>rfl) (by simp only[Z8,seval]<;>rfl) (by simp only[dN,and_self]),by rw[hv]⟩
 by_cases g3:Fl s (nd v.ns i).block.slot<Fl s s.now
 ·have hv:FB s v i=(nd v.ns i).block.dL.pj:=by unfold FB;rw[if_pos ⟨g1,g2⟩,if_pos g3]
  simp only[Z8,seval,AF hs,g1,g2,hs.tree,Pm s hp hf,g3];exact⟨_,fK rfl (by simp only[E8,seval]<;>rfl) (by simp only[Z8,seval]<;>rfl) (by simp only[dN,and_self]),by rw[hv]⟩
 ·have hv:FB s v i=(nd v.ns i).block.gX:=by unfold FB;rw[if_pos ⟨g1,g2⟩,if_neg g3]
  simp only[Z8,seval,AF hs,g1,g2,hs.tree,Pm s hp hf,g3];exact⟨_,fK rfl (by simp only[E8,seval]<;>rfl) (by simp only[Z8,seval]<;>rfl) (by simp only[dN,and_self]),by rw[hv]⟩
theorem aEb {s:aO} {v:SV} (hs:SD s v) (hp:s.cFg.rD≠0) (i:Int) (st:St) (d:Option Nat):aN (aC Tryz.prog) 252 [.agg (aB s),.v (.int .i64 i)] st d=some { dst:=d,val:=.agg (bY (FB s v i))}:=bL (bH hs.flat (.v _)) (aSV hs hp i) (.agg _ (dB _))
theorem aNw {s:aO} {v:SV} (hs:SD s v) (hp:s.cFg.rD≠0) (i:Int):∃r,aC Tryz.prog 249 [.agg (aB s),.v (.int .i64 i)]=some r/\∃b:Bool,r=.v (.bool b):=by
 have hf:=hs.flat
 rw[cL Tryz.func249 rfl aNx rfl];by_cases g1:0<=i
 case neg =>
  simp only[Z8,seval,AF hs,g1,Bool.false_and];exact⟨_,bT rfl (by simp only[E8,seval]<;>rfl) (by first|exact .v _|simp only[dN]),_,rfl⟩
 by_cases g2:i<(v.ns.length:Int)
 case neg =>
  simp only[Z8,seval,AF hs,g1,g2,Bool.and_false];exact⟨_,bT rfl (by simp only[E8,seval]<;>rfl) (by first|exact .v _|simp only[dN]),_,rfl⟩
 by_cases g3:(nd v.ns i).status=2
 ·simp only[Z8,seval,AF hs,g1,g2,hs.tree,bt g3];exact⟨_,bT rfl (by simp only[E8,seval]<;>rfl) (by first|exact .v _|simp only[dN]),_,rfl⟩
 by_cases g4:s.bO.gX.aL=0
 ·simp only[Z8,seval,AF hs,g1,g2,hs.tree,bf g3,aEb hs hp,bt g4];exact⟨_,bT rfl (by simp only[E8,seval]<;>rfl) (by first|exact .v _|simp only[dN]),_,rfl⟩
 by_cases g5:(FB s v i).aL=s.bO.gX.aL
 ·simp only[Z8,seval,AF hs,g1,g2,hs.tree,bf g3,aEb hs hp,bf g4,bt g5];exact⟨_,bT rfl (by simp only[E8,seval]<;>rfl) (by first|exact .v _|simp only[dN]),_,rfl⟩
 by_cases g6:Fl s s.now<=(FB s v i).aL
 ·simp only[Z8,seval,AF hs,g1,g2,hs.tree,bf g3,aEb hs hp,bf g4,bf g5,Pm s hp hf,g6];exact⟨_,bT rfl (by simp only[E8,seval]<;>rfl) (by first|exact .v _|simp only[dN]),_,rfl⟩
 ·simp only[Z8,seval,AF hs,g1,g2,hs.tree,bf g3,aEb hs hp,bf g4,bf g5,Pm s hp hf,g6];exact⟨_,bT rfl (by simp only[E8,seval]<;>rfl) (by first|exact .v _|simp only[dN]),_,rfl⟩
theorem aIh (ns:List Node) (i x:Int):∀k:Nat,x∈Vv ns i k->(0<=x/\x<k)/\(nd ns x).up=i:=by
 intro k;induction k with
 | zero=>intro h;simp[Vv] at h
 | succ k ih =>
   intro h;unfold Vv at h;split at h
   ·rename_i hc;rcases List.mem_append.1 h with h|h
    ·have:=ih h;omega
    ·have hx:=List.mem_singleton.1 h
     subst hx;exact⟨by omega,hc⟩
   ·have:=ih h;omega
theorem KJ {ns:List Node} (hu:iB ns) (hr:(nd ns 0).up=-1) {i x:Int} (h:x∈xG ns i):i<x/\0<=x/\x<ns.length:=by
 unfold xG at h;split at h
 ·simp at h
 ·rename_i hi;obtain⟨⟨x0,x1⟩,Zp⟩:=aIh ns i x _ h
  by_cases hx:x=0
  ·subst hx;rw[hr] at Zp;omega
  ·have:=(hu x (by omega) x1).2;omega
theorem aNy {s:aO} {v:SV} (hs:SD s v) (hu:iB v.ns) (hr:(nd v.ns 0).up=-1) (hp:s.cFg.rD≠0):∀(n:Nat) (i:Int),((v.ns.length:Int)-i).toNat<=n->∃b:Bool,aC Tryz.prog 244 [.agg (aB s),.v (.int .i64 i)]=some (.v (.bool b)):=by
 have base:∀(i:Int),xG v.ns i=[]->∃b:Bool,aC Tryz.prog 244 [.agg (aB s),.v (.int .i64 i)]=some (.v (.bool b)):=by
  intro i hc;obtain⟨r,hr9,b,rfl⟩:=aNw hs hp i
  have aAi:=kx hr9 (bH hs.flat (.v _)) (.v _)
  have kc:=fun st d=>aGz v.ns hu hr hs.nn i hc st d
  suffices h:∃r,aC Tryz.prog 244 [.agg (aB s),.v (.int .i64 i)]=some r/\∃b:Bool,r=.v (.bool b) by
   obtain⟨r,h,b,rfl⟩:=h;exact⟨b,h⟩
  rw[cL Tryz.func244 rfl aGM rfl];cases b
  ·simp only[Z8,seval,aAi,hs.tree,kc];refine cB (fun m st=>st.env 5=.v (.slice none 0 0)/\st.env 6=.v (.int .i64 0)/\m=0) (fun e st=>e=.exit 0) 0 ?step ?start ?rest
   case step =>
    rintro m st ⟨h5,h6,_⟩
    apply oT (.exit 0)
    ·simp only[Z8,seval,h5,h6,Int.lt_irrefl];rfl
    ·exact rfl
   case start=>exact⟨by simp only[E8,seval]<;>rfl,by simp only[E8,seval]<;>rfl,rfl⟩
   case rest =>
    rintro e st rfl
    simp only[Z8,seval];exact⟨_,bT rfl (by simp only[E8,seval]<;>rfl) (by first|exact .v _|simp only[dN]),_,rfl⟩
  ·simp only[Z8,seval,aAi];exact⟨_,bT rfl (by simp only[E8,seval]<;>rfl) (by first|exact .v _|simp only[dN]),_,rfl⟩
 intro n;induction n with
 | zero =>
   intro i hi;exact base i (PL hu hr (by omega))
 | succ n ih =>
   intro i hi;by_cases hc:xG v.ns i=[]
   ·exact base i hc
   obtain⟨r,hr9,b,rfl⟩:=aNw hs hp i
   have aAi:=kx hr9 (bH hs.flat (.v _)) (.v _)
   have kc:=fun st d=>aMq v.ns hu hr hs.nn i hc st d
   have hB:∀x:Int,∃b:Bool,x∈xG v.ns i->aC Tryz.prog 244 [.agg (aB s),.v (.int .i64 x)]=some (.v (.bool b)):=by
    intro x;by_cases hx:x∈xG v.ns i
    ·have:=KJ hu hr hx
     obtain⟨b,hb⟩:=ih x (by omega)
     exact⟨b,fun _=>hb⟩
    ·exact⟨false,fun h=>absurd h hx⟩
   obtain⟨B,hB⟩:∃B:Int->Bool,∀x,x∈xG v.ns i->aC Tryz.prog 244 [.agg (aB s),.v (.int .i64 x)]=some (.v (.bool (B x))):=⟨fun x=>Classical.choose (hB x),fun x=>Classical.choose_spec (hB x)⟩
   have hgt:∀x∈xG v.ns i,i<x/\0<=x/\x<v.ns.length:=fun x hx=>KJ hu hr hx
   have C5:((xG v.ns i).length:Int)<1000000:=by
    have h1:(xG v.ns i).length<=v.ns.length:=by
     unfold xG;split
     ·simp
     ·exact Yi v.ns i v.ns.length
    have:=hs.nn;omega
   obtain⟨l,el⟩:∃l,xG v.ns i=l:=⟨_,rfl⟩
   rw[el] at kc hB C5;suffices h:∃r,aC Tryz.prog 244 [.agg (aB s),.v (.int .i64 i)]=some r/\∃b:Bool,r=.v (.bool b) by
    obtain⟨r,h,b,rfl⟩:=h;exact⟨b,h⟩
   rw[cL Tryz.func244 rfl aGM rfl];cases b
   case true =>
    simp only[Z8,seval,aAi];exact⟨_,bT rfl (by simp only[E8,seval]<;>rfl) (by first|exact .v _|simp only[dN]),_,rfl⟩
   simp only[Z8,seval,aAi,hs.tree,kc];refine cB (fun m st=>∃k:Nat,(st.env 2=.ptr 2 0 0/\st.heap 2 0=some (.cells (aB s))/\st.env 5=.own 13 0/\st.heap 13 0=some (.row 3 1 l.length (aI l))/\st.env 6=.v (.int .i64 k))/\(∀j:Nat,j<k->¬(B (it l (j:Int))=true))/\k<=l.length/\m=l.length-k)
    (fun e st=>(e=.ret/\∃k:Nat,k<l.length/\(B (it l (k:Int))=true)/\(∀j:Nat,j<k->¬(B (it l (j:Int))=true))/\st.env 4=.v (.bool true))\/(e=.exit 0/\(∀j:Nat,j<l.length->¬(B (it l (j:Int))=true))/\st.env 2=.ptr 2 0 0/\st.heap 2 0=some (.cells (aB s))/\st.env 5=.own 13 0/\st.heap 13 0=some (.row 3 1 l.length (aI l)))) (l.length) ?step ?start ?rest
   case step =>
    rintro m st ⟨k,hI,hj,hk,hm⟩
    by_cases aZ:(k:Int)<l.length
    ·have q0:(0:Int)<=k:=by omega
     have hw:IntKind.i64.wrap ((k:Int)+1)=((k+1:Nat):Int):=by rw[pM _ (by omega) (by omega)];omega
     have gi:=nU q0 aZ
     have hm2:it l (k:Int)∈l:=by obtain⟨h1,h2⟩:=xW q0 aZ;rw[h2];exact List.getElem_mem h1
     have kb:=kx (hB _ hm2) (bH hs.flat (.v _)) (.v _)
     by_cases hh:B (it l (k:Int))=true
     ·apply oT (.ret)
      ·simp only[Z8,seval,hI,aZ,q0,kb,gi,hh];rfl
      ·exact .inl ⟨rfl,k,by omega,hh,hj,by simp only[E8,seval,kb,gi]⟩
     ·have hn:B (it l (k:Int))=false:=by simpa using hh
      apply oN (l.length-(k+1))
      ·simp only[Z8,seval,hI,aZ,q0,kb,gi,hn,hw];rfl
      ·exact⟨k+1,by simp only[E8,seval,hI],fun j h=>(Nat.lt_succ_iff_lt_or_eq.1 h).elim (hj j) fun e=>by subst e;exact hh,by omega,rfl⟩
    ·apply oT (.exit 0)
     ·simp only[Z8,seval,hI,aZ,aZ];rfl
     ·exact .inr ⟨rfl,fun j h=>hj j (by omega),by simp only[E8,seval,hI]⟩
   case start=>exact⟨0,by simp only[E8,seval]<;>rfl,fun j h=>by omega,by omega,by omega⟩
   case rest =>
    rintro e st (⟨rfl,k,hk,hh,hj,h⟩|⟨rfl,hj,hI⟩)
    ·simp only[Z8,seval];exact⟨_,bT rfl (by simp only[E8,seval,h]<;>rfl) (by first|exact .v _|simp only[dN,h]),_,rfl⟩
    ·simp only[Z8,seval];exact⟨_,bT rfl (by simp only[E8,seval]<;>rfl) (by first|exact .v _|simp only[dN]),_,rfl⟩
theorem aSY {s:aO} {v:SV} {q:Int} (h:GI s v q):∃x,aC Tryz.prog 224 [.agg (aB s)]=some x/\∃m:List Bool,x=.uniq 4 1 m.length (mV m)/\m.length=v.ns.length:=by
 have hn:=h.sd.nn
 have h0:=h.pos
 obtain⟨B,hB⟩:∃B:Int->Bool,∀x,aC Tryz.prog 244 [.agg (aB s),.v (.int .i64 x)]=some (.v (.bool (B x))):=⟨fun x=>Classical.choose (aNy h.sd h.up h.PI h.sp _ x (Nat.le_refl _)),fun x=>Classical.choose_spec (aNy h.sd h.up h.PI h.sp _ x (Nat.le_refl _))⟩
 have kb:∀(x:Int) (st:St) (d:Option Nat),aN (aC Tryz.prog) 244 [.agg (aB s),.v (.int .i64 x)] st d=some { dst:=d,val:=.v (.bool (B x))}:=fun x=>kx (hB x) (bH h.sd.flat (.v _)) (.v _)
 rw[cL Tryz.func224 rfl aNz rfl];simp only[Z8,seval];refine cB (fun m st=>∃k:Nat,(st.env 1=.ptr 1 0 0/\st.heap 1 0=some (.cells (aB s))/\st.env 4=.v (.int .i64 k))/\((k=0/\st.env 3=.v (.slice none 0 0))\/∃(l:List Bool) (g:Nat),st.env 3=.own 18 g/\g<st.aK 18/\st.heap 18 g=some (.row 4 1 l.length (mV l))/\l.length=k)/\k<=v.ns.length/\m=v.ns.length-k)
  (fun e st=>e=.exit 0/\∃(l:List Bool) (g:Nat),st.env 3=.own 18 g/\st.heap 18 g=some (.row 4 1 l.length (mV l))/\l.length=v.ns.length) v.ns.length ?step ?start ?rest
 case step =>
  rintro m st ⟨k,hI,h5,hk,hm⟩
  by_cases aZ:(k:Int)<v.ns.length
  ·have q0:(0:Int)<=k:=by omega
   have hw:IntKind.i64.wrap ((k:Int)+1)=((k+1:Nat):Int):=by rw[pM _ (by omega) (by omega)];omega
   rcases h5 with ⟨xE,h5⟩|⟨l',g,h5,hg,Bj,Hz⟩
   ·apply oN (v.ns.length-(k+1))
    ·simp only[Z8,seval,hI,h5,aZ,q0,h.sd.tree,kb,hw];rfl
    ·exact⟨k+1,by simp only[E8,seval,hI],.inr ⟨[B k],st.aK 18,by simp only[E8,seval]<;>rfl,by simp only[E8,seval]<;>omega,by simp only[E8,seval]<;>rfl,by simp;omega⟩,by omega,rfl⟩
   ·have nl:(l'.length:Int)<1000000:=by omega
    apply oN (v.ns.length-(k+1))
    ·simp only[Z8,seval,hI,h5,Bj,aZ,q0,h.sd.tree,kb,hw,QI _ _ _ _ nl];rfl
    ·exact⟨k+1,by simp only[E8,seval,hI],.inr ⟨l'++[B k],st.aK 18,by simp only[E8,seval]<;>rfl,by simp only[E8,seval]<;>omega,by simp only[E8,seval]<;>rfl,by rw[List.length_append];simp;omega⟩,by omega,rfl⟩
  ·have Hy:k=v.ns.length:=by omega
   rcases h5 with ⟨xE,h5⟩|⟨l,g,h5,hg,Bj,hl⟩
   ·omega
   ·apply oT (.exit 0)
    ·simp only[Z8,seval,hI,aZ,h.sd.tree];rfl
    ·exact⟨rfl,l,g,by simp only[E8,seval,h5],by simp only[E8,seval,Bj],by omega⟩
 case start=>exact⟨0,by simp only[E8,seval]<;>rfl,.inl ⟨rfl,by simp only[E8,seval]⟩,by omega,by omega⟩
 case rest =>
  rintro e st ⟨rfl,l,g,h5,Bj,hl⟩
  simp only[Z8,seval,h5];exact⟨_,tH rfl (by simp only[E8,seval,h5]<;>rfl) (by simp only[E8,seval,Bj]<;>rfl) (Vx _),l,rfl,hl⟩
theorem zJ {x:AV} (h:Flat x):iV x=[]:=by
 have one:∀c,Flat c->gD c=[]:=fun c hc=>by cases hc<;>rfl
 cases h with
 | agg cs h =>
   simp only[iV];rw[List.flatMap_eq_nil_iff];exact fun c hc=>one c (h c hc)
 | _=>rfl
theorem XZ {args:List AV} (h:∀x∈args,Flat x):args.flatMap iV=[]:=List.flatMap_eq_nil_iff.2 fun x hx=>zJ (h x hx)
theorem QJ {call:Nat->List AV->Option AV} {g:Nat} {args:List AV} {st:St} {d:Option Nat} (h:∀x∈args,Flat x):eY call g args st d=aN call g args st d:=by
 unfold eY;rw[XZ h]
theorem Jd {call:Nat->List AV->Option AV} {g:Nat} {args:List AV} {r:AV} {st:St} {d:Option Nat} (hf:∀x∈args,Flat x) (h:call g args=some r) (hr:Flat r):eY call g args st d=some { dst:=d,val:=r }:=by
 rw[QJ hf];exact bL hf h hr
noncomputable def Nx (call:Nat->List AV->Option AV) (g:Nat) (xs:Option (List AV)) (s k:Nat) (st:St) (d:Option Nat):Option mA :=
 cA xs fun xs=>cA (call g xs) fun r=>zW r st d s k
theorem Yn {call:Nat->List AV->Option AV} {g:Nat} {args:List AV} {st:St} {d:Option Nat} {s k:Nat} (hk:args.flatMap iV=[(s,k)]) (he:∀x∈args,OU x):eY call g args st d=Nx call g (bK (args.map (eW st))) s k st d:=by
 unfold eY Nx;rw[hk];simp only
 rw[if_pos he];cases bK (args.map (eW st))<;>rfl
theorem D4 {call:Nat->List AV->Option AV} {g:Nat} {xs:List AV} {r:AV} {s k:Nat} {st:St} {d:Option Nat} (h:call g xs=some r) (hr:Flat r):Nx call g (some xs) s k st d=some { dst:=d,val:=r,dG:=some (s,k,none)}:=by
 unfold Nx zW;simp only[cI,h,if_pos hr]
theorem aEc {call:Nat->List AV->Option AV} {g:Nat} {xs:List AV} {e sz n:Nat} {cs:List AV} {s k:Nat} {st:St} {d:Nat} (h:call g xs=some (.uniq e sz n cs)) (hm:∀c∈cs,eE c):Nx call g (some xs) s k st (some d)=some { dst:=some d,val:=.own d (st.aK d),dG:=some (s,k,none),new:=some (d,[.row e sz n cs])}:=by
 have hnf:¬Flat (.uniq e sz n cs):=by intro h;cases h
 unfold Nx zW;simp only[cI,h,if_neg hnf,if_pos hm]
theorem aAj {call:Nat->List AV->Option AV} {g:Nat} {args:List AV} {e sz n:Nat} {cs:List AV} {st:St} {d:Nat} (hf:∀x∈args,Flat x) (h:call g args=some (.uniq e sz n cs)):eY call g args st (some d)=some { dst:=some d,val:=.own d (st.aK d),new:=some (d,[.row e sz n cs])}:=by
 have hnf:¬Flat (.uniq e sz n cs):=by intro h;cases h
 rw[QJ hf];unfold aN;rw[if_pos hf,h];simp only[cI];unfold iG;rw[if_neg hnf];rfl
end Go.Ab.Tryz
