/-
  Part 17 of the proof: an evaluator of programs, its soundness, and what functions of this program compute.
-/
import Derived.Test.YtmcjkemalibacaaGreatK16
set_option linter.all false
set_option maxRecDepth 20000
set_option maxHeartbeats 40000000
namespace Go.Ab.Tryz
open Classical Go.Proofs Go.Ab
theorem O6 {ns:List Node} {k:Nat} (h:k<ns.length):(tP ns).take (k+1)=(tP ns).take k++[(nd ns (k:Int)).block.root]:=by
 have h2:k<(tP ns).length:=by unfold tP;rw[List.length_map];exact h
 rw[List.take_succ_eq_append_getElem h2];congr 2
 have:=O4 h
 unfold gx at this;simpa [h2] using this
theorem c5 (l:List Int) (k:Int) (hl:(l.length:Int)≤9223372036854775807):aD Tryz.prog 5 [.sl l.length (aJ l),.v (.int .i64 k)]=some (.v (.bool true)):=by
 obtain⟨t,v,Q,R,hy,T⟩:=x24 l hl
 have ft:=T.td.flat
 have k24:=kx hy (cO (Po l)) ft
 have hs:=T.gi.sd
 have zJ:=T.gi.pos
 have KX:(v.ns.length:Int)≤4096:=by have:=T.gi.nl;have:=T.gi.KX;omega
 obtain⟨hB,L,hL,hL0⟩:=T.lists
 have Zv:v.L≠some []:=fun e=>hL0 (Option.some.inj (hL.symm.trans e))
 have tg0:=T.tq.pos
 have tgn:=T.nt
 have lQ:=T.lq
 have mB:=T.mB
 have lr:(tP v.ns).length=v.ns.length:=by unfold tP;rw[List.length_map]
 obtain⟨⟨q,tag⟩,hP⟩:∃P,Fm v.ns (Q,t.bE) (tP v.ns)=P:=⟨_,rfl⟩
 have h31:=c31 T.td T.rg.ne hB Zv zJ T.qn T.rn (some (tP v.ns)) (by rw[xF];omega) q tag hP
 have o1:=XR v.ns T.rg.ds Q t.bE tg0 (by omega) v.ns.length (Nat.le_refl _)
 rw[List.take_of_length_le (by omega),hP] at o1
 obtain⟨o1,o2⟩:=o1
 dsimp only at o1 o2
 have o3:=Uj v.ns (tP v.ns) (Q,t.bE) T.tq T.o8 (by dsimp only;omega)
 rw[hP] at o3;have tq2:TQ (ol q) tag:=o3.1
 have qn:q≠some []:=by have:=SY v.ns (tP v.ns) (Q,t.bE) T.qn;rw[hP] at this;exact this
 have wl:=Um v.ns v.ns.length
 have wl2:=Ul v.ns [0] v.ns.length
 obtain⟨W,hW⟩:∃W,Nj v.ns v.ns.length=W:=⟨_,rfl⟩
 rw[hW] at o1 o2 wl;have nq:((ol q).length:Int)<900000:=by omega
 obtain⟨t2,ht2⟩:∃t2,({ t with cW:=ov aA q,bE:=tag }:State)=t2:=⟨_,rfl⟩
 have T2:TD t2 v q R:=by rw[← ht2];exact⟨T.td.sd,rfl,T.td.ret,nq,T.td.nR⟩
 have hq2:=T2.Ak
 have AH:t2.bE=tag:=by rw[← ht2]
 rw[ht2] at h31;have QR:=T2.flat
 have e31:∀(st:St) (g:Nat) (d:Option Nat),st.heap 37 g=some (.row 27 32 (tP v.ns).length (eH (tP v.ns)))→eE (aD Tryz.prog) 31 [.agg (aF t),.own 37 g] st d=some { dst:=d,val:=.agg (aF t2),dJ:=some (37,g,none)}:=fun st g d hh=>by
  have hh':eT st (.own 37 g)=some (ov eH (some (tP v.ns))):=MG hh (Gw _)
  rw[Dz (s:=37) (k:=g) (by rw[List.flatMap_cons,sS ft];rfl) (by intro y hy;simp only[List.mem_cons,List.not_mem_nil,or_false] at hy;rcases hy with rfl|rfl;exact .inl ft;exact .inr (.inl ⟨37,g,rfl⟩)),List.map_cons,List.map_cons,List.map_nil,dL ft,hh',bK,bK,gC]
  exact Wf h31 QR
 obtain⟨o,ho⟩:∃o:Option (List Int),(if W=[] then none else some W)=o:=⟨_,rfl⟩
 have lo:ol o=W:=by
  rw[← ho];split
  ·rename_i h;rw[h];rfl
  ·rfl
 have q33:∀(st:St),aP (aD Tryz.prog) 33 [.agg (cP ⟨v.ns⟩)] st (some 44)=some { dst:=some 44,val:=rv 44 (st.aO 44) o,new:=FZ 44 (rl 3 1 aJ o)}:=fun st=>by
  refine xD (cO (.agg _ (Xd _))) ?_
  rw[c33 v.ns hs.nn,hW,← ho];unfold H3;split<;>rfl
 obtain⟨K,hK⟩:∃K:St→Prop,K=fun zI=>∀x,o=some x→zI.heap 44 0=some (.row 3 1 x.length (aJ x)):=⟨_,rfl⟩
 have Kp:∀zI d y,K (St.put zI d y)=K zI:=fun zI d y=>by rw[hK];cases d<;>rfl
 have Kw:∀zI:St,zI.aO 44=0→K (St.news zI 44 (rl 3 1 aJ o)):=fun zI hc=>by
  rw[hK];intro x hx;rw[hx];show (if 44=44∧zI.aO 44≤0∧0-zI.aO 44<1 then ([.row 3 1 x.length (aJ x)]:List mI)[0-zI.aO 44]? else _)=_
  rw[hc];rfl
 have hv:∀zI:St,K zI→aQ zI (rv 44 0 o)=some (W.length,aJ W):=fun zI hk=>by
  rw[hK] at hk;cases o with
  | none =>
    have:W=[]:=lo.symm
    rw[this];rfl
  | some x =>
    have hx:x=W:=lo
    subst hx;show (match zI.heap 44 0 with|some (.row _ _ n cs)=>some (n,cs)|_=>none)=_
    rw[hk x rfl]
 have k29':=k29
 have ev31:∀ {call:Nat→List AV→Option AV} {ops:Array Oper} {st:St} {T:Nat} {pos:String} {eG:Array Edge} (args:Array Operand) (rL:Array Nat),cB Tryz.prog call ops ⟨some 40,.call ⟨.value (.func 31),args,rL⟩,T,pos,eG,none⟩ st=cH (eE call 31 (args.toList.map st.ev) st (some 40)) fun e=>some (e.apply st):=fun args rL=>MH 31 args rL rfl
 rw[cL Tryz.func5 rfl ok5 rfl];refine lM ?_
 simp only[Z8,seval,k24];refine cM (fun m st=>∃k:Nat,(st.env 5=.ptr 5 0 0∧st.heap 5 0=some (.cells (aF t))∧st.env 7=.v (.int .i64 k)∧st.aO 44=0∧st.aO 8=0)∧((k=0∧st.env 6=.v (.slice none 0 0))∨(0<k∧∃g,st.env 6=.own 37 g∧g<st.aO 37∧st.heap 37 g=some (.row 27 32 ((tP v.ns).take k).length (eH ((tP v.ns).take k)))))∧k≤v.ns.length∧m=v.ns.length-k)
  (fun e st=>e=.exit 0∧∃g,(st.env 5=.ptr 5 0 0∧st.heap 5 0=some (.cells (aF t))∧st.env 6=.own 37 g∧st.heap 37 g=some (.row 27 32 (tP v.ns).length (eH (tP v.ns)))∧st.aO 44=0∧st.aO 8=0)) v.ns.length ?step ?start ?rest
 case step =>
  rintro m st ⟨k,hI,h5,hk,hm⟩
  by_cases bA:(k:Int)<v.ns.length
  case neg =>
   have De:k=v.ns.length:=by omega
   subst De;rw[List.take_of_length_le (by omega)] at h5
   rcases h5 with ⟨h0,_⟩|⟨_,g,h5⟩
   ·omega
   ·apply oT (.exit 0)
    ·simp only[Z8,seval,hI,hs.tree,bA];rfl
    ·exact⟨rfl,g,by simp only[E8,seval,hI,h5]⟩
  have q0:(0:Int)≤k:=by omega
  have hw:IntKind.i64.wrap ((k:Int)+1)=((k+1:Nat):Int):=by rw[pV _ (by omega) (by omega)];omega
  have ht:=O6 (ns:=v.ns) (k:=k) (by omega)
  have Df:((((tP v.ns).take k).length:Nat):Int)<1000000:=by rw[List.length_take];omega
  rcases h5 with ⟨h0,h5⟩|⟨h0,g,h5⟩
  ·have htk:(tP v.ns).take k=[]:=by rw[h0];rfl
   rw[htk,List.nil_append] at ht;apply oN (v.ns.length-(k+1))
   ·simp only[Z8,seval,hI,h5,hs.tree,bA,q0,hw];rfl
   ·exact⟨k+1,by simp only[E8,seval,hI],.inr ⟨by omega,_,by simp only[E8,seval]<;>rfl,(by simp only[E8,seval]<;>omega),(by rw[ht];simp only[E8,seval]<;>rfl)⟩,by omega,rfl⟩
  ·apply oN (v.ns.length-(k+1))
   ·simp only[Z8,seval,hI,h5,Df,hs.tree,bA,q0,hw];rfl
   ·exact⟨k+1,by simp only[E8,seval,hI],.inr ⟨by omega,_,by simp only[E8,seval]<;>rfl,(by simp only[E8,seval]<;>omega),(by rw[ht];simp only[E8,seval]<;>rfl)⟩,by omega,rfl⟩
 case start=>exact⟨0,by simp only[E8,seval]<;>rfl,.inl ⟨rfl,by simp only[E8,seval]⟩,by omega,by omega⟩
 case rest =>
  rintro e st ⟨rfl,g,hI⟩
  have w1:IntKind.i64.wrap (((ol Q).length:Int)+(W.length:Nat))=((ol q).length:Int):=by rw[pV _ (by omega) (by omega)];omega
  have w2:IntKind.u64.wrap ((W.length:Nat):Int)=(W.length:Int):=aJm _ (by omega) (by omega)
  have w3:IntKind.u64.wrap (t.bE+(W.length:Nat))=tag:=by rw[aJm _ (by omega) (by omega)];omega
  have e1:=bt (x:=((ol q).length:Int)) (y:=((ol q).length:Int)) rfl
  have e2:=bt (x:=tag) (y:=tag) rfl
  simp only[Z8,seval,hI,ev31,e31,hs.tree,q33,NW,DO,Kp,Kw,hv,hq2,AH,T.td.Ak,w1,w2,w3,e1,e2];refine cM (fun m st=>∃k:Nat,(st.env 8=.ptr 8 0 0∧st.heap 8 0=some (.cells (aF t2))∧st.env 10=.v (.int .i64 k))∧k≤(ol q).length∧m=(ol q).length-k)
   (fun e st=>e=.exit 2∧(st.env 8=.ptr 8 0 0∧st.heap 8 0=some (.cells (aF t2)))) (ol q).length ?J2 ?SF ?LA
  case J2 =>
   rintro m st ⟨k,hI,hk,hm⟩
   by_cases bA:(k:Int)<(ol q).length
   case neg =>
    apply oT (.exit 2)
    ·simp only[Z8,seval,hI,hq2,bA];rfl
    ·exact⟨rfl,by simp only[E8,seval,hI]⟩
   have q0:(0:Int)≤k:=by omega
   have hw:IntKind.i64.wrap ((k:Int)+1)=((k+1:Nat):Int):=by rw[pV _ (by omega) (by omega)];omega
   have gk:gx bJ (ol q) (k:Int)=(ol q)[k]'(by omega):=by have:k<(ol q).length:=(by omega);simp[gx,this]
   have h1:¬tag≤(gx bJ (ol q) (k:Int)).tagged.tag:=by
    have:=(tq2.all _ (List.getElem_mem (show k<(ol q).length by omega))).2.1
    rw[gk];omega
   by_cases h0:0<(k:Int)
   ·obtain⟨j,rfl⟩:∃j:Nat,k=j+1:=⟨k-1,by omega⟩
    have q1:(0:Int)≤j:=by omega
    have q2:(j:Int)<(ol q).length:=by omega
    have WV:IntKind.i64.wrap (((j+1:Nat):Int)-1)=(j:Int):=by rw[pV _ (by omega) (by omega)];omega
    have gj:gx bJ (ol q) (j:Int)=(ol q)[j]'(by omega):=by have:j<(ol q).length:=(by omega);simp[gx,this]
    have h2:¬(gx bJ (ol q) ((j+1:Nat):Int)).tagged.tag≤(gx bJ (ol q) (j:Int)).tagged.tag:=by
     have:=List.pairwise_iff_getElem.1 tq2.asc j (j+1) (by omega) (by omega) (by omega)
     rw[gk,gj];omega
    obtain⟨a,ha⟩:∃a,gx bJ (ol q) ((j+1:Nat):Int)=a:=⟨_,rfl⟩
    obtain⟨i,hi⟩:∃i:Int,((j+1:Nat):Int)=i:=⟨_,rfl⟩
    rw[ha] at h1 h2;rw[hi] at ha hI bA q0 hw WV h0;apply oN ((ol q).length-(j+1+1))
    ·simp only[Z8,seval,hI,hq2,AH,bA,q0,q1,q2,ha,h0,h1,h2,hw,WV];rfl
    ·exact⟨j+1+1,by simp only[E8,seval,hI],by omega,rfl⟩
   ·apply oN ((ol q).length-(k+1))
    ·simp only[Z8,seval,hI,hq2,AH,bA,q0,h0,h1,hw];rfl
    ·exact⟨k+1,by simp only[E8,seval,hI],by omega,rfl⟩
  case SF=>exact⟨0,by simp only[E8,seval,NW,hI]<;>rfl,by omega,by omega⟩
  case LA =>
   rintro e st ⟨rfl,hI⟩
   simp only[Z8,seval,hI];refine cM (fun m st=>∃k:Nat,(st.env 8=.ptr 8 0 0∧st.heap 8 0=some (.cells (aF t2))∧st.env 11=.v (.int .i64 k))∧k≤(ol q).length∧m=(ol q).length-k)
    (fun e st=>e=.exit 4) (ol q).length ?step3 ?start3 ?rest3
   case step3 =>
    rintro m st ⟨k,hI,hk,hm⟩
    by_cases bA:(k:Int)<(ol q).length
    case neg =>
     apply oT (.exit 4)
     ·simp only[Z8,seval,hI,hq2,bA];rfl
     ·rfl
    have q0:(0:Int)≤k:=by omega
    have hw:IntKind.i64.wrap ((k:Int)+1)=((k+1:Nat):Int):=by rw[pV _ (by omega) (by omega)];omega
    obtain⟨a,ha⟩:∃a,gx bJ (ol q) (k:Int)=a:=⟨_,rfl⟩
    have h26:=aQg T2 T.rg.ne hB Zv zJ qn T.rn tq2.asc k (by omega) ⟨(gx bJ (ol q) (k:Int)).tagged,tO.kind,tO.dR⟩ rfl
    rw[ha] at h26;obtain⟨p,hp⟩:∃p,(ol q).take k++(ol q).drop (k+1)=p:=⟨_,rfl⟩
    have lp:(p.length:Int)=(ol q).length-1:=by rw[← hp,List.length_append,List.length_take,List.length_drop];omega
    have hw2:IntKind.i64.wrap (((ol q).length:Int)-1)=(p.length:Int):=by rw[pV _ (by omega) (by omega)];omega
    have e3:=bt (x:=(p.length:Int)) (y:=(p.length:Int)) rfl
    rw[hp] at h26;obtain⟨u,hu⟩:∃u,({ t2 with cW:=ov aA (some p)}:State)=u:=⟨_,rfl⟩
    rw[hu] at h26;have Tu:TD u v (some p) R:=by rw[← hu];exact⟨T2.sd,rfl,T2.ret,by rw[xF];omega,T2.nR⟩
    have hur:=Tu.Ak
    have k26:=kx h26 (bI QR (.agg _ (fV _))) (.eB _ (mC (.agg _ (fU _)) Tu.flat (.v _)))
    have da:decide (a=a)=true:=by simp
    apply oN ((ol q).length-(k+1))
    ·simp only[Z8,seval,hI,hq2,bA,q0,ha,k26,dT,hur,xF,da,hw2,e3,hw];rfl
    ·exact⟨k+1,by simp only[E8,seval,hI],by omega,rfl⟩
   case start3=>exact⟨0,by simp only[E8,seval,hI]<;>rfl,by omega,by omega⟩
   case rest3 =>
    rintro e st rfl
    simp only[Z8,seval,k29'];exact⟨_,bX rfl (by simp only[E8,seval]<;>rfl) (by first|exact .v _|simp only[dU]),rfl⟩
end Go.Ab.Tryz
