/-
  Part 15 of the proof: an evaluator of programs, its soundness, and what functions of this program compute.
-/
import Derived.Test.YtmcjkemalibacaaGreatK14
import Derived.Test.YtmcjkemalibacaaGreatK10
import Derived.Test.YtmcjkemalibacaaGreatK12
import Derived.Test.YtmcjkemalibacaaGreatK13
set_option linter.all false
set_option maxRecDepth 20000
set_option maxHeartbeats 40000000
namespace Go.Ab.Tryz
open Classical Go.Proofs Go.Ab
noncomputable def Kv (ns:List Node) (now:Int) (a:(Option (List Request) × Int) × List Request) (r:Request):(Option (List Request) × Int) × List Request :=
 if now<r.due then (a.1,a.2++[r]) else if qL ns r.block then ((some (ol a.1.1++[⟨⟨a.1.2⟩,r.block,r.tries,0⟩]),IntKind.u64.wrap (a.1.2+1)),a.2) else a
noncomputable def yQ (ns:List Node) (now:Int) (a:(Option (List Request) × Int) × List Request) (l:List Request):(Option (List Request) × Int) × List Request:=l.foldl (Kv ns now) a
theorem o6 (ns:List Node) (now:Int) (a:(Option (List Request) × Int) × List Request) (l:List Request) (k:Nat) (h:k<l.length):yQ ns now a (l.take (k+1))=Kv ns now (yQ ns now a (l.take k)) (gx bJ l k):=by
 unfold yQ;rw[List.take_succ_eq_append_getElem h,List.foldl_append];simp[gx,h]
theorem L7 (ns:List Node) (now:Int) (a:(Option (List Request) × Int) × List Request) (r:Request):(ol (Kv ns now a r).1.1).length≤(ol a.1.1).length+1∧(Kv ns now a r).2.length≤a.2.length+1:=by
 unfold Kv;split
 ·refine⟨by dsimp only;omega, ?_⟩
  dsimp only;rw[List.length_append,List.length_cons,List.length_nil];omega
 ·split
  ·refine⟨?_,by dsimp only;omega⟩
   show (ol a.1.1++[_]).length≤_;rw[List.length_append,List.length_cons,List.length_nil];omega
  ·omega
theorem LU (ns:List Node) (now:Int) (l:List Request):∀(a:(Option (List Request) × Int) × List Request),(ol (yQ ns now a l).1.1).length≤(ol a.1.1).length+l.length∧(yQ ns now a l).2.length≤a.2.length+l.length:=by
 induction l with
 | nil=>intro a;exact⟨Nat.le_refl _,Nat.le_refl _⟩
 | cons r l ih =>
   intro a;have h1:=ih (Kv ns now a r)
   have h2:=L7 ns now a r
   rw[List.length_cons];show (ol (yQ ns now (Kv ns now a r) l).1.1).length≤_∧(yQ ns now (Kv ns now a r) l).2.length≤_
   omega
theorem pB {st:St} (o:Option (List Request)):cI st (ov aA o)=some (ov aA o):=Wh (fO o)
theorem iY {st:St} {a g:Nat} {L:List Request} (h:st.heap a g=some (.row 63 35 L.length (aA L))):cI st (.own a g)=some (ov aA (some L)):=by
 rw[bC,h];exact oU _ _
theorem XK {t:State} {v:SV} {Q R:Option (List Request)} (h:TD t v Q R) (st:St) {X Y X' Y':AV} (hx:cI st X=some X') (hy:cI st Y=some Y') (tag:Int):eT st (.agg (aF (Cj t X Y tag)))=some (.agg (aF (Cj t X' Y' tag))):=by
 have lO:=h.fl
 unfold Cj;simp only[bO,uW,gB,hx,hy,cE,dU,lO,cT]
theorem TD.rq {t:State} {v:SV} {Q R:Option (List Request)} (h:TD t v Q R) (q z:Option (List Request)) (tag:Int) (hq:((ol q).length:Int)<900000) (hz:((ol z).length:Int)<900000):TD (Cj t (ov aA q) (ov aA z) tag) v q z:=⟨h.sd,rfl,rfl,hq,hz⟩
theorem LV {t:State} {v:SV} {Q R:Option (List Request)} (h:TD t v Q R) (q z:Option (List Request)) (tag:Int) (hq:((ol q).length:Int)<900000) (hz:((ol z).length:Int)<900000) (r:cC) (st:St) (d:Option Nat) {X Y:AV} (hx:cI st X=some (ov aA q)) (hy:cI st Y=some (ov aA z)) :
 aP (aD Tryz.prog) 85 [.agg (aF (Cj t X Y tag)),.agg (aV r)] st d=some { dst:=d,val:=.v (.bool (decide (qL v.ns r)))}:=by
 rw[lC,List.map_cons,List.map_cons,List.map_nil,XK h st hx hy,Qb,bK,bK,gC];exact FU (c85 (h.rq q z tag hq hz) r)
theorem aBo {call:Nat→List AV→Option AV} {inl:Nat→List AV→St→Option (AV × St)} {ops:Array Oper} {st:St} {T:Nat} {pos:String} {eG:Array Edge} (x:Array Operand) (y:Array Nat) :
 gK Tryz.prog true call inl ops ⟨some 50,.call ⟨.value (.func 86),x,y⟩,T,pos,eG,none⟩ st=cH (inl 86 (x.toList.map st.ev) st) fun r=>some ((st.back r.2).put (some 50) r.1):=SW 86 x y (Wq rfl)
noncomputable def FV (t:State) (ns:List Node) (Q R:Option (List Request)):(Option (List Request) × Int) × List Request:=yQ ns t.store.now ((Q,t.bE),[]) (ol R)
noncomputable def aBp (t:State) (ns:List Node) (Q R:Option (List Request)):State:=Cj t (ov aA (FV t ns Q R).1.1) (ov aA (nz (FV t ns Q R).2)) (FV t ns Q R).1.2
theorem Be (t:State) (X Y:AV) (tag:Int):(Cj t X Y tag).cW=X:=rfl
theorem Bf (t:State) (X Y:AV) (tag:Int):(Cj t X Y tag).nA=Y:=rfl
theorem Bg (t:State) (X Y:AV) (tag:Int):(Cj t X Y tag).bE=tag:=rfl
theorem Bh (t:State) (X Y:AV) (tag:Int):(Cj t X Y tag).store=t.store:=rfl
theorem c74 {t:State} {v:SV} {Q R:Option (List Request)} (h:TD t v Q R) (hn:((ol Q).length:Int)+(ol R).length<800000):aD Tryz.prog 74 [.agg (aF t)]=some (.agg (aF (aBp t v.ns Q R))):=by
 have lO:=h.fl
 have nR:=h.nR
 have hlen:∀k:Nat,(ol (yQ v.ns t.store.now ((Q,t.bE),[]) ((ol R).take k)).1.1).length≤(ol Q).length+(ol R).length∧(yQ v.ns t.store.now ((Q,t.bE),[]) ((ol R).take k)).2.length≤(ol R).length:=fun k=>by
  have h1:=LU v.ns t.store.now ((ol R).take k) ((Q,t.bE),[])
  have h2:=List.length_take_le' k (ol R)
  have e:(ol ((Q,t.bE),([]:List Request)).1.1).length=(ol Q).length:=rfl
  have e2:((Q,t.bE),([]:List Request)).2.length=0:=rfl
  rw[e,e2] at h1;omega
 rw[cG Tryz.func74 rfl aPp (by kernel_rfl) rfl]
 refine lM ?_
 simp only[ZG,seval,Bool.false_and,Prod.mk.injEq,Iz,h.ret];refine nJ (fun m st=>∃(k:Nat) (X Y:AV) (p:(Option (List Request) × Int) × List Request),(st.env 1=.ptr 1 0 0∧st.heap 1 0=some (.cells (aF (Cj t X Y p.1.2)))∧st.env 2=.ptr 2 0 0∧st.heap 2 0=some (.cells (aF jF))∧st.env 3=ov aA R∧st.env 4=.v (.int .i64 k)∧0<st.aO 1∧0<st.aO 2)∧(X=ov aA p.1.1∨∃g L,p.1.1=some L∧X=.own 19 g∧g<st.aO 19∧st.heap 19 g=some (.row 63 35 L.length (aA L)))∧((Y=.v (.slice none 0 0)∧p.2=[])∨∃g,p.2≠[]∧Y=.own 30 g∧g<st.aO 30∧st.heap 30 g=some (.row 63 35 p.2.length (aA p.2)))∧p=yQ v.ns t.store.now ((Q,t.bE),[]) ((ol R).take k)∧k≤(ol R).length∧m=(ol R).length-k)
  (fun e st=>e=.exit 0∧∃(X Y:AV) (p:(Option (List Request) × Int) × List Request),(st.env 1=.ptr 1 0 0∧st.heap 1 0=some (.cells (aF (Cj t X Y p.1.2)))∧st.env 2=.ptr 2 0 0∧st.heap 2 0=some (.cells (aF jF)))∧(X=ov aA p.1.1∨∃g L,p.1.1=some L∧X=.own 19 g∧st.heap 19 g=some (.row 63 35 L.length (aA L)))∧((Y=.v (.slice none 0 0)∧p.2=[])∨∃g,p.2≠[]∧Y=.own 30 g∧st.heap 30 g=some (.row 63 35 p.2.length (aA p.2)))∧p=FV t v.ns Q R) (ol R).length ?step ?start ?rest
 case step =>
  rintro m st ⟨k,X,Y,p,hI,hX,hY,hp,hk,hm⟩
  by_cases bA:(k:Int)<(ol R).length
  case neg =>
   have De:k=(ol R).length:=by omega
   rw[De,List.take_length] at hp;have hX':(X=ov aA p.1.1∨∃g L,p.1.1=some L∧X=.own 19 g∧st.heap 19 g=some (.row 63 35 L.length (aA L))):=hX.imp id fun ⟨g,L,a,b,_,c⟩=>⟨g,L,a,b,c⟩
   have hY':((Y=.v (.slice none 0 0)∧p.2=[])∨∃g,p.2≠[]∧Y=.own 30 g∧st.heap 30 g=some (.row 63 35 p.2.length (aA p.2))):=hY.imp id fun ⟨g,a,b,_,c⟩=>⟨g,a,b,c⟩
   apply QN (.exit 0)
   ·simp only[ZG,seval,Bool.false_and,Prod.mk.injEq,Iz,hI,bA];rfl
   ·exact⟨rfl,X,Y,p,by simp only[E8,seval,hI],by simpa only[E8,seval] using hX',by simpa only[E8,seval] using hY',hp⟩
  have q0:(0:Int)≤k:=by omega
  have hw:IntKind.i64.wrap ((k:Int)+1)=((k+1:Nat):Int):=by rw[pV _ (by omega) (by omega)];omega
  have hs:=o6 v.ns t.store.now ((Q,t.bE),[]) (ol R) k (by omega)
  have hl:=hlen k
  have Pl:=hlen (k+1)
  rw[← hp] at hs hl;obtain⟨r,er⟩:∃r,gx bJ (ol R) (k:Int)=r:=⟨_,rfl⟩
  rw[er] at hs;unfold Kv at hs;have F4:((ol p.1.1).length:Int)<900000:=by omega
  have nZ9:(p.2.length:Int)<900000:=by omega
  have nZ:(p.2.length:Int)<1000000:=by omega
  by_cases g1:t.store.now<r.due
  ·rw[if_pos g1] at hs;rcases hY with ⟨rfl,hz⟩|⟨g,hz,rfl,hg,hh⟩
   ·apply Fl ((ol R).length-(k+1))
    ·simp only[ZG,seval,Bool.false_and,Prod.mk.injEq,Iz,hI,bA,q0,er,Be,Bf,Bg,Bh,g1,hw];rfl
    ·exact⟨k+1,X,_,(p.1,p.2++[r]),by and_intros<;>(simp only[E8,seval,hI]<;>rfl),by simpa only[E8,seval] using hX,.inr ⟨_,by simp,rfl,by simp only[E8,seval]<;>omega,by rw[hz];simp only[E8,seval]<;>rfl⟩,hs.symm,by omega,rfl⟩
   ·have uD:(g=st.aO 30)=False:=eq_false (by omega)
    apply Fl ((ol R).length-(k+1))
    ·simp only[ZG,seval,Bool.false_and,Prod.mk.injEq,Iz,hI,bA,q0,er,Be,Bf,Bg,Bh,hh,uD,g1,hw,oG _ _ _ _ nZ];rfl
    ·exact⟨k+1,X,_,(p.1,p.2++[r]),by and_intros<;>(simp only[E8,seval,hI]<;>rfl),by simpa only[E8,seval] using hX,.inr ⟨_,by simp,rfl,by simp only[E8,seval]<;>omega,by simp only[E8,seval]<;>rfl⟩,hs.symm,by omega,rfl⟩
  rw[if_neg g1] at hs;by_cases g2:qL v.ns r.block
  case neg =>
   rw[if_neg g2] at hs;rcases hX with rfl|⟨g,L,hL,rfl,hg,hh⟩
   ·rcases hY with ⟨rfl,hz⟩|⟨g9,hz,rfl,hg9,LW⟩
    ·have Kx:∀(st:St) (d:Option Nat),aP (aD Tryz.prog) 85 [.agg (aF (Cj t (ov aA p.1.1) (.v (.slice none 0 0)) p.1.2)),.agg (aV r.block)] st d=some { dst:=d,val:=.v (.bool (decide (qL v.ns r.block)))}:=fun st d=>LV h p.1.1 none p.1.2 F4 (by show ((0:Nat):Int)<_;omega) r.block st d (pB _) (show cI st (.v (.slice none 0 0))=some (ov aA none) from pB none)
     apply Fl ((ol R).length-(k+1))
     ·simp only[ZG,seval,Bool.false_and,Prod.mk.injEq,Iz,hI,bA,q0,er,Be,Bf,Bg,Bh,g1,Kx,g2,hw];rfl
     ·exact⟨k+1,_,_,p,by and_intros<;>(simp only[E8,seval,hI]<;>rfl),.inl rfl,.inl ⟨rfl,hz⟩,hs.symm,by omega,rfl⟩
    ·have Kx:∀(st:St) (d:Option Nat),st.heap 30 g9=some (.row 63 35 p.2.length (aA p.2))→aP (aD Tryz.prog) 85 [.agg (aF (Cj t (ov aA p.1.1) (.own 30 g9) p.1.2)),.agg (aV r.block)] st d=some { dst:=d,val:=.v (.bool (decide (qL v.ns r.block)))}:=fun st d h2=>LV h p.1.1 (some p.2) p.1.2 F4 nZ9 r.block st d (pB _) (show cI st (.own 30 g9)=some (ov aA (some p.2)) from iY h2)
     apply Fl ((ol R).length-(k+1))
     ·simp only[ZG,seval,Bool.false_and,Prod.mk.injEq,Iz,hI,bA,q0,er,Be,Bf,Bg,Bh,g1,Kx,LW,g2,hw];rfl
     ·exact⟨k+1,_,_,p,by and_intros<;>(simp only[E8,seval,hI]<;>rfl),.inl rfl,.inr ⟨g9,hz,rfl,by simp only[E8,seval]<;>omega,by simp only[E8,seval,LW]⟩,hs.symm,by omega,rfl⟩
   ·rcases hY with ⟨rfl,hz⟩|⟨g9,hz,rfl,hg9,LW⟩
    ·have Kx:∀(st:St) (d:Option Nat),st.heap 19 g=some (.row 63 35 L.length (aA L))→aP (aD Tryz.prog) 85 [.agg (aF (Cj t (.own 19 g) (.v (.slice none 0 0)) p.1.2)),.agg (aV r.block)] st d=some { dst:=d,val:=.v (.bool (decide (qL v.ns r.block)))}:=fun st d h1=>LV h p.1.1 none p.1.2 F4 (by show ((0:Nat):Int)<_;omega) r.block st d (by rw[hL];exact iY h1) (show cI st (.v (.slice none 0 0))=some (ov aA none) from pB none)
     apply Fl ((ol R).length-(k+1))
     ·simp only[ZG,seval,Bool.false_and,Prod.mk.injEq,Iz,hI,bA,q0,er,Be,Bf,Bg,Bh,g1,Kx,hh,g2,hw];rfl
     ·exact⟨k+1,_,_,p,by and_intros<;>(simp only[E8,seval,hI]<;>rfl),.inr ⟨g,L,hL,rfl,by simp only[E8,seval]<;>omega,by simp only[E8,seval,hh]⟩,.inl ⟨rfl,hz⟩,hs.symm,by omega,rfl⟩
    ·have Kx:∀(st:St) (d:Option Nat),st.heap 19 g=some (.row 63 35 L.length (aA L))→st.heap 30 g9=some (.row 63 35 p.2.length (aA p.2))→aP (aD Tryz.prog) 85 [.agg (aF (Cj t (.own 19 g) (.own 30 g9) p.1.2)),.agg (aV r.block)] st d=some { dst:=d,val:=.v (.bool (decide (qL v.ns r.block)))}:=fun st d h1 h2=>LV h p.1.1 (some p.2) p.1.2 F4 nZ9 r.block st d (by rw[hL];exact iY h1) (show cI st (.own 30 g9)=some (ov aA (some p.2)) from iY h2)
     apply Fl ((ol R).length-(k+1))
     ·simp only[ZG,seval,Bool.false_and,Prod.mk.injEq,Iz,hI,bA,q0,er,Be,Bf,Bg,Bh,g1,Kx,hh,LW,g2,hw];rfl
     ·exact⟨k+1,_,_,p,by and_intros<;>(simp only[E8,seval,hI]<;>rfl),.inr ⟨g,L,hL,rfl,by simp only[E8,seval]<;>omega,by simp only[E8,seval,hh]⟩,.inr ⟨g9,hz,rfl,by simp only[E8,seval]<;>omega,by simp only[E8,seval,LW]⟩,hs.symm,by omega,rfl⟩
  rw[if_pos g2] at hs;rcases hX with rfl|⟨g,L,hL,rfl,hg,hh⟩
  ·rcases hY with ⟨rfl,hz⟩|⟨g9,hz,rfl,hg9,LW⟩
   ·have Kx:∀(st:St) (d:Option Nat),aP (aD Tryz.prog) 85 [.agg (aF (Cj t (ov aA p.1.1) (.v (.slice none 0 0)) p.1.2)),.agg (aV r.block)] st d=some { dst:=d,val:=.v (.bool (decide (qL v.ns r.block)))}:=fun st d=>LV h p.1.1 none p.1.2 F4 (by show ((0:Nat):Int)<_;omega) r.block st d (pB _) (show cI st (.v (.slice none 0 0))=some (ov aA none) from pB none)
    obtain⟨G,hG⟩:=aD0 t (.v (.slice none 0 0)) p.1.1 p.1.2 (by omega) r.block r.tries
    have kG:=fun st=>(hG st).1
    have f1:∀st:St,0<st.aO 1→(G st).heap 1 0=st.heap 1 0:=fun st h=>(hG st).2.1.1 1 0 h
    have f2:∀st:St,0<st.aO 2→(G st).heap 2 0=st.heap 2 0:=fun st h=>(hG st).2.1.1 2 0 h
    have c1:∀st:St,0<st.aO 1→(0<(G st).aO 1)=True:=fun st h=>eq_true (Nat.lt_of_lt_of_le h ((hG st).2.1.2 1))
    have c2:∀st:St,0<st.aO 2→(0<(G st).aO 2)=True:=fun st h=>eq_true (Nat.lt_of_lt_of_le h ((hG st).2.1.2 2))
    have fn:∀(st:St) (c:Nat),c=st.aO 19→(G st).heap 19 c=_:=fun st c e=>e ▸ (hG st).2.2.1
    have cn:∀(st:St) (c:Nat),c=st.aO 19→(c<(G st).aO 19)=True:=fun st c e=>e ▸ eq_true (hG st).2.2.2
    apply Fl ((ol R).length-(k+1))
    ·simp only[ZG,seval,Bool.false_and,Prod.mk.injEq,Iz,hI,bA,q0,er,Be,Bf,Bg,Bh,g1,Kx,g2,aBo,kG,f1,eY,dG,cA,hw];rfl
    ·exact⟨k+1,_,_,((some (ol p.1.1++[(⟨⟨p.1.2⟩,r.block,r.tries,0⟩:Request)]),IntKind.u64.wrap (p.1.2+1)),p.2),⟨by simp only[E8,seval,hI,eY],by simp only[E8,seval,hI,dG,cA]<;>rfl,by simp only[E8,seval,hI,eY],by simp only[E8,seval,hI,dG,cA,f2],by simp only[E8,seval,hI,eY],by simp only[E8,seval,hI,eY],by simp only[E8,seval,hI,cA,c1],by simp only[E8,seval,hI,cA,c2]⟩,.inr ⟨_,(ol p.1.1++[(⟨⟨p.1.2⟩,r.block,r.tries,0⟩:Request)]),rfl,rfl,by simp only[E8,seval,cA,cn],by simp only[E8,seval,dG,cA,fn]⟩,.inl ⟨rfl,hz⟩,hs.symm,by omega,rfl⟩
   ·have Kx:∀(st:St) (d:Option Nat),st.heap 30 g9=some (.row 63 35 p.2.length (aA p.2))→aP (aD Tryz.prog) 85 [.agg (aF (Cj t (ov aA p.1.1) (.own 30 g9) p.1.2)),.agg (aV r.block)] st d=some { dst:=d,val:=.v (.bool (decide (qL v.ns r.block)))}:=fun st d h2=>LV h p.1.1 (some p.2) p.1.2 F4 nZ9 r.block st d (pB _) (show cI st (.own 30 g9)=some (ov aA (some p.2)) from iY h2)
    obtain⟨G,hG⟩:=aD0 t (.own 30 g9) p.1.1 p.1.2 (by omega) r.block r.tries
    have kG:=fun st=>(hG st).1
    have f1:∀st:St,0<st.aO 1→(G st).heap 1 0=st.heap 1 0:=fun st h=>(hG st).2.1.1 1 0 h
    have f2:∀st:St,0<st.aO 2→(G st).heap 2 0=st.heap 2 0:=fun st h=>(hG st).2.1.1 2 0 h
    have c1:∀st:St,0<st.aO 1→(0<(G st).aO 1)=True:=fun st h=>eq_true (Nat.lt_of_lt_of_le h ((hG st).2.1.2 1))
    have c2:∀st:St,0<st.aO 2→(0<(G st).aO 2)=True:=fun st h=>eq_true (Nat.lt_of_lt_of_le h ((hG st).2.1.2 2))
    have fn:∀(st:St) (c:Nat),c=st.aO 19→(G st).heap 19 c=_:=fun st c e=>e ▸ (hG st).2.2.1
    have cn:∀(st:St) (c:Nat),c=st.aO 19→(c<(G st).aO 19)=True:=fun st c e=>e ▸ eq_true (hG st).2.2.2
    have f3:∀st:St,g9<st.aO 30→(G st).heap 30 g9=st.heap 30 g9:=fun st h=>(hG st).2.1.1 30 g9 h
    have c3:∀st:St,g9<st.aO 30→(g9<(G st).aO 30)=True:=fun st h=>eq_true (Nat.lt_of_lt_of_le h ((hG st).2.1.2 30))
    apply Fl ((ol R).length-(k+1))
    ·simp only[ZG,seval,Bool.false_and,Prod.mk.injEq,Iz,hI,bA,q0,er,Be,Bf,Bg,Bh,g1,Kx,LW,g2,aBo,kG,f1,eY,dG,cA,hw];rfl
    ·exact⟨k+1,_,_,((some (ol p.1.1++[(⟨⟨p.1.2⟩,r.block,r.tries,0⟩:Request)]),IntKind.u64.wrap (p.1.2+1)),p.2),⟨by simp only[E8,seval,hI,eY],by simp only[E8,seval,hI,dG,cA]<;>rfl,by simp only[E8,seval,hI,eY],by simp only[E8,seval,hI,dG,cA,f2],by simp only[E8,seval,hI,eY],by simp only[E8,seval,hI,eY],by simp only[E8,seval,hI,cA,c1],by simp only[E8,seval,hI,cA,c2]⟩,.inr ⟨_,(ol p.1.1++[(⟨⟨p.1.2⟩,r.block,r.tries,0⟩:Request)]),rfl,rfl,by simp only[E8,seval,cA,cn],by simp only[E8,seval,dG,cA,fn]⟩,.inr ⟨g9,hz,rfl,by simp only[E8,seval,cA,hg9,c3],by simp only[E8,seval,dG,cA,hg9,LW,f3]⟩,hs.symm,by omega,rfl⟩
  ·rcases hY with ⟨rfl,hz⟩|⟨g9,hz,rfl,hg9,LW⟩
   ·have Kx:∀(st:St) (d:Option Nat),st.heap 19 g=some (.row 63 35 L.length (aA L))→aP (aD Tryz.prog) 85 [.agg (aF (Cj t (.own 19 g) (.v (.slice none 0 0)) p.1.2)),.agg (aV r.block)] st d=some { dst:=d,val:=.v (.bool (decide (qL v.ns r.block)))}:=fun st d h1=>LV h p.1.1 none p.1.2 F4 (by show ((0:Nat):Int)<_;omega) r.block st d (by rw[hL];exact iY h1) (show cI st (.v (.slice none 0 0))=some (ov aA none) from pB none)
    have nL:(L.length:Int)<1000000:=by rw[hL] at F4;have:(L.length:Int)<900000:=F4;omega
    obtain⟨G,hG⟩:=L6 t (.v (.slice none 0 0)) g L p.1.2 nL r.block r.tries
    have kG:∀st:St,st.heap 19 g=some (.row 63 35 L.length (aA L))→g<st.aO 19→_:=fun st a b=>(hG st ⟨a,b⟩).1
    have f1:∀st:St,st.heap 19 g=some (.row 63 35 L.length (aA L))→g<st.aO 19→0<st.aO 1→(G st).heap 1 0=st.heap 1 0:=fun st a b h=>(hG st ⟨a,b⟩).2.1.1 1 0 h
    have f2:∀st:St,st.heap 19 g=some (.row 63 35 L.length (aA L))→g<st.aO 19→0<st.aO 2→(G st).heap 2 0=st.heap 2 0:=fun st a b h=>(hG st ⟨a,b⟩).2.1.1 2 0 h
    have c1:∀st:St,st.heap 19 g=some (.row 63 35 L.length (aA L))→g<st.aO 19→0<st.aO 1→(0<(G st).aO 1)=True:=fun st a b h=>eq_true (Nat.lt_of_lt_of_le h ((hG st ⟨a,b⟩).2.1.2 1))
    have c2:∀st:St,st.heap 19 g=some (.row 63 35 L.length (aA L))→g<st.aO 19→0<st.aO 2→(0<(G st).aO 2)=True:=fun st a b h=>eq_true (Nat.lt_of_lt_of_le h ((hG st ⟨a,b⟩).2.1.2 2))
    have fn:∀(st:St) (c:Nat),st.heap 19 g=some (.row 63 35 L.length (aA L))→g<st.aO 19→c=st.aO 19→(G st).heap 19 c=_:=fun st c a b e=>e ▸ (hG st ⟨a,b⟩).2.2.1
    have cn:∀(st:St) (c:Nat),st.heap 19 g=some (.row 63 35 L.length (aA L))→g<st.aO 19→c=st.aO 19→(c<(G st).aO 19)=True:=fun st c a b e=>e ▸ eq_true (hG st ⟨a,b⟩).2.2.2
    have eL:ol p.1.1=L:=by rw[hL];rfl
    rw[eL] at hs;apply Fl ((ol R).length-(k+1))
    ·simp only[ZG,seval,Bool.false_and,Prod.mk.injEq,Iz,hI,bA,q0,er,Be,Bf,Bg,Bh,g1,Kx,hh,hg,g2,aBo,kG,f1,eY,dG,cA,hw];rfl
    ·exact⟨k+1,_,_,((some (L++[(⟨⟨p.1.2⟩,r.block,r.tries,0⟩:Request)]),IntKind.u64.wrap (p.1.2+1)),p.2),⟨by simp only[E8,seval,hI,eY],by simp only[E8,seval,hI,dG,cA]<;>rfl,by simp only[E8,seval,hI,eY],by simp only[E8,seval,hI,hh,hg,dG,cA,f2],by simp only[E8,seval,hI,eY],by simp only[E8,seval,hI,eY],by simp only[E8,seval,hI,hh,hg,cA,c1],by simp only[E8,seval,hI,hh,hg,cA,c2]⟩,.inr ⟨_,(L++[(⟨⟨p.1.2⟩,r.block,r.tries,0⟩:Request)]),rfl,rfl,by simp only[E8,seval,cA,hh,hg,cn],by simp only[E8,seval,dG,cA,hh,hg,fn]⟩,.inl ⟨rfl,hz⟩,hs.symm,by omega,rfl⟩
   ·have Kx:∀(st:St) (d:Option Nat),st.heap 19 g=some (.row 63 35 L.length (aA L))→st.heap 30 g9=some (.row 63 35 p.2.length (aA p.2))→aP (aD Tryz.prog) 85 [.agg (aF (Cj t (.own 19 g) (.own 30 g9) p.1.2)),.agg (aV r.block)] st d=some { dst:=d,val:=.v (.bool (decide (qL v.ns r.block)))}:=fun st d h1 h2=>LV h p.1.1 (some p.2) p.1.2 F4 nZ9 r.block st d (by rw[hL];exact iY h1) (show cI st (.own 30 g9)=some (ov aA (some p.2)) from iY h2)
    have nL:(L.length:Int)<1000000:=by rw[hL] at F4;have:(L.length:Int)<900000:=F4;omega
    obtain⟨G,hG⟩:=L6 t (.own 30 g9) g L p.1.2 nL r.block r.tries
    have kG:∀st:St,st.heap 19 g=some (.row 63 35 L.length (aA L))→g<st.aO 19→_:=fun st a b=>(hG st ⟨a,b⟩).1
    have f1:∀st:St,st.heap 19 g=some (.row 63 35 L.length (aA L))→g<st.aO 19→0<st.aO 1→(G st).heap 1 0=st.heap 1 0:=fun st a b h=>(hG st ⟨a,b⟩).2.1.1 1 0 h
    have f2:∀st:St,st.heap 19 g=some (.row 63 35 L.length (aA L))→g<st.aO 19→0<st.aO 2→(G st).heap 2 0=st.heap 2 0:=fun st a b h=>(hG st ⟨a,b⟩).2.1.1 2 0 h
    have c1:∀st:St,st.heap 19 g=some (.row 63 35 L.length (aA L))→g<st.aO 19→0<st.aO 1→(0<(G st).aO 1)=True:=fun st a b h=>eq_true (Nat.lt_of_lt_of_le h ((hG st ⟨a,b⟩).2.1.2 1))
    have c2:∀st:St,st.heap 19 g=some (.row 63 35 L.length (aA L))→g<st.aO 19→0<st.aO 2→(0<(G st).aO 2)=True:=fun st a b h=>eq_true (Nat.lt_of_lt_of_le h ((hG st ⟨a,b⟩).2.1.2 2))
    have fn:∀(st:St) (c:Nat),st.heap 19 g=some (.row 63 35 L.length (aA L))→g<st.aO 19→c=st.aO 19→(G st).heap 19 c=_:=fun st c a b e=>e ▸ (hG st ⟨a,b⟩).2.2.1
    have cn:∀(st:St) (c:Nat),st.heap 19 g=some (.row 63 35 L.length (aA L))→g<st.aO 19→c=st.aO 19→(c<(G st).aO 19)=True:=fun st c a b e=>e ▸ eq_true (hG st ⟨a,b⟩).2.2.2
    have f3:∀st:St,st.heap 19 g=some (.row 63 35 L.length (aA L))→g<st.aO 19→g9<st.aO 30→(G st).heap 30 g9=st.heap 30 g9:=fun st a b h=>(hG st ⟨a,b⟩).2.1.1 30 g9 h
    have c3:∀st:St,st.heap 19 g=some (.row 63 35 L.length (aA L))→g<st.aO 19→g9<st.aO 30→(g9<(G st).aO 30)=True:=fun st a b h=>eq_true (Nat.lt_of_lt_of_le h ((hG st ⟨a,b⟩).2.1.2 30))
    have eL:ol p.1.1=L:=by rw[hL];rfl
    rw[eL] at hs;apply Fl ((ol R).length-(k+1))
    ·simp only[ZG,seval,Bool.false_and,Prod.mk.injEq,Iz,hI,bA,q0,er,Be,Bf,Bg,Bh,g1,Kx,hh,LW,hg,g2,aBo,kG,f1,eY,dG,cA,hw];rfl
    ·exact⟨k+1,_,_,((some (L++[(⟨⟨p.1.2⟩,r.block,r.tries,0⟩:Request)]),IntKind.u64.wrap (p.1.2+1)),p.2),⟨by simp only[E8,seval,hI,eY],by simp only[E8,seval,hI,dG,cA]<;>rfl,by simp only[E8,seval,hI,eY],by simp only[E8,seval,hI,hh,hg,dG,cA,f2],by simp only[E8,seval,hI,eY],by simp only[E8,seval,hI,eY],by simp only[E8,seval,hI,hh,hg,cA,c1],by simp only[E8,seval,hI,hh,hg,cA,c2]⟩,.inr ⟨_,(L++[(⟨⟨p.1.2⟩,r.block,r.tries,0⟩:Request)]),rfl,rfl,by simp only[E8,seval,cA,hh,hg,cn],by simp only[E8,seval,dG,cA,hh,hg,fn]⟩,.inr ⟨g9,hz,rfl,by simp only[E8,seval,cA,hg9,hh,hg,c3],by simp only[E8,seval,dG,cA,hg9,LW,hh,hg,f3]⟩,hs.symm,by omega,rfl⟩
 case start=>exact⟨0,ov aA Q,.v (.slice none 0 0),((Q,t.bE),[]),⟨by simp only[E8,seval],by simp only[E8,seval,h.Ak]<;>rfl,by simp only[E8,seval],by simp only[E8,seval],by simp only[E8,seval],by simp only[E8,seval]<;>rfl,by simp only[E8,seval]<;>omega,by simp only[E8,seval]<;>omega⟩,.inl rfl,.inl ⟨rfl,rfl⟩,rfl,by omega,by omega⟩
 case rest =>
  rintro e st ⟨rfl,X,Y,p,hI,hX,hY,hp⟩
  have hv:aBp t v.ns Q R=Cj t (ov aA p.1.1) (ov aA (nz p.2)) p.1.2:=by unfold aBp;rw[← hp]
  have hex:∀st:St,∀X' Y',cI st X=some X'→cI st Y=some Y'→eT st (.agg (aF (Cj t X Y p.1.2)))=some (.agg (aF (Cj t X' Y' p.1.2))):=fun st X' Y' hx hy=>XK h st hx hy p.1.2
  rcases hX with rfl|⟨g,L,hL,rfl,hh⟩
  ·rcases hY with ⟨rfl,hz⟩|⟨g9,hz,rfl,LW⟩
   ·rw[hz,show nz ([]:List Request)=none from if_pos rfl] at hv
    simp only[ZG,seval,Bool.false_and,Prod.mk.injEq,Iz,hI];exact⟨_,dY rfl (by simp only[E8,seval,hI]<;>rfl) (by simp only[ZG,seval,hI]<;>rfl) (hex _ _ _ (pB _) (pB none)),by rw[hv]⟩
   ·rw[show nz p.2=some p.2 from if_neg hz] at hv;simp only[ZG,seval,Bool.false_and,Prod.mk.injEq,Iz,hI,LW];exact⟨_,dY rfl (by simp only[E8,seval,hI]<;>rfl) (by simp only[ZG,seval,hI]<;>rfl) (hex _ _ _ (pB _) (iY (by simp only[E8,seval,LW]<;>rfl))),by rw[hv]⟩
  ·rcases hY with ⟨rfl,hz⟩|⟨g9,hz,rfl,LW⟩
   ·rw[hz,show nz ([]:List Request)=none from if_pos rfl,hL] at hv
    simp only[ZG,seval,Bool.false_and,Prod.mk.injEq,Iz,hI,hh];exact⟨_,dY rfl (by simp only[E8,seval,hI]<;>rfl) (by simp only[ZG,seval,hI]<;>rfl) (hex _ _ _ (iY (by simp only[E8,seval,hh]<;>rfl)) (pB none)),by rw[hv]⟩
   ·rw[show nz p.2=some p.2 from if_neg hz,hL] at hv;simp only[ZG,seval,Bool.false_and,Prod.mk.injEq,Iz,hI,hh,LW];exact⟨_,dY rfl (by simp only[E8,seval,hI]<;>rfl) (by simp only[ZG,seval,hI]<;>rfl) (hex _ _ _ (iY (by simp only[E8,seval,hh]<;>rfl)) (iY (by simp only[E8,seval,LW]<;>rfl))),by rw[hv]⟩
theorem aFe (x:Int):IntKind.i64.wrap x≤9223372036854775807:=by
 rw[IntKind.wrap_i64];omega
def vV (a b:Request):Prop:=a.due<b.due∨(a.due=b.due∧a.tagged.tag<b.tagged.tag)
noncomputable def Bi:Nat→List Request→List Request
 | 0,l=>l
 | k+1,l=>if vV (gx bJ l ((k+1:Nat):Int)) (gx bJ l (k:Int)) then Bi k ((l.set (k+1) (gx bJ l (k:Int))).set k (gx bJ l ((k+1:Nat):Int))) else l
theorem LX:∀(k:Nat) (l:List Request),(Bi k l).length=l.length
 | 0,l=>rfl
 | k+1,l=>by
   unfold Bi;split
   ·rw[LX k,List.length_set,List.length_set]
   ·rfl
noncomputable def LY (t:State) (r:Request):Request:={ r with tries:=IntKind.i64.wrap (r.tries+1),due:=IntKind.u64.wrap (t.store.now+SS (IntKind.i64.wrap (r.tries+1)) t.store.cFg.lT.qV)}
noncomputable def o7 (t:State) (ns:List Node) (R:List Request) (r:Request):State :=
 if ¬qL ns r.block then t else if t.store.cFg.lT.nK≤(R.length:Int) then { t with overflow:=true } else { t with nA:=ov aA (some (Bi R.length (R++[LY t r])))}
theorem c72 {t:State} {v:SV} {Q R:Option (List Request)} (h:TD t v Q R) (r:Request):aD Tryz.prog 72 [.agg (aF t),.agg (bM r)]=some (.agg (aF (o7 t v.ns (ol R) r))):=by
 have hf:=h.flat
 have lO:=h.fl
 have nR:=h.nR
 have nR1:((ol R).length:Int)<1000000:=by omega
 have n8:=k85 h r.block
 have fr:Flat (.agg (bM r)):=.agg _ (fU r)
 rw[cL Tryz.func72 rfl aPq rfl];refine lM ?_
 by_cases g1:qL v.ns r.block
 case neg =>
  simp only[Z8,seval,n8,g1];exact⟨_,eU rfl (by simp only[E8,seval,hf]<;>rfl) (by simp only[Z8,seval,hf]<;>rfl) (by simp only[dU,and_self,hf]),by rw[o7,if_pos g1]⟩
 by_cases g2:t.store.cFg.lT.nK≤((ol R).length:Int)
 ·have hf2:Flat (.agg (aF { t with overflow:=true })):=(qD _).2 lO
  simp only[Z8,seval,n8,g1,h.ret,g2];exact⟨_,eU rfl (by simp only[E8,seval,lO]<;>rfl) (by simp only[Z8,seval,lO]<;>rfl) (by simp only[dU,and_self,lO]),by rw[o7,if_neg (fun hh=>hh g1),if_pos g2,← h.ret]⟩
 have hv:o7 t v.ns (ol R) r=_:=(if_neg (fun hh=>hh g1)).trans (if_neg g2)
 rw[hv];have k143':=aO9 (IntKind.i64.wrap (r.tries+1)) t.store.cFg.lT.qV (aFe _)
 obtain⟨L0,hL0⟩:∃L0,ol R++[LY t r]=L0:=⟨_,rfl⟩
 have hlL:L0.length=(ol R).length+1:=by rw[← hL0,List.length_append,List.length_cons,List.length_nil]
 have hL0':ol R++[({ tagged:=r.tagged,block:=r.block,tries:=IntKind.i64.wrap (r.tries+1),due:=IntKind.u64.wrap (t.store.now+SS (IntKind.i64.wrap (r.tries+1)) t.store.cFg.lT.qV)}:Request)]=L0:=hL0
 rw[hL0];have w1:IntKind.i64.wrap ((L0.length:Int)-1)=((ol R).length:Int):=by rw[pV _ (by omega) (by omega)];omega
 simp only[Z8,seval,n8,g1,h.ret,g2,k143',qH,qI,qM _ nR1,oG _ _ _ _ nR1,hL0',w1];refine cM (fun m st=>∃(k:Nat) (l:List Request),(st.env 2=.ptr 2 0 0∧st.heap 2 0=some (.cells (aF t))∧st.env 4=.ptr 4 0 0∧st.heap 4 0=some (.cells (aF jF))∧st.env 5=.own 46 0∧st.heap 46 0=some (.row 63 35 l.length (aA l))∧st.env 6=.v (.int .i64 k))∧Bi k l=Bi (ol R).length L0∧l.length=L0.length∧k≤(ol R).length∧m=k)
  (fun e st=>e=.exit 0∧∃(l:List Request),(st.env 2=.ptr 2 0 0∧st.heap 2 0=some (.cells (aF t))∧st.env 4=.ptr 4 0 0∧st.heap 4 0=some (.cells (aF jF))∧st.env 5=.own 46 0∧st.heap 46 0=some (.row 63 35 l.length (aA l)))∧l=Bi (ol R).length L0) (ol R).length ?step ?start ?rest
 case step =>
  rintro m st ⟨k,l,hI,hb,hl,hk,hm⟩
  cases k with
  | zero =>
    have z0:¬((0:Int)<((0:Nat):Int)):=by omega
    have hI':=hI
    apply oT (.exit 0)
    ·simp only[Z8,seval,hI,Int.lt_irrefl,qH,qI];rfl
    ·exact⟨rfl,l,by simp only[E8,seval,hI],by rw[← hb];rfl⟩
  | succ j =>
    obtain⟨i,hi⟩:∃i:Int,i=((j+1:Nat):Int):=⟨_,rfl⟩
    obtain⟨i',Bx⟩:∃i':Int,i'=(j:Int):=⟨_,rfl⟩
    rw[← hi] at hI;have p0:(0:Int)<i:=by omega
    have p1:(0:Int)≤i:=by omega
    have p2:i<(l.length:Int):=by omega
    have q1:(0:Int)≤i':=by omega
    have q2:i'<(l.length:Int):=by omega
    have hw:IntKind.i64.wrap (i-1)=i':=by rw[pV _ (by omega) (by omega)];omega
    have ti:i.toNat=j+1:=by omega
    have ti':i'.toNat=j:=by omega
    obtain⟨a,ea⟩:∃a,gx bJ l i=a:=⟨_,rfl⟩
    obtain⟨b,eb⟩:∃b,gx bJ l i'=b:=⟨_,rfl⟩
    have d1:=Eb (T:=23) (n:=l.length) (k:=1) (off:=34) p1 p2 RX (by decide) (by decide)
    have d2:=Eb (T:=23) (n:=l.length) (k:=1) (off:=34) q1 q2 RX (by decide) (by decide)
    have d3:=yR (T:=23) (n:=l.length) (k:=1) p1 p2 RX (by decide) (by decide)
    have d4:=yR (T:=23) (n:=l.length) (k:=1) q1 q2 RX (by decide) (by decide)
    have d5:=yR (T:=63) (n:=l.length) (k:=35) p1 p2 aFf (by decide) (by decide)
    have d6:=yR (T:=63) (n:=l.length) (k:=35) q1 q2 aFf (by decide) (by decide)
    rw[ea] at d1 d3 d5;rw[eb] at d2 d4 d6;have aBq:∀P:Prop,(vV a b↔P)→Bi (j+1) l=if P then Bi j ((l.set (j+1) b).set j a) else l:=fun P hP=>by
     have e1:gx bJ l ((j+1:Nat):Int)=a:=by rw[← hi];exact ea
     have e2:gx bJ l (j:Int)=b:=by rw[← Bx];exact eb
     have e0:Bi (j+1) l=if vV (gx bJ l ((j+1:Nat):Int)) (gx bJ l (j:Int)) then Bi j ((l.set (j+1) (gx bJ l (j:Int))).set j (gx bJ l ((j+1:Nat):Int))) else l:=rfl
     rw[e0,e1,e2];by_cases hh:vV a b
     ·rw[if_pos hh,if_pos (hP.1 hh)]
     ·rw[if_neg hh,if_neg (fun x=>hh (hP.2 x))]
    have x3:i.toNat * 35+35≤l.length * 35:=by omega
    have x4:i'.toNat * 35+35≤(l.set i.toNat b).length * 35:=by rw[List.length_set];omega
    have x4':i'.toNat * 35+35≤l.length * 35:=by omega
    have u1:=Ky l i b (by omega)
    have u2:=Ky (l.set i.toNat b) i' a (by rw[List.length_set];omega)
    have swp:(l.set i.toNat b).set i'.toNat a=(l.set (j+1) b).set j a:=by rw[ti,ti']
    by_cases g3:a.due<b.due
    ·have mZ:=aBq True (iff_of_true (.inl g3) trivial)
     rw[if_pos trivial] at mZ
     apply oN (j)
     ·simp only[Z8,seval,hI,p0,p1,p2,q1,q2,hw,d1,d2,d3,d4,d5,d6,g3,x3,x4,x4',u1,u2,List.length_set,qH,qI];rfl
     ·exact⟨j,(l.set i.toNat b).set i'.toNat a,⟨by simp only[E8,seval,hI],by simp only[E8,seval,hI],by simp only[E8,seval,hI],by simp only[E8,seval,hI],by simp only[E8,seval,hI],by rw[List.length_set,List.length_set];simp only[E8,seval,List.length_set]<;>rfl,by simp only[E8,seval,Bx]⟩,by rw[swp,← mZ];exact hb,by rw[List.length_set,List.length_set];exact hl,by omega,rfl⟩
    by_cases g4:a.due=b.due
    case neg =>
     have mZ:=aBq False (iff_of_false (fun x=>x.elim g3 fun y=>g4 y.1) id)
     rw[if_neg id] at mZ
     apply oT (.exit 0)
     ·simp only[Z8,seval,hI,p0,p1,p2,q1,q2,hw,d1,d2,d3,d4,d5,d6,g3,bf g4,qH,qI];rfl
     ·exact⟨rfl,l,by simp only[E8,seval,hI],by rw[← hb,mZ]⟩
    by_cases g5:a.tagged.tag<b.tagged.tag
    ·have mZ:=aBq True (iff_of_true (.inr ⟨g4,g5⟩) trivial)
     rw[if_pos trivial] at mZ
     apply oN (j)
     ·simp only[Z8,seval,hI,p0,p1,p2,q1,q2,hw,d1,d2,d3,d4,d5,d6,g3,bt g4,g5,x3,x4,x4',u1,u2,List.length_set,qH,qI];rfl
     ·exact⟨j,(l.set i.toNat b).set i'.toNat a,⟨by simp only[E8,seval,hI],by simp only[E8,seval,hI],by simp only[E8,seval,hI],by simp only[E8,seval,hI],by simp only[E8,seval,hI],by rw[List.length_set,List.length_set];simp only[E8,seval,List.length_set]<;>rfl,by simp only[E8,seval,Bx]⟩,by rw[swp,← mZ];exact hb,by rw[List.length_set,List.length_set];exact hl,by omega,rfl⟩
    ·have mZ:=aBq False (iff_of_false (fun x=>x.elim g3 fun y=>g5 y.2) id)
     rw[if_neg id] at mZ
     apply oT (.exit 0)
     ·simp only[Z8,seval,hI,p0,p1,p2,q1,q2,hw,d1,d2,d3,d4,d5,d6,g3,bt g4,g5,qH,qI];rfl
     ·exact⟨rfl,l,by simp only[E8,seval,hI],by rw[← hb,mZ]⟩
 case start=>exact⟨(ol R).length,L0,by simp only[E8,seval]<;>rfl,rfl,rfl,by omega,rfl⟩
 case rest =>
  rintro e st ⟨rfl,l,hI,hl⟩
  have hex:=oU l.length l
  subst hl;simp only[Z8,seval,hI];exact⟨_,by apply dY;rfl;all_goals simp only[aI,Z8,seval,hI,hex,lO,bO,uW,gB,bC,cE,oU,dU]<;>rfl,rfl⟩
theorem aPr {t:State} {v:SV} {Q R:Option (List Request)} {q:Int} (hT:TD t v Q R) (h:GI t.store v q) (r:RG t.store v) (hB:0<(ol v.B).length∧(ol v.B).length≤64) (hq:∀r∈ol Q,Rg r.tagged.tag) (n k:Int) (hk:0≤k) :
 ∃x,aD Tryz.prog 146 [.agg (aF t),.v (.int .i64 n),.v (.int .i64 k)]=some x∧∃y:wG,x=.agg (kF y)∧oS y∧(y.kind=2→y.block.root=mkRoot n∨∃m∈v.ns,y.block.root=m.block.root):=by
 have z:=zOk
 have hm:=zW hk (min 4 IntKind.i64.bits)
 have hf:=hT.flat
 have WJ:=h.sd.flat
 obtain⟨x1,e1,b,rfl,rb⟩:=x50 h r n (k.fdiv (2 ^ min 4 IntKind.i64.bits)) hm
 obtain⟨x2,e2,a,V,rfl,hV,nV,ra1,ra2⟩:=x37 h r hB (k.fdiv (2 ^ min 4 IntKind.i64.bits)) hm
 obtain⟨x3,e3,sl,rfl,c1,c2,s1,s2,s3,s4⟩:=aOX (ol v.B).length (k.fdiv (2 ^ min 4 IntKind.i64.bits)) (by omega) (by omega)
 obtain⟨x4,e4,tb,bl,rfl,hb,nb,rbl,rt⟩:=aOY h r hB (k.fdiv (2 ^ min 4 IntKind.i64.bits)) hm
 obtain⟨x5,e5,w,rfl,rw5⟩:=x25 hT h hq (k.fdiv (2 ^ min 4 IntKind.i64.bits)) hm
 have fA:Flat a.eK:=by rw[hV];exact bQ _
 have fT:Flat tb.jH:=by rw[hb];exact dX _
 have k50:=kx e1 (mC WJ (.v _) (.v _)) (tZ b)
 have k37:=kx e2 (bI WJ (.v _)) ((Ba a).2 fA)
 have k182:=kx e3 (bI (.v _) (.v _)) ((mL sl).2 ⟨(yG _).1 c1.fl,(yG _).1 c2.fl⟩)
 have k183:=kx e4 (bI WJ (.v _)) ((kL tb).2 fT)
 have k25:=kx e5 (bI hf (.v _)) (.agg _ (fV w))
 have y1:oS { yO with kind:=1 }:=⟨z.Fk,z.c1,z.c2,z.SO,z.rb,z.ra,z.rs,z.rt,z.rv⟩
 have y2:oS { yO with kind:=2,block:=b }:=⟨z.Fk,z.c1,z.c2,z.SO,rb.toRB,z.ra,z.rs,z.rt,z.rv⟩
 have y3:oS { yO with kind:=3,Fk:=a }:=⟨⟨some V,hV,nV⟩,z.c1,z.c2,z.SO,z.rb,⟨ra1,ra2⟩,z.rs,z.rt,z.rv⟩
 have y4:oS { yO with kind:=4,oD:=sl }:=⟨z.Fk,c1,c2,z.SO,z.rb,z.ra,⟨s1,s2,s3,s4⟩,z.rt,z.rv⟩
 have y5:oS { yO with kind:=5,table:=tb }:=⟨z.Fk,z.c1,z.c2,⟨some bl,hb,nb,rbl⟩,z.rb,z.ra,z.rs,rt,z.rv⟩
 have y6:oS { yO with kind:=6,verdict:=w }:=⟨z.Fk,z.c1,z.c2,z.SO,z.rb,z.ra,z.rs,z.rt,rw5⟩
 rw[cL Tryz.func146 rfl aKJ rfl];by_cases c0:((k).tmod 16)=0
 ·simp only[Z8,seval,bt c0];exact⟨_,eU rfl (by simp only[E8,seval]<;>rfl) (by simp only[Z8,seval]<;>rfl) y1.flat,_,rfl,y1,fun h=>absurd (show (1:Int)=2 from h) (by decide)⟩
 by_cases c1:((k).tmod 16)=1
 ·simp only[Z8,seval,bf c0,bt c1];exact⟨_,eU rfl (by simp only[E8,seval]<;>rfl) (by simp only[Z8,seval]<;>rfl) y1.flat,_,rfl,y1,fun h=>absurd (show (1:Int)=2 from h) (by decide)⟩
 by_cases c2:((k).tmod 16)=2
 ·simp only[Z8,seval,bf c0,bf c1,bt c2];exact⟨_,eU rfl (by simp only[E8,seval]<;>rfl) (by simp only[Z8,seval]<;>rfl) y1.flat,_,rfl,y1,fun h=>absurd (show (1:Int)=2 from h) (by decide)⟩
 by_cases c3:((k).tmod 16)=3
 ·simp only[Z8,seval,bf c0,bf c1,bf c2,bt c3,k50];exact⟨_,eU rfl (by simp only[E8,seval]<;>rfl) (by simp only[Z8,seval]<;>rfl) y2.flat,_,rfl,y2,fun _=>rb.rt⟩
 by_cases c4:((k).tmod 16)=4
 ·simp only[Z8,seval,bf c0,bf c1,bf c2,bf c3,bt c4,k50];exact⟨_,eU rfl (by simp only[E8,seval]<;>rfl) (by simp only[Z8,seval]<;>rfl) y2.flat,_,rfl,y2,fun _=>rb.rt⟩
 by_cases c5:((k).tmod 16)=5
 ·simp only[Z8,seval,bf c0,bf c1,bf c2,bf c3,bf c4,bt c5,k50];exact⟨_,eU rfl (by simp only[E8,seval]<;>rfl) (by simp only[Z8,seval]<;>rfl) y2.flat,_,rfl,y2,fun _=>rb.rt⟩
 by_cases c6:((k).tmod 16)=6
 ·simp only[Z8,seval,bf c0,bf c1,bf c2,bf c3,bf c4,bf c5,bt c6,k50];exact⟨_,eU rfl (by simp only[E8,seval]<;>rfl) (by simp only[Z8,seval]<;>rfl) y2.flat,_,rfl,y2,fun _=>rb.rt⟩
 by_cases c7:((k).tmod 16)=7
 ·simp only[Z8,seval,bf c0,bf c1,bf c2,bf c3,bf c4,bf c5,bf c6,bt c7,k50];exact⟨_,eU rfl (by simp only[E8,seval]<;>rfl) (by simp only[Z8,seval]<;>rfl) y2.flat,_,rfl,y2,fun _=>rb.rt⟩
 by_cases c8:((k).tmod 16)=8
 ·simp only[Z8,seval,bf c0,bf c1,bf c2,bf c3,bf c4,bf c5,bf c6,bf c7,bt c8,k37];exact⟨_,eU rfl (by simp only[E8,seval]<;>rfl) (by simp only[Z8,seval]<;>rfl) y3.flat,_,rfl,y3,fun h=>absurd (show (3:Int)=2 from h) (by decide)⟩
 by_cases c9:((k).tmod 16)=9
 ·simp only[Z8,seval,bf c0,bf c1,bf c2,bf c3,bf c4,bf c5,bf c6,bf c7,bf c8,bt c9,k37];exact⟨_,eU rfl (by simp only[E8,seval]<;>rfl) (by simp only[Z8,seval]<;>rfl) y3.flat,_,rfl,y3,fun h=>absurd (show (3:Int)=2 from h) (by decide)⟩
 by_cases c10:((k).tmod 16)=10
 ·simp only[Z8,seval,bf c0,bf c1,bf c2,bf c3,bf c4,bf c5,bf c6,bf c7,bf c8,bf c9,bt c10,k37];exact⟨_,eU rfl (by simp only[E8,seval]<;>rfl) (by simp only[Z8,seval]<;>rfl) y3.flat,_,rfl,y3,fun h=>absurd (show (3:Int)=2 from h) (by decide)⟩
 by_cases c11:((k).tmod 16)=11
 ·simp only[Z8,seval,bf c0,bf c1,bf c2,bf c3,bf c4,bf c5,bf c6,bf c7,bf c8,bf c9,bf c10,bt c11,h.sd.jH,k182];exact⟨_,eU rfl (by simp only[E8,seval]<;>rfl) (by simp only[Z8,seval]<;>rfl) y4.flat,_,rfl,y4,fun h=>absurd (show (4:Int)=2 from h) (by decide)⟩
 by_cases c12:((k).tmod 16)=12
 ·simp only[Z8,seval,bf c0,bf c1,bf c2,bf c3,bf c4,bf c5,bf c6,bf c7,bf c8,bf c9,bf c10,bf c11,bt c12,k183];exact⟨_,eU rfl (by simp only[E8,seval]<;>rfl) (by simp only[Z8,seval]<;>rfl) y5.flat,_,rfl,y5,fun h=>absurd (show (5:Int)=2 from h) (by decide)⟩
 simp only[Z8,seval,bf c0,bf c1,bf c2,bf c3,bf c4,bf c5,bf c6,bf c7,bf c8,bf c9,bf c10,bf c11,bf c12,k25];exact⟨_,eU rfl (by simp only[E8,seval]<;>rfl) (by simp only[Z8,seval]<;>rfl) y6.flat,_,rfl,y6,fun h=>absurd (show (6:Int)=2 from h) (by decide)⟩
theorem aKK (l:List Int) (hl:(l.length:Int)≤9223372036854775807):∃x,aD Tryz.prog 101 [.sl l.length (aJ l)]=some x∧∃(c:Config) (b:List Int),x=.agg (bR c)∧Nd c b:=by
 have k0:=Mk l hl 0 (by omega) (by omega)
 obtain⟨a0,b0⟩:=eC (n:=8) (Mj l hl 0 (by omega) (by omega)).2.1 (by omega)
 obtain⟨x0,h0⟩:∃x,(EK l 0).tmod 8=x:=⟨_,rfl⟩
 rw[h0] at a0 b0;have k1:=Mk l hl 1 (by omega) (by omega)
 obtain⟨a1,b1⟩:=eC (n:=4) (Mj l hl 1 (by omega) (by omega)).2.1 (by omega)
 obtain⟨x1,h1⟩:∃x,(EK l 1).tmod 4=x:=⟨_,rfl⟩
 rw[h1] at a1 b1;have k2:=Mk l hl 2 (by omega) (by omega)
 obtain⟨a2,b2⟩:=eC (n:=4) (Mj l hl 2 (by omega) (by omega)).2.1 (by omega)
 obtain⟨x2,h2⟩:∃x,(EK l 2).tmod 4=x:=⟨_,rfl⟩
 rw[h2] at a2 b2;have k3:=Mk l hl 3 (by omega) (by omega)
 obtain⟨a3,b3⟩:=eC (n:=4) (Mj l hl 3 (by omega) (by omega)).2.1 (by omega)
 obtain⟨x3,h3⟩:∃x,(EK l 3).tmod 4=x:=⟨_,rfl⟩
 rw[h3] at a3 b3;have k4:=Mk l hl 4 (by omega) (by omega)
 obtain⟨a4,b4⟩:=eC (n:=4) (Mj l hl 4 (by omega) (by omega)).2.1 (by omega)
 obtain⟨x4,h4⟩:∃x,(EK l 4).tmod 4=x:=⟨_,rfl⟩
 rw[h4] at a4 b4;have k5:=Mk l hl 5 (by omega) (by omega)
 obtain⟨a5,b5⟩:=eC (n:=5) (Mj l hl 5 (by omega) (by omega)).2.1 (by omega)
 obtain⟨x5,h5⟩:∃x,(EK l 5).tmod 5=x:=⟨_,rfl⟩
 rw[h5] at a5 b5;have k6:=Mk l hl 6 (by omega) (by omega)
 obtain⟨a6,b6⟩:=eC (n:=4) (Mj l hl 6 (by omega) (by omega)).2.1 (by omega)
 obtain⟨x6,h6⟩:∃x,(EK l 6).tmod 4=x:=⟨_,rfl⟩
 rw[h6] at a6 b6;have k7:=Mk l hl 7 (by omega) (by omega)
 obtain⟨a7,b7⟩:=eC (n:=3) (Mj l hl 7 (by omega) (by omega)).2.1 (by omega)
 obtain⟨x7,h7⟩:∃x,(EK l 7).tmod 3=x:=⟨_,rfl⟩
 rw[h7] at a7 b7;have k8:=Mk l hl 8 (by omega) (by omega)
 obtain⟨a8,b8⟩:=eC (n:=2) (Mj l hl 8 (by omega) (by omega)).2.1 (by omega)
 obtain⟨x8,h8⟩:∃x,(EK l 8).tmod 2=x:=⟨_,rfl⟩
 rw[h8] at a8 b8;have k9:=Mk l hl 9 (by omega) (by omega)
 obtain⟨a9,b9⟩:=eC (n:=5) (Mj l hl 9 (by omega) (by omega)).2.1 (by omega)
 obtain⟨x9,h9⟩:∃x,(EK l 9).tmod 5=x:=⟨_,rfl⟩
 rw[h9] at a9 b9;have w0:IntKind.i64.wrap (6+x0)=6+x0:=pV _ (by omega) (by omega)
 have w3:IntKind.i64.wrap (1+x3)=1+x3:=pV _ (by omega) (by omega)
 have w5:IntKind.i64.wrap (1+x5)=1+x5:=pV _ (by omega) (by omega)
 have w5':IntKind.u64.wrap (1+x5)=1+x5:=wrap_u64 _ (by omega) (by omega)
 have w6:IntKind.i64.wrap (1+x6)=1+x6:=pV _ (by omega) (by omega)
 have w6':IntKind.u64.wrap (1+x6)=1+x6:=wrap_u64 _ (by omega) (by omega)
 have w9:IntKind.i64.wrap (2+x9)=2+x9:=pV _ (by omega) (by omega)
 have g7:=oR (l:=[0,40,100]) a7 (by show x7<((3:Nat):Int);omega)
 obtain⟨bp,hbp⟩:∃y,it [0,40,100] x7=y:=⟨_,rfl⟩
 have hbp1:0≤bp∧bp≤100:=by
  rcases (by omega:x7=0∨x7=1∨x7=2) with e|e|e<;>(rw[e] at hbp;rw[← hbp];decide)
 have w7:IntKind.u64.wrap bp=bp:=wrap_u64 _ (by omega) (by omega)
 rw[cL Tryz.func101 rfl aKL rfl];simp only[Z8,seval,qH,qI,k0,k1,k2,k3,k4,k5,k6,k7,k8,h0,h1,h2,h3,h4,h5,h6,h7,h8,w0,w3,w5,w5',w6,w6',a7,b7,g7,hbp,w7,qK,Nat.reduceLT,Pp];have n9:(2+x9).toNat≤6:=by omega
 refine cM (fun m st=>∃(j:Nat) (lT:nU) (sp bq:Int) (tt:rS) (X:AV) (b:List Int),(st.env 0=.sl l.length (aJ l)∧st.env 2=.ptr 2 0 0∧st.heap 2 0=some (.cells (bR mO))∧st.env 3=.ptr 3 0 0∧st.heap 3 0=some (.cells (bR ⟨lT,sp,bq,tt,mkRoot 1,X⟩))∧st.env 4=.v (.int .i64 j))∧(lT=⟨6+x0,x1,x2,1+x3,x4,1+x5⟩∧sp=1+x6∧bq=bp)∧((X=.v (.slice none 0 0)∧b=[])∨∃g,X=.own 64 g∧g<st.aO 64∧st.heap 64 g=some (.row 23 1 b.length (bD b)))∧(∀y∈b,0≤y∧y≤1000)∧b.length=j∧j≤(2+x9).toNat∧m=(2+x9).toNat-j)
  (fun e st=>e=.exit 0∧∃(lT:nU) (sp bq:Int) (tt:rS) (g:Nat) (b:List Int),(st.env 2=.ptr 2 0 0∧st.heap 2 0=some (.cells (bR mO))∧st.env 3=.ptr 3 0 0∧st.heap 3 0=some (.cells (bR ⟨lT,sp,bq,tt,mkRoot 1,.own 64 g⟩))∧st.heap 64 g=some (.row 23 1 b.length (bD b)))∧(lT=⟨6+x0,x1,x2,1+x3,x4,1+x5⟩∧sp=1+x6∧bq=bp)∧(∀y∈b,0≤y∧y≤1000)∧1≤b.length∧b.length≤6) (2+x9).toNat ?step ?start ?rest
 case step =>
  rintro m st ⟨j,lT,sp,bq,tt,X,b,hI,hC,hX,hb,hj,hjn,hm⟩
  by_cases bA:(j:Int)<2+x9
  ·have q0:(0:Int)≤j:=by omega
   have hw:IntKind.i64.wrap ((j:Int)+1)=((j+1:Nat):Int):=by rw[pV _ (by omega) (by omega)];omega
   obtain⟨jj,hjj⟩:∃jj:Int,jj=10+(j:Int):=⟨_,rfl⟩
   have WV:IntKind.i64.wrap (10+(j:Int))=jj:=by rw[pV _ (by omega) (by omega),hjj]
   have kj:=Mk l hl jj (by omega) (by omega)
   obtain⟨aj,bj⟩:=eC (n:=40) (Mj l hl jj (by omega) (by omega)).2.1 (by omega)
   obtain⟨y,hy⟩:∃y,(EK l jj).tmod 40=y:=⟨_,rfl⟩
   rw[hy] at aj bj;have wy:IntKind.u64.wrap y=y:=wrap_u64 _ (by omega) (by omega)
   have nL:(b.length:Int)<1000000:=by omega
   have Zv:∀z∈b++[y],0≤z∧z≤1000:=fun z hz=>(List.mem_append.1 hz).elim (hb z) fun e=>by rw[List.mem_singleton] at e;rw[e];omega
   have Pl:(b++[y]).length=j+1:=by rw[List.length_append,List.length_cons,List.length_nil];omega
   rcases hX with ⟨rfl,rfl⟩|⟨g,rfl,hg,hh⟩
   ·apply oN ((2+x9).toNat-(j+1))
    ·simp only[Z8,seval,hI,k9,h9,w9,bA,WV,kj,hy,wy,hw];rfl
    ·exact⟨j+1,_,_,_,_,_,[]++[y],⟨by simp only[E8,seval,hI],by simp only[E8,seval,hI],by simp only[E8,seval,hI],by simp only[E8,seval,hI],by simp only[E8,seval,hI]<;>rfl,by simp only[E8,seval]⟩,hC,.inr ⟨_,rfl,by simp only[E8,seval]<;>omega,by simp only[E8,seval]<;>rfl⟩,Zv,Pl,by omega,rfl⟩
   ·have uD:(g=st.aO 64)=False:=eq_false (by omega)
    apply oN ((2+x9).toNat-(j+1))
    ·simp only[Z8,seval,hI,hh,uD,k9,h9,w9,bA,WV,kj,hy,wy,hw,xB _ _ _ _ nL];rfl
    ·exact⟨j+1,_,_,_,_,_,b++[y],⟨by simp only[E8,seval,hI],by simp only[E8,seval,hI],by simp only[E8,seval,hI],by simp only[E8,seval,hI],by simp only[E8,seval,hI]<;>rfl,by simp only[E8,seval]⟩,hC,.inr ⟨_,rfl,by simp only[E8,seval]<;>omega,by simp only[E8,seval]<;>rfl⟩,Zv,Pl,by omega,rfl⟩
  ·rcases hX with ⟨rfl,rfl⟩|⟨g,rfl,hg,hh⟩
   ·simp at hj;omega
   ·apply oT (.exit 0)
    ·simp only[Z8,seval,hI,k9,h9,w9,bA];rfl
    ·exact⟨rfl,_,_,_,_,g,b,⟨by simp only[E8,seval,hI],by simp only[E8,seval,hI],by simp only[E8,seval,hI],by simp only[E8,seval,hI]<;>rfl,by simp only[E8,seval,hh]⟩,hC,hb,by omega,by omega⟩
 case start=>exact⟨0,_,_,_,_,_,[],by and_intros<;>(simp only[E8,seval]<;>rfl),⟨rfl,rfl,rfl⟩,.inl ⟨rfl,rfl⟩,by simp,rfl,by omega,by omega⟩
 case rest =>
  rintro e st ⟨rfl,lT,sp,bq,tt,g,b,hI,⟨rfl,rfl,rfl⟩,hb,Pl,WK⟩
  simp only[Z8,seval,hI];exact⟨_,by apply dY;rfl;all_goals simp only[aI,Z8,seval,hI,bO,Wt,bC,uS,dU]<;>rfl,⟨⟨6+x0,x1,x2,1+x3,x4,1+x5⟩,1+x6,bq,tt,mkRoot 1,ov bD (some b)⟩,b,rfl,⟨rfl,by omega,hb,by dsimp only;omega,by dsimp only;omega,by dsimp only;omega,by dsimp only;omega,by dsimp only;omega,by dsimp only;omega,by dsimp only;omega,by dsimp only;omega,rfl,by dsimp only;omega⟩⟩
structure SB (a r:List Node):Prop where
 QL:r.map (·.block)=a.map (·.block)
 up:r.map (·.up)=a.map (·.up)
theorem SB.refl (a:List Node):SB a a:=⟨rfl,rfl⟩
theorem SB.trans {a b c:List Node} (h:SB a b) (g:SB b c):SB a c:=⟨g.QL.trans h.QL,g.up.trans h.up⟩
theorem SB.len {a r:List Node} (h:SB a r):r.length=a.length:=by have:=congrArg List.length h.QL;simpa using this
theorem SB.block {a r:List Node} (h:SB a r) {j:Int} (j1:j.toNat<a.length):(nd r j).block=(nd a j).block:=by
 have h2:j.toNat<r.length:=by rw[h.len];exact j1
 have:=congrArg (fun l:List Block=>l[j.toNat]?) h.QL
 simpa [nd,j1,h2] using this
theorem SB.upE {a r:List Node} (h:SB a r) {j:Int} (j1:j.toNat<a.length):(nd r j).up=(nd a j).up:=by
 have h2:j.toNat<r.length:=by rw[h.len];exact j1
 have:=congrArg (fun l:List Int=>l[j.toNat]?) h.up
 simpa [nd,j1,h2] using this
theorem DJ (l:List Node) (x:cC):aM l x=match (l.map (·.block)).findIdx? (fun b=>decide (b.root=x)) with
 | some k=>(k:Int)
 | none=>-1:=by
 unfold aM;rw[List.findIdx?_map];rfl
theorem SB.aM {a r:List Node} (h:SB a r) (x:cC):aM r x=aM a x:=by rw[DJ,DJ,h.QL]
theorem L9 (ns:List Node) (i to:Int):SB ns (setAt ns i to):=by
 have key:∀ {β:Type} (f:Node→β),(∀n s,f (Vn n s)=f n)→(setAt ns i to).map f=ns.map f:=by
  intro β f hf;unfold setAt;rw[List.map_set];apply List.ext_getElem (by simp)
  intro j h1 h2;rw[List.getElem_set];split
  ·rename_i e;have h3:j<ns.length:=by simpa using h2
   subst e;simp[hf,nd,h3]
  ·rfl
 exact⟨key _ fun _ _=>rfl,key _ fun _ _=>rfl⟩
theorem FW {to never:Int}:∀(l:List Int) (ns r:List Node),CP to never l ns=some r→SB ns r
 | [],ns,r,h=>by simp only[CP,Option.some.injEq] at h;rw[h];exact SB.refl _
 | i :: l,ns,r,h=>by
   simp only[CP] at h;split at h
   ·cases h
   ·exact (L9 ns i to).trans (FW l _ _ h)
def LZ (ns:List Node) (x:AV):Prop:=(∃e:Int,e≠0∧x=.eB [.agg [.v (.slice none 0 0)],.v (.int .i64 e)])∨∃r,SB ns r∧x=.eB [.agg (cP ⟨r⟩),.v (.int .i64 0)]
theorem LZ.err (ns:List Node) {e:Int} (h:e≠0):LZ ns (AB e):=.inl ⟨e,h,rfl⟩
theorem aFg (ns:List Node) (i:Int):LZ ns (E6 ns i):=by
 unfold E6;split
 ·unfold stA;split
  ·exact .err _ (by decide)
  ·rename_i r hr;exact .inr ⟨r,FW _ _ _ hr,rfl⟩
 ·exact .err _ (by decide)
theorem M0 (ns:List Node) (i:Int):LZ ns (E7 ns i):=by
 unfold E7;split
 ·unfold stA;split
  ·exact .err _ (by decide)
  ·rename_i r hr;exact .inr ⟨r,FW _ _ _ hr,rfl⟩
 ·exact .err _ (by decide)
theorem LZ.of {a b:List Node} (h:SB a b) {x:AV} (g:LZ b x):LZ a x:=g.imp id fun ⟨r,h1,h2⟩=>⟨r,h.trans h1,h2⟩
theorem aFh (ns:List Node) (i:Int) (v:eR) (l:List Int):LZ ns (RP ns i v l):=by
 unfold RP;split
 ·exact .err _ (by decide)
 split
 ·exact aFg ns i
 split
 ·unfold H6;split
  ·exact .err _ (by decide)
  split
  ·split
   ·exact .err _ (by decide)
   ·rename_i r hr;exact .of (FW _ _ _ hr) (M0 _ _)
  ·exact M0 _ _
 split
 ·exact .inr ⟨ns,SB.refl ns,rfl⟩
 ·exact .err _ (by decide)
theorem GI.tree {s:aN} {v:SV} {q:Int} (h:GI s v q) {r:List Node} (hs:SB v.ns r):GI { s with tree:=⟨.sl r.length (bZ r)⟩} { v with ns:=r } q:=by
 have hl:=hs.len
 have hp:=h.pos
 refine⟨⟨h.sd.jH,h.sd.dR,h.sd.gZ,h.sd.early,h.sd.bY,rfl,h.sd.tables,h.sd.eV,h.sd.tB,h.sd.nB,h.sd.nL,h.sd.nQ,h.sd.nE,h.sd.nO,h.sd.nT,by rw[hl];exact h.sd.nn⟩,fun i i0 i1=>?_, ?_,by show 0<r.length;omega,by rw[hl];exact h.nl,h.KX,h.qG,h.KY,h.nB,h.nO,h.KZ,h.nE,h.QP,h.nT,h.RZ,h.nQ,h.I3, ?_⟩
 ·have i1:i<(r.length:Int):=i1
  show 0≤(nd r i).up∧(nd r i).up<i
  rw[hs.upE (by omega)];exact h.up i i0 (by omega)
 ·show (nd r 0).up=-1
  rw[hs.upE (by show (0:Nat)<_;omega)];exact h.KC
 ·show 0≤aM r s.bH.gP.root
  rw[hs.aM];exact h.gP
theorem RG.tree {s:aN} {v:SV} (h:RG s v) {r:List Node} (hs:SB v.ns r) (x:Eu):RG { s with tree:=x } { v with ns:=r } :=
 ⟨h.now,h.j,h.f,fun n hn=>by
  have:n.block∈r.map (·.block):=List.mem_map.2 ⟨n,hn,rfl⟩
  rw[hs.QL] at this;obtain⟨a,ha,e⟩:=List.mem_map.1 this
  rw[← e];exact h.nd a ha,h.or,fun n hn=>by
  have:n.block∈r.map (·.block):=List.mem_map.2 ⟨n,hn,rfl⟩
  rw[hs.QL] at this;obtain⟨a,ha,e⟩:=List.mem_map.1 this
  rw[← e];exact h.rt a ha,h.fe,by
  have e:=congrArg (List.map fun b:Block=>b.root) hs.QL
  rw[List.map_map,List.map_map] at e;show (r.map ((fun b:Block=>b.root) ∘ fun n=>n.block)).Nodup
  rw[e];exact h.ds,h.tb,⟨h.ne.q,h.ne.e,h.ne.o,h.ne.t,h.ne.ea,h.ne.tb⟩⟩
structure TQ (Q:List Request) (tag:Int):Prop where
 pos:1≤tag
 all:∀r∈Q,1≤r.tagged.tag∧r.tagged.tag<tag∧r.due=0
 asc:Q.Pairwise fun a b=>a.tagged.tag<b.tagged.tag
structure TR (R:List Request) (tag:Int):Prop where
 all:∀r∈R,r.tagged.tag<tag
 asc:R.Pairwise fun a b=>¬vV b a
def SX (ns:List Node) (l:List Request):Prop:=∀r∈l,0≤aM ns r.block
theorem TQ.sub {P Q:List Request} {tag:Int} (h:TQ Q tag) (s:P.Sublist Q):TQ P tag:=⟨h.pos,fun r hr=>h.all r (s.subset hr),h.asc.sublist s⟩
theorem TR.sub {P Q:List Request} {tag:Int} (h:TR Q tag) (s:P.Sublist Q):TR P tag:=⟨fun r hr=>h.all r (s.subset hr),h.asc.sublist s⟩
theorem TR.mono {Q:List Request} {t t':Int} (h:TR Q t) (l:t≤t'):TR Q t':=⟨fun r hr=>by have:=h.all r hr;omega,h.asc⟩
theorem SX.sub {ns:List Node} {P Q:List Request} (h:SX ns Q) (s:P.Sublist Q):SX ns P:=fun r hr=>h r (s.subset hr)
theorem TQ.app {Q:List Request} {tag:Int} (h:TQ Q tag) (b:cC) (n:Int):TQ (Q++[⟨⟨tag⟩,b,n,0⟩]) (tag+1):=by
 refine⟨by have:=h.pos;omega,fun r hr=>?_,List.pairwise_append.2 ⟨h.asc,List.pairwise_singleton ..,fun a ha b hb=>?_⟩⟩
 ·rcases List.mem_append.1 hr with hr|hr
  ·obtain⟨h1,h2,h3⟩:=h.all r hr;exact⟨h1,by omega,h3⟩
  ·rw[List.mem_singleton] at hr;subst hr;exact⟨h.pos,by show tag<tag+1;omega,rfl⟩
 ·rw[List.mem_singleton] at hb;subst hb;exact (h.all a ha).2.1
theorem SX.app {ns:List Node} {Q:List Request} (h:SX ns Q) {x:Request} (hx:0≤aM ns x.block):SX ns (Q++[x]):=fun r hr=>by
 rcases List.mem_append.1 hr with hr|hr
 ·exact h r hr
 ·rw[List.mem_singleton] at hr;subst hr;exact hx
theorem aFi {x:Int} (h1:1≤x) (h2:x≤1000000):IntKind.u64.wrap (x+1)=x+1:=wrap_u64 _ (by omega) (by omega)
theorem Ng (ns:List Node) (now:Int):∀(l:List Request) (a:(Option (List Request) × Int) × List Request),TQ (ol a.1.1) a.1.2→SX ns (ol a.1.1)→a.1.2+l.length≤1000000 →
 TQ (ol (yQ ns now a l).1.1) (yQ ns now a l).1.2∧SX ns (ol (yQ ns now a l).1.1)∧a.1.2≤(yQ ns now a l).1.2∧(yQ ns now a l).1.2≤a.1.2+l.length∧(yQ ns now a l).2=a.2++l.filter fun r=>decide (now<r.due)
 | [],a,h,hi,hb=>⟨h,hi,by show a.1.2≤a.1.2;omega,by show a.1.2≤a.1.2+((0:Nat):Int);omega,(List.append_nil _).symm⟩
 | r :: l,a,h,hi,hb=>by
   have hp:=h.pos
   rw[List.length_cons] at hb;have hw:=aFi hp (by omega)
   have e0:yQ ns now a (r :: l)=yQ ns now (Kv ns now a r) l:=rfl
   rw[e0,List.length_cons];by_cases g1:now<r.due
   ·have e1:Kv ns now a r=(a.1,a.2++[r]):=if_pos g1
    rw[e1];obtain⟨h1,h2,h3,h4,h5⟩:=Ng ns now l (a.1,a.2++[r]) h hi (by dsimp only;omega)
    refine⟨h1,h2,h3,by dsimp only at h4;omega, ?_⟩
    rw[h5,List.filter_cons,if_pos (decide_eq_true g1)];simp
   ·rw[List.filter_cons,if_neg (by simpa using g1)]
    by_cases g2:qL ns r.block
    ·have e1:Kv ns now a r=((some (ol a.1.1++[⟨⟨a.1.2⟩,r.block,r.tries,0⟩]),IntKind.u64.wrap (a.1.2+1)),a.2):=(if_neg g1).trans (if_pos g2)
     rw[e1,hw];obtain⟨h1,h2,h3,h4,h5⟩:=Ng ns now l ((some (ol a.1.1++[(⟨⟨a.1.2⟩,r.block,r.tries,0⟩:Request)]),a.1.2+1),a.2) (h.app _ _) (hi.app g2.1) (by dsimp only;omega)
     exact⟨h1,h2,by dsimp only at h3;omega,by dsimp only at h4;omega,h5⟩
    ·have e1:Kv ns now a r=a:=(if_neg g1).trans (if_neg g2)
     rw[e1];obtain⟨h1,h2,h3,h4,h5⟩:=Ng ns now l a h hi (by omega)
     exact⟨h1,h2,h3,by omega,h5⟩
theorem Uj (ns:List Node):∀(l:List cC) (a:Option (List Request) × Int),TQ (ol a.1) a.2→SX ns (ol a.1)→a.2+l.length≤1000000 →
 TQ (ol (Fm ns a l).1) (Fm ns a l).2∧SX ns (ol (Fm ns a l).1)∧a.2≤(Fm ns a l).2∧(Fm ns a l).2≤a.2+l.length
 | [],a,h,hi,hb=>⟨h,hi,by show a.2≤a.2;omega,by show a.2≤a.2+((0:Nat):Int);omega⟩
 | r :: l,a,h,hi,hb=>by
   have hp:=h.pos
   rw[List.length_cons] at hb;have hw:=aFi hp (by omega)
   have e0:Fm ns a (r :: l)=Fm ns (DG ns a r) l:=rfl
   rw[e0,List.length_cons];by_cases g2:qL ns r
   ·have e1:DG ns a r=(some (ol a.1++[⟨⟨a.2⟩,r,0,0⟩]),IntKind.u64.wrap (a.2+1)):=if_pos g2
    rw[e1,hw];obtain⟨h1,h2,h3,h4⟩:=Uj ns l (some (ol a.1++[(⟨⟨a.2⟩,r,0,0⟩:Request)]),a.2+1) (h.app _ _) (hi.app g2.1) (by dsimp only;omega)
    exact⟨h1,h2,by dsimp only at h3;omega,by dsimp only at h4;omega⟩
   ·have e1:DG ns a r=a:=if_neg g2
    rw[e1];obtain⟨h1,h2,h3,h4⟩:=Uj ns l a h hi (by omega)
    exact⟨h1,h2,h3,by omega⟩
theorem XL (ns:List Node) (now:Int):∀(l:List Request) (a:(Option (List Request) × Int) × List Request),a.1.1≠some []→(yQ ns now a l).1.1≠some []
 | [],a,h=>h
 | r :: l,a,h=>by
   have e0:yQ ns now a (r :: l)=yQ ns now (Kv ns now a r) l:=rfl
   rw[e0];refine XL ns now l _ ?_
   unfold Kv;split
   ·exact h
   split
   ·simp
   ·exact h
theorem SY (ns:List Node):∀(l:List cC) (a:Option (List Request) × Int),a.1≠some []→(Fm ns a l).1≠some []
 | [],a,h=>h
 | r :: l,a,h=>by
   have e0:Fm ns a (r :: l)=Fm ns (DG ns a r) l:=rfl
   rw[e0];refine SY ns l _ ?_
   unfold DG;split
   ·simp
   ·exact h
noncomputable def FX:List Request→Request→List Request→List Request
 | [],x,B=>x :: B
 | y :: A,x,B=>if vV x y then FX A x (y :: B) else (y :: A).reverse++x :: B
theorem DK:∀(A:List Request) (x:Request) (B:List Request),Bi A.length (A.reverse++x :: B)=FX A x B
 | [],x,B=>rfl
 | y :: A,x,B=>by
   have e1:gx bJ ((y :: A).reverse++x :: B) ((A.length+1:Nat):Int)=x:=by
    unfold gx;rw[Int.toNat_natCast,List.reverse_cons,List.append_assoc,List.getD_eq_getElem?_getD,List.getElem?_append_right (by simp),List.length_reverse]
    simp
   have e2:gx bJ ((y :: A).reverse++x :: B) (A.length:Int)=y:=by
    unfold gx;rw[Int.toNat_natCast,List.reverse_cons,List.append_assoc,List.getD_eq_getElem?_getD,List.getElem?_append_right (by simp),List.length_reverse]
    simp
   have e3:(((y :: A).reverse++x :: B).set (A.length+1) y).set A.length x=A.reverse++x :: y :: B:=by
    rw[List.reverse_cons,List.append_assoc,List.set_append_right _ _ (by simp),List.length_reverse,List.set_append_right _ _ (by simp),List.length_reverse]
    simp
   rw[List.length_cons];have e0:∀l,Bi (A.length+1) l=if vV (gx bJ l ((A.length+1:Nat):Int)) (gx bJ l (A.length:Int)) then Bi A.length ((l.set (A.length+1) (gx bJ l (A.length:Int))).set A.length (gx bJ l ((A.length+1:Nat):Int))) else l:=fun l=>rfl
   rw[e0,e1,e2,e3];unfold FX;split
   ·exact DK A x (y :: B)
   ·rfl
theorem Wu {r:Request}:∀(A:List Request) (x:Request) (B:List Request),r∈FX A x B↔r∈A∨r=x∨r∈B
 | [],x,B=>by simp[FX]
 | y :: A,x,B=>by
   unfold FX;split
   ·rw[Wu A x (y :: B)];simp only[List.mem_cons];constructor
    ·rintro (h|h|h|h)
     ·exact .inl (.inr h)
     ·exact .inr (.inl h)
     ·exact .inl (.inl h)
     ·exact .inr (.inr h)
    ·rintro ((h|h)|h|h)
     ·exact .inr (.inr (.inl h))
     ·exact .inl h
     ·exact .inr (.inl h)
     ·exact .inr (.inr (.inr h))
   ·simp[or_assoc,or_left_comm]
theorem Sd {a b:Request} (h:vV a b):¬vV b a:=by unfold vV at *;omega
theorem M1 {a b c:Request} (h1:¬vV b a) (h2:¬vV c b):¬vV c a:=by unfold vV at *;omega
theorem MA:∀(A:List Request) (x:Request) (B:List Request),(A.reverse++B).Pairwise (fun a b=>¬vV b a)→(∀b∈B,vV x b)→(FX A x B).Pairwise fun a b=>¬vV b a
 | [],x,B,h,hb=>List.pairwise_cons.2 ⟨fun b m=>Sd (hb b m),h⟩
 | y :: A,x,B,h,hb=>by
   unfold FX;have h0:=h
   rw[List.reverse_cons,List.append_assoc] at h;split
   ·rename_i g;exact MA A x (y :: B) h fun b m=>(List.mem_cons.1 m).elim (fun e=>by rw[e];exact g) (hb b)
   ·rename_i g;obtain⟨p1,p2,p3⟩:=List.pairwise_append.1 h0
    refine List.pairwise_append.2 ⟨p1,List.pairwise_cons.2 ⟨fun b m=>Sd (hb b m),p2⟩,fun a ha b m=>?_⟩
    rcases List.mem_cons.1 m with rfl|m
    ·rw[List.reverse_cons,List.mem_append,List.mem_singleton] at ha;rcases ha with ha|rfl
     ·have:=(List.pairwise_append.1 h).2.2 a ha y (by simp)
      exact M1 this g
     ·exact g
    ·exact p3 a ha b m
theorem M3 (R:List Request) (x:Request):Bi R.length (R++[x])=FX R.reverse x []:=by
 have:=DK R.reverse x []
 rwa [List.reverse_reverse,List.length_reverse] at this
theorem TR.bub {R:List Request} {tag:Int} (h:TR R tag) {x:Request} (hx:x.tagged.tag<tag):TR (Bi R.length (R++[x])) tag:=by
 rw[M3];refine⟨fun r hr=>?_,MA _ _ _ (by rw[List.reverse_reverse,List.append_nil];exact h.asc) (by simp)⟩
 rcases (Wu _ _ _).1 hr with hr|rfl|hr
 ·exact h.all r (List.mem_reverse.1 hr)
 ·exact hx
 ·cases hr
theorem SX.bub {ns:List Node} {R:List Request} (h:SX ns R) {x:Request} (hx:0≤aM ns x.block):SX ns (Bi R.length (R++[x])):=by
 rw[M3];intro r hr;rcases (Wu _ _ _).1 hr with hr|rfl|hr
 ·exact h r (List.mem_reverse.1 hr)
 ·exact hx
 ·cases hr
structure TI0 (t:State) (v:SV) (Q R:Option (List Request)) (q m:Int):Prop where
 td:TD t v Q R
 gi:GI t.store v q
 rg:RG t.store v
 cfg:∃b,Nd t.store.cFg b
 tq:TQ (ol Q) t.bE
 tr:TR (ol R) t.bE
 nt:t.bE≤1+m
 lq:((ol Q).length:Int)≤m
 lr:((ol R).length:Int)≤t.store.cFg.lT.nK
 mB:m≤100000
 qn:Q≠some []
 rn:R≠some []
structure TI (t:State) (v:SV) (Q R:Option (List Request)) (q m:Int):Prop extends TI0 t v Q R q m where
 o8:SX v.ns (ol Q)
 F5:SX v.ns (ol R)
theorem TI0.mono {t:State} {v:SV} {Q R:Option (List Request)} {q m q' m':Int} (h:TI0 t v Q R q m) (h1:q≤q') (h2:q'≤900000) (h3:m≤m') (h4:m'≤100000):TI0 t v Q R q' m' :=
 ⟨h.td,h.gi.mono h1 h2,h.rg,h.cfg,h.tq,h.tr,by have:=h.nt;omega,by have:=h.lq;omega,h.lr,h4,h.qn,h.rn⟩
theorem TI.mono {t:State} {v:SV} {Q R:Option (List Request)} {q m q' m':Int} (h:TI t v Q R q m) (h1:q≤q') (h2:q'≤900000) (h3:m≤m') (h4:m'≤100000):TI t v Q R q' m':=⟨h.toTI0.mono h1 h2 h3 h4,h.o8,h.F5⟩
theorem TI0.store {t:State} {v:SV} {Q R:Option (List Request)} {q m:Int} (h:TI0 t v Q R q m) {s':aN} {v':SV} {q':Int} (g:GI s' v' q') (r:RG s' v') (c:s'.cFg=t.store.cFg):TI0 { t with store:=s' } v' Q R q' m :=
 ⟨⟨g.sd,h.td.Ak,h.td.ret,h.td.nQ,h.td.nR⟩,g,r,by show ∃b,Nd s'.cFg b;rw[c];exact h.cfg,h.tq,h.tr,h.nt,h.lq,by show _≤s'.cFg.lT.nK;rw[c];exact h.lr,h.mB,h.qn,h.rn⟩
theorem TI.emit {t:State} {v:SV} {Q R:Option (List Request)} {q m:Int} (h:TI t v Q R q m) (b:Bool) (c:Command):TI { t with yL:=b,last:=c } v Q R q m :=
 ⟨⟨⟨h.td.sd,h.td.Ak,h.td.ret,h.td.nQ,h.td.nR⟩,h.gi,h.rg,h.cfg,h.tq,h.tr,h.nt,h.lq,h.lr,h.mB,h.qn,h.rn⟩,h.o8,h.F5⟩
theorem TI.halt {t:State} {v:SV} {Q R:Option (List Request)} {q m:Int} (h:TI t v Q R q m) (b:Bool):TI { t with halted:=b } v Q R q m :=
 ⟨⟨⟨h.td.sd,h.td.Ak,h.td.ret,h.td.nQ,h.td.nR⟩,h.gi,h.rg,h.cfg,h.tq,h.tr,h.nt,h.lq,h.lr,h.mB,h.qn,h.rn⟩,h.o8,h.F5⟩
theorem TI.over {t:State} {v:SV} {Q R:Option (List Request)} {q m:Int} (h:TI t v Q R q m) (b:Bool):TI { t with overflow:=b } v Q R q m :=
 ⟨⟨⟨h.td.sd,h.td.Ak,h.td.ret,h.td.nQ,h.td.nR⟩,h.gi,h.rg,h.cfg,h.tq,h.tr,h.nt,h.lq,h.lr,h.mB,h.qn,h.rn⟩,h.o8,h.F5⟩
theorem TI0.aBr {t:State} {v:SV} {Q R:Option (List Request)} {q m:Int} (h:TI0 t v Q R q m):t.store.cFg.lT.nK≤256:=by obtain⟨b,hb⟩:=h.cfg;exact hb.nK.2
theorem TI0.jH {t:State} {v:SV} {Q R:Option (List Request)} {q m:Int} (h:TI0 t v Q R q m):0<(ol v.B).length∧(ol v.B).length≤64:=by
 obtain⟨b,hb⟩:=h.cfg
 have e:=h.gi.sd.jH.symm.trans hb.jH
 have n:=hb.nb
 cases hB:v.B with
 | none=>rw[hB] at e;cases e
 | some l =>
   rw[hB] at e;have e:AV.sl l.length (bD l)=AV.sl b.length (bD b):=e
   injection e with e1 e2
   show 0<l.length∧l.length≤64
   omega
theorem TI0.drop {t:State} {v:SV} {Q R:Option (List Request)} {q m:Int} (h:TI0 t v Q R q m):TI (SQ t v Q R) v (nz (oV v.ns (ol Q))) (nz (oV v.ns (ol R))) q m:=by
 have s1:(oV v.ns (ol Q)).Sublist (ol Q):=List.filter_sublist
 have s2:(oV v.ns (ol R)).Sublist (ol R):=List.filter_sublist
 have l1:=s1.length_le
 have l2:=s2.length_le
 have a1:=h.lq
 have a2:=h.lr
 refine⟨⟨h.td.drp,h.gi,h.rg,h.cfg, ?_, ?_,h.nt, ?_, ?_,h.mB,Wd _,Wd _⟩, ?_, ?_⟩
 ·rw[oE];exact h.tq.sub s1
 ·rw[oE];exact h.tr.sub s2
 ·rw[oE];omega
 ·rw[oE];show _≤t.store.cFg.lT.nK;omega
 ·rw[oE];intro r hr;exact of_decide_eq_true (List.mem_filter.1 hr).2
 ·rw[oE];intro r hr;exact of_decide_eq_true (List.mem_filter.1 hr).2
theorem TI.due {t:State} {v:SV} {Q R:Option (List Request)} {q m:Int} (h:TI t v Q R q m) (hm:m+256≤100000):TI (aBp t v.ns Q R) v (FV t v.ns Q R).1.1 (nz (FV t v.ns Q R).2) q (m+256):=by
 have a1:=h.lq
 have a2:=h.lr
 have a3:=h.aBr
 have a4:=h.nt
 obtain⟨h1,h2,h3,h4,h5⟩:=Ng v.ns t.store.now (ol R) ((Q,t.bE),[]) h.tq h.o8 (by dsimp only;omega)
 have hl:=LU v.ns t.store.now (ol R) ((Q,t.bE),[])
 rw[List.nil_append] at h5;have e1:yQ v.ns t.store.now ((Q,t.bE),[]) (ol R)=FV t v.ns Q R:=rfl
 rw[e1] at h1 h2 h3 h4 h5 hl;dsimp only at h3 h4 hl
 have s2:(FV t v.ns Q R).2.Sublist (ol R):=by rw[h5];exact List.filter_sublist
 have l2:=s2.length_le
 have Pl:=hl.1
 have:=h.mB
 refine⟨⟨⟨h.td.sd,rfl,rfl,by omega,by rw[oE];omega⟩,h.gi,h.rg,h.cfg,h1, ?_, ?_,by omega, ?_,hm,XL v.ns t.store.now (ol R) ((Q,t.bE),[]) h.qn,Wd _⟩,h2, ?_⟩
 ·rw[oE];exact (h.tr.sub s2).mono h3
 ·show (FV t v.ns Q R).1.2≤_;omega
 ·rw[oE];show _≤t.store.cFg.lT.nK;omega
 ·rw[oE];exact h.F5.sub s2
theorem TI.open {t:State} {v:SV} {Q R:Option (List Request)} {q m:Int} (h:TI t v Q R q m) (L:List cC) (hL:(L.length:Int)≤100) (hm:m+256≤100000):TI (FK t (Fm v.ns (Q,t.bE) L)) v (Fm v.ns (Q,t.bE) L).1 R q (m+256):=by
 have a1:=h.lq
 have a4:=h.nt
 obtain⟨h1,h2,h3,h4⟩:=Uj v.ns L (Q,t.bE) h.tq h.o8 (by dsimp only;omega)
 have hl:=FL v.ns (Q,t.bE) L
 dsimp only at h3 h4 hl
 refine⟨⟨h.td.FK _ (by omega),h.gi,h.rg,h.cfg,h1,h.tr.mono h3, ?_,by omega,h.lr,hm,SY v.ns L (Q,t.bE) h.qn,h.rn⟩,h2,h.F5⟩
 show (Fm v.ns (Q,t.bE) L).2≤_;omega
theorem TI.M4 {t:State} {v:SV} {Q R:Option (List Request)} {q m:Int} (h:TI t v Q R q m) {r:Request} (hr:r.tagged.tag<t.bE):∃R',TI (o7 t v.ns (ol R) r) v Q R' q m:=by
 unfold o7;split
 ·exact⟨R,h⟩
 split
 ·exact⟨R,h.over true⟩
 ·rename_i g1 g2;have g1:=Classical.not_not.1 g1
  have hl:(Bi (ol R).length (ol R++[LY t r])).length=(ol R).length+1:=by rw[LX,List.length_append,List.length_cons,List.length_nil]
  have a3:=h.aBr
  refine⟨some (Bi (ol R).length (ol R++[LY t r])),⟨⟨h.td.sd,h.td.Ak,rfl,h.td.nQ, ?_⟩,h.gi,h.rg,h.cfg,h.tq,h.tr.bub (x:=LY t r) hr,h.nt,h.lq, ?_,h.mB,h.qn,fun e=>by injection e with e;rw[e] at hl;simp at hl⟩,h.o8,h.F5.bub (x:=LY t r) g1.1⟩
  ·show ((Bi (ol R).length (ol R++[LY t r])).length:Int)<_;omega
  ·show ((Bi (ol R).length (ol R++[LY t r])).length:Int)≤t.store.cFg.lT.nK;omega
theorem TI.less {t:State} {v:SV} {Q R:Option (List Request)} {q m:Int} (h:TI t v Q R q m) (k:Nat):TI { t with cW:=ov aA (nz ((ol Q).take k++(ol Q).drop (k+1)))} v (nz ((ol Q).take k++(ol Q).drop (k+1))) R q m:=by
 have s:((ol Q).take k++(ol Q).drop (k+1)).Sublist (ol Q):=by rw[← List.eraseIdx_eq_take_drop_succ];exact List.eraseIdx_sublist ..
 have l1:=s.length_le
 have a1:=h.lq
 have:=h.td.nQ
 exact⟨⟨⟨h.td.sd,rfl,h.td.ret,by rw[oE];omega,h.td.nR⟩,h.gi,h.rg,h.cfg,by rw[oE];exact h.tq.sub s,h.tr,h.nt,by rw[oE];omega,h.lr,h.mB,Wd _,h.rn⟩,by rw[oE];exact h.o8.sub s,h.F5⟩
theorem TI.tree {t:State} {v:SV} {Q R:Option (List Request)} {q m:Int} (h:TI t v Q R q m) {r:List Node} (hs:SB v.ns r) (b:cC):TI { t with store:={ t.store with tree:=⟨.sl r.length (bZ r)⟩,hU:=b }} { v with ns:=r } Q R q m:=by
 have g:=(h.gi.tree hs).hU b
 have e:=(h.rg.tree hs ⟨.sl r.length (bZ r)⟩).hU b
 exact⟨h.toTI0.store g e rfl,fun x hx=>by show 0≤aM r x.block;rw[hs.aM];exact h.o8 x hx,fun x hx=>by show 0≤aM r x.block;rw[hs.aM];exact h.F5 x hx⟩
def xC (Q:List Request) (tag:Int) (k:Nat):Prop:=(gx bJ Q (k:Int)).tagged.tag=tag
theorem x27 {t:State} {v:SV} {Q R:Option (List Request)} (h:TD t v Q R) (w:eR):∃x,aD Tryz.prog 27 [.agg (aF t),.agg (bU w)]=some x ∧
 (((∀j:Nat,j<(ol Q).length→¬xC (ol Q) w.tagged.tag j)∧x=.eB [.agg (bM bJ),.agg (aF jF),.v (.int .i64 23)]) ∨
  ∃k:Nat,k<(ol Q).length∧xC (ol Q) w.tagged.tag k∧(∀j:Nat,j<k→¬xC (ol Q) w.tagged.tag j)∧x=.eB [.agg (bM (gx bJ (ol Q) (k:Int))),.agg (aF { t with cW:=ov aA (nz ((ol Q).take k++(ol Q).drop (k+1)))}),.v (.int .i64 0)]):=by
 have lO:=h.fl
 have nQ:=h.nQ
 have nQ1:((ol Q).length:Int)<1000000:=by omega
 have Rx:Flat (.agg (aF jF)):=by simp only[dU,jF,gE,mO,Gn,Ah,Km,and_self]
 rw[cG Tryz.func27 rfl aPv (by kernel_rfl) rfl]
 simp only[ZG,seval,Bool.false_and,Prod.mk.injEq,FY];refine nJ (fun m st=>∃k:Nat,(st.env 2=.ptr 2 0 0∧st.heap 2 0=some (.cells (aF t))∧st.env 3=.ptr 3 0 0∧st.heap 3 0=some (.cells (bU w))∧st.env 4=.ptr 4 0 0∧st.heap 4 0=some (.cells (bM bJ))∧st.env 5=.ptr 5 0 0∧st.heap 5 0=some (.cells (aF jF))∧st.env 7=.v (.int .i64 k))∧(∀j:Nat,j<k→¬xC (ol Q) w.tagged.tag j)∧k≤(ol Q).length∧m=(ol Q).length-k)
  (fun e st=>(e=.ret∧∃(k:Nat) (X:AV),(st.env 4=.ptr 4 0 0∧st.heap 4 0=some (.cells (bM (gx bJ (ol Q) (k:Int))))∧st.env 5=.ptr 5 0 0∧st.heap 5 0=some (.cells (aF { t with cW:=X }))∧st.env 6=.v (.int .i64 0))∧((X=.v (.slice none 0 0)∧(ol Q).take k++(ol Q).drop (k+1)=[])∨∃g,X=.own 42 g∧(ol Q).take k++(ol Q).drop (k+1)≠[]∧st.heap 42 g=some (.row 63 35 ((ol Q).take k++(ol Q).drop (k+1)).length (aA ((ol Q).take k++(ol Q).drop (k+1)))))∧k<(ol Q).length∧xC (ol Q) w.tagged.tag k∧(∀j:Nat,j<k→¬xC (ol Q) w.tagged.tag j)) ∨
   (e=.exit 0∧(st.env 4=.ptr 4 0 0∧st.heap 4 0=some (.cells (bM bJ))∧st.env 5=.ptr 5 0 0∧st.heap 5 0=some (.cells (aF jF)))∧∀j:Nat,j<(ol Q).length→¬xC (ol Q) w.tagged.tag j)) (ol Q).length ?step ?start ?rest
 case step =>
  rintro m st ⟨k,hI,hj,hk,hm⟩
  by_cases bA:(k:Int)<(ol Q).length
  case neg =>
   apply QN (.exit 0)
   ·simp only[ZG,seval,Bool.false_and,Prod.mk.injEq,FY,hI,h.Ak,bA];rfl
   ·exact .inr ⟨rfl,by simp only[E8,seval,hI],fun j E9=>hj j (by omega)⟩
  have q0:(0:Int)≤k:=by omega
  have q2:(k:Int)≤((ol Q).length:Int):=by omega
  have q3:(0:Int)≤((k+1:Nat):Int):=by omega
  have q4:((k+1:Nat):Int)≤((ol Q).length:Int):=by omega
  have hw:IntKind.i64.wrap ((k:Int)+1)=((k+1:Nat):Int):=by rw[pV _ (by omega) (by omega)];omega
  have n1:((((ol Q).take k).length:Nat):Int)<1000000:=by rw[List.length_take];omega
  have n2:((((ol Q).drop (k+1)).length:Nat):Int)<1000000:=by rw[List.length_drop];omega
  have e1:ol (Q.map (·.take k))=(ol Q).take k:=by cases Q<;>simp[ol]
  have e2:ol (Q.map (·.drop (k+1)))=(ol Q).drop (k+1):=by cases Q<;>simp[ol]
  by_cases hh:xC (ol Q) w.tagged.tag k
  ·have hh':(gx bJ (ol Q) (k:Int)).tagged.tag=w.tagged.tag:=hh
   obtain⟨LL,Zx⟩:∃LL,(ol Q).take k++(ol Q).drop (k+1)=LL:=⟨_,rfl⟩
   by_cases hz:LL=[]
   ·have hT:((ol Q).take k).length=0:=by have:=congrArg List.length Zx;rw[hz,List.length_append] at this;simp only[List.length_nil] at this;omega
    have hD:((ol Q).drop (k+1)).length=0:=by have:=congrArg List.length Zx;rw[hz,List.length_append] at this;simp only[List.length_nil] at this;omega
    apply QN (.ret)
    ·simp only[ZG,seval,Bool.false_and,Prod.mk.injEq,FY,hI,h.Ak,bA,q0,q2,q3,q4,hw,bt hh',Int.toNat_natCast,iB,iC,Bj,Option.isSome_some,Option.map_some,Option.some.injEq,hT,hD,e1,e2];rfl
    ·exact .inl ⟨rfl,k,.v (.slice none 0 0),by simp only[E8,seval,hI]<;>rfl,.inl ⟨rfl,Zx.trans hz⟩,by omega,hh,hj⟩
   have AG:(LL.length=0)=False:=eq_false fun h=>hz (List.length_eq_zero_iff.1 h)
   have n3:((LL.length:Nat):Int)<1000000:=by rw[← Zx,List.length_append,List.length_take,List.length_drop];omega
   by_cases vM:k=0
   ·have hT:((ol Q).take k).length=0:=by rw[vM];rfl
    have hD:(ol Q).drop (k+1)=LL:=by rw[← Zx,vM];rfl
    apply QN (.ret)
    ·simp only[ZG,seval,Bool.false_and,Prod.mk.injEq,FY,hI,h.Ak,bA,q0,q2,q3,q4,hw,bt hh',Int.toNat_natCast,iB,iC,Bj,Option.isSome_some,Option.map_some,Option.some.injEq,hT,hD,AG,qM _ n3,e1,e2];rfl
    ·exact .inl ⟨rfl,k,_,by simp only[E8,seval,hI]<;>rfl,.inr ⟨_,rfl,by rw[Zx];exact hz,by rw[Zx];simp only[E8,seval]<;>rfl⟩,by omega,hh,hj⟩
   ·have hT:(((ol Q).take k).length=0)=False:=eq_false (by rw[List.length_take];omega)
    apply QN (.ret)
    ·simp only[ZG,seval,Bool.false_and,Prod.mk.injEq,FY,hI,h.Ak,bA,q0,q2,q3,q4,hw,bt hh',Int.toNat_natCast,iB,iC,Bj,Option.isSome_some,Option.map_some,Option.some.injEq,hT,qM _ n1,Se _ _ _ _ n1 n2,e1,e2];rfl
    ·exact .inl ⟨rfl,k,_,by simp only[E8,seval,hI]<;>rfl,.inr ⟨_,rfl,by rw[Zx];exact hz,by simp only[E8,seval]<;>rfl⟩,by omega,hh,hj⟩
  ·have hh':¬(gx bJ (ol Q) (k:Int)).tagged.tag=w.tagged.tag:=hh
   apply Fl ((ol Q).length-(k+1))
   ·simp only[ZG,seval,Bool.false_and,Prod.mk.injEq,FY,hI,h.Ak,bA,q0,hw,bf hh'];rfl
   ·exact⟨k+1,by simp only[E8,seval,hI],fun j E9=>(Nat.lt_succ_iff_lt_or_eq.1 E9).elim (hj j) fun e=>by subst e;exact hh,by omega,rfl⟩
 case start=>exact⟨0,by simp only[E8,seval]<;>rfl,fun j hj=>by omega,by omega,by omega⟩
 case rest =>
  rintro e st (⟨rfl,k,X,hI,hX,hk,hh,hj⟩|⟨rfl,hI,hj⟩)
  ·rcases hX with ⟨rfl,hz⟩|⟨g,rfl,hz,hg⟩
   ·have hfz:Flat (.agg (aF { t with cW:=.v (.slice none 0 0)})):=(qD _).2 ⟨lO.1,lO.2.1,lO.2.2.1,lO.2.2.2.1,lO.2.2.2.2.1,lO.2.2.2.2.2.1,lO.2.2.2.2.2.2.1,.v _,lO.2.2.2.2.2.2.2.2⟩
    simp only[ZG,seval,Bool.false_and,Prod.mk.injEq,FY,hI];exact⟨_,gD rfl (by simp only[bS,Z8,seval,hI]<;>rfl) (by simp only[bS,Z8,seval,hI]<;>rfl) (by simp only[bS,E8,seval,hI]<;>rfl) (dL (.agg _ (fU _))) (dL hfz) (by simp only[Z8,seval]<;>rfl),.inr ⟨k,hk,hh,hj,by rw[hz,show nz ([]:List Request)=none from if_pos rfl];rfl⟩⟩
   ·simp only[ZG,seval,Bool.false_and,Prod.mk.injEq,FY,hI,hg];exact⟨_,gD rfl (by simp only[bS,Z8,seval,hI]<;>rfl) (by simp only[bS,Z8,seval,hI]<;>rfl) (by simp only[bS,E8,seval,hI]<;>rfl) (dL (.agg _ (fU _))) (by simp only[Z8,seval,hI,hg,bO,uW,gB,bC,oU,cE,dU,lO]<;>rfl) (by simp only[Z8,seval]<;>rfl),.inr ⟨k,hk,hh,hj,by rw[show nz ((ol Q).take k++(ol Q).drop (k+1))=some _ from if_neg hz];rfl⟩⟩
  ·simp only[ZG,seval,Bool.false_and,Prod.mk.injEq,FY,hI];exact⟨_,by apply gD;rfl;all_goals simp only[aI,bS,Z8,seval,hI,Rx]<;>rfl,.inl ⟨hj,rfl⟩⟩
theorem aPw (ns:List Node) (hu:gU ns) (hr:(nd ns 0).up=-1) (hn:(ns.length:Int)<1000000) (i:Int) (w:eR) (l:List Int) (hl:(l.length:Int)<1000000) (st:St) (a g:Nat) (d:Option Nat) (hh:st.heap a g=some (.row 3 1 l.length (aJ l))) :
 eE (aD Tryz.prog) 222 [.agg (cP ⟨ns⟩),.v (.int .i64 i),.agg (bU w),.own a g] st d=some { dst:=d,val:=RP ns i w l,dJ:=some (a,g,none)}:=by
 rw[Dz (s:=a) (k:=g) (by rw[List.flatMap_cons,List.flatMap_cons,List.flatMap_cons,sS (nG _),sS (.v _),sS (.agg _ (fV w))];rfl) (by intro y hy;simp only[List.mem_cons,List.not_mem_nil,or_false] at hy;rcases hy with rfl|rfl|rfl|rfl;exact .inl (nG _);exact .inl (.v _);exact .inl (.agg _ (fV w));exact .inr (.inl ⟨a,g,rfl⟩)),
  List.map_cons,List.map_cons,List.map_cons,List.map_cons,List.map_nil,dL (nG _),dL (.v _),dL (.agg _ (fV w)),Ij hh,bK,bK,bK,bK,gC]
 exact Wf (aND ns hu hr hn i w l hl (.inl rfl)) (ZP ns i w l)
theorem aPx {t:State} {v:SV} {Q R:Option (List Request)} {q m:Int} (h:TI t v Q R q m) (w:eR) :
 ∃x,aD Tryz.prog 206 [.agg (aF t),.agg (bU w)]=some x∧∃(t':State) (e:Int) (v':SV) (Q' R':Option (List Request)),x=.eB [.agg (aF t'),.v (.int .i64 e)]∧TI t' v' Q' R' q m:=by
 have hf:=h.td.flat
 have lO:=h.td.fl
 have fw:Flat (.agg (bU w)):=.agg _ (fV w)
 have Rx:Flat (.agg (aF jF)):=by simp only[dU,jF,gE,mO,Gn,Ah,Km,and_self]
 obtain⟨y,hy,⟨hj,rfl⟩|⟨k,hk,hh,hj,rfl⟩⟩:=x27 h.td w
 ·have k27:=kx hy (bI hf fw) (.eB _ (mC (.agg _ (fU _)) Rx (.v _)))
  rw[cL Tryz.func206 rfl aD3 rfl];simp only[Z8,seval,k27,dT];exact⟨_,by apply dM;rfl;all_goals simp only[aI,bS,Z8,seval,hf]<;>rfl,t,23,v,Q,R,rfl,h⟩
 obtain⟨r,er⟩:∃r,gx bJ (ol Q) (k:Int)=r:=⟨_,rfl⟩
 obtain⟨t1,et⟩:∃t1,({ t with cW:=ov aA (nz ((ol Q).take k++(ol Q).drop (k+1)))}:State)=t1:=⟨_,rfl⟩
 have hr:r.tagged.tag<t.bE:=by rw[← er];exact (h.tq.all _ (yI (by omega) (by omega))).2.1
 have h1:=h.less k
 rw[et] at h1;rw[er,et] at hy;have nt1:t1.bE=t.bE:=by rw[← et]
 have hf1:=h1.td.flat
 have MB:=h1.td.fl
 have k27:=kx hy (bI hf fw) (.eB _ (mC (.agg _ (fU _)) hf1 (.v _)))
 have hn:=h1.gi.sd.nn
 rw[cL Tryz.func206 rfl aD3 rfl];by_cases g3:w.kind=3
 ·obtain⟨R',hR'⟩:=h1.M4 (r:=r) (by rw[nt1];exact hr)
  have ff:=hR'.td.flat
  have k72:=kx (c72 h1.td r) (bI hf1 (.agg _ (fU _))) ff
  simp only[Z8,seval,k27,dT,bt g3,k72];exact⟨_,by apply dM;rfl;all_goals simp only[aI,bS,Z8,seval,ff]<;>rfl,_,0,v,_,R',rfl,hR'⟩
 by_cases g4:w.kind=4
 ·obtain⟨R',hR'⟩:=h1.M4 (r:=r) (by rw[nt1];exact hr)
  have ff:=hR'.td.flat
  have k72:=kx (c72 h1.td r) (bI hf1 (.agg _ (fU _))) ff
  simp only[Z8,seval,k27,dT,bf g3,bt g4,k72];exact⟨_,by apply dM;rfl;all_goals simp only[aI,bS,Z8,seval,ff]<;>rfl,_,0,v,_,R',rfl,hR'⟩
 have DL:∀(st:St) (a g:Nat) (d:Option Nat),st.heap a g=some (.row 3 1 2 (aJ [aM v.ns t1.store.bH.gP.root,aM v.ns t1.store.bH.fin.root]))→_:=fun st a g d hh=>aPw v.ns h1.gi.up h1.gi.KC hn (aM v.ns r.block) w [aM v.ns t1.store.bH.gP.root,aM v.ns t1.store.bH.fin.root] (by show ((2:Nat):Int)<_;omega) st a g d hh
 rcases aFh v.ns (aM v.ns r.block) w [aM v.ns t1.store.bH.gP.root,aM v.ns t1.store.bH.fin.root] with ⟨e,he,ej⟩|⟨Wa,hs,ej⟩
 ·rw[ej] at DL
  have hH:=h.halt true
  have fH:=hH.td.flat
  simp only[Z8,seval,k27,dT,bf g3,bf g4,Ds,h1.gi.sd.tree,mA _ _ hn,DL,bf he];exact⟨_,by apply dM;rfl;all_goals simp only[aI,bS,Z8,seval,fH]<;>rfl,_,21,v,Q,R,rfl,hH⟩
 rw[ej] at DL
 have Hz:(Wa.length:Int)<1000000:=by rw[hs.len];exact hn
 have fr:=fB Wa t1.store.hU
 by_cases b0:0≤aM Wa t1.store.hU
 case neg =>
  have T:=h1.tree hs t1.store.hU
  have ft:=T.td.flat
  simp only[Z8,seval,k27,dT,bf g3,bf g4,Ds,h1.gi.sd.tree,mA _ _ hn,mA _ _ Hz,DL,b0];exact⟨_,by apply dM;rfl;all_goals simp only[aI,bS,Z8,seval,ft]<;>rfl,_,0,_,_,R,rfl,T⟩
 by_cases b1:(nd Wa (aM Wa t1.store.hU)).status=2
 case neg =>
  have T:=h1.tree hs t1.store.hU
  have ft:=T.td.flat
  simp only[Z8,seval,k27,dT,bf g3,bf g4,Ds,h1.gi.sd.tree,mA _ _ hn,mA _ _ Hz,DL,b0,fr.2,bf b1];exact⟨_,by apply dM;rfl;all_goals simp only[aI,bS,Z8,seval,ft]<;>rfl,_,0,_,_,R,rfl,T⟩
 have T:=h1.tree hs dI
 have ft:=T.td.flat
 simp only[Z8,seval,k27,dT,bf g3,bf g4,Ds,h1.gi.sd.tree,mA _ _ hn,mA _ _ Hz,DL,b0,fr.2,bt b1];exact⟨_,by apply dM;rfl;all_goals simp only[aI,bS,Z8,seval,ft]<;>rfl,_,0,_,_,R,rfl,T⟩
def aPz (s:aN) (v:SV) (q:Int) (r:AV):Prop:=∃(s':aN) (R:Option (List cC)) (e:Int),r=.eB [.agg (aB s'),ov eH R,.v (.int .i64 e)]∧Flat (.agg (aB s'))∧((ol R).length:Int)≤70∧e≠21∧(e=0→∃v',GI s' v' q∧RG s' v'∧s'.cFg=s.cFg)
theorem aPA {s:aN} {v:SV} {q:Int} (h:GI s v q) (r:RG s v) (b:Block) (rb:RB b∧Pr b.root):∃r,aD Tryz.prog 203 [.agg (aB s),.agg (aT b)]=some r∧aPz s v q r:=by
 have hf:=h.sd.flat
 have lO:=h.sd.fl
 have hz:=Ih
 have SZ:=k52 h.sd h.up h.sp
 have nO:=h.nO
 have KZ:=h.KZ
 have nn':=h.sd.nO
 rw[cL Tryz.func203 rfl aKO rfl];by_cases g1:Jl s v b=10
 ·by_cases g2:s.cFg.lT.vQ≤((ol v.O).length:Int)
  ·simp only[Z8,seval,SZ,bt g1,h.sd.bY,g2];exact⟨_,by apply gD;rfl;all_goals simp only[aI,bS,Z8,seval,hz]<;>rfl,gE,none,11,rfl,hz,by simp[ol],by decide,fun h=>by cases h⟩
  ·have hw:=h.SA (some (ol v.O++[{ b with Bd:=false }])) (by show (((ol v.O++[{ b with Bd:=false }]).length:Nat):Int)≤s.cFg.lT.vQ;rw[List.length_append,List.length_cons,List.length_nil];omega)
   have hwr:=r.SA (some (ol v.O++[{ b with Bd:=false }])) (ov aH (some (ol v.O++[{ b with Bd:=false }]))) (fun c hc=>(List.mem_append.1 hc).elim (r.or c) fun e=>by rw[List.mem_singleton] at e;subst e;exact⟨⟨rb.1.sl,rb.1.j,rb.1.f,rb.1.pj,rb.1.pf⟩,rb.2⟩) (by simp)
   simp only[Z8,seval,SZ,bt g1,h.sd.bY,g2,iL _ nn',DM _ _ _ _ nn'];exact⟨_,by apply gD;rfl;all_goals simp only[aI,bS,Z8,seval,bO,gB,bC,tK,cE,dU,lO]<;>rfl,_,none,0,rfl,hw.sd.flat,by simp[ol],by decide,fun _=>⟨_,hw,hwr,rfl⟩⟩
 by_cases g2:Jl s v b=0
 case neg =>
  simp only[Z8,seval,SZ,bf g1,bf g2];exact⟨_,by apply gD;rfl;all_goals simp only[aI,bS,Z8,seval,hz]<;>rfl,gE,none,_,rfl,hz,by simp[ol],aES _ _ _,fun h=>absurd h g2⟩
 have XM:=aKB h g2
 have aBt:=h.ins g2
 have aBu:=r.ins rb g2
 have hcf:=Ai s v b
 have hO1:=SE s v b
 cases g3:b.Bd
 · -- not timely
  have hG:GI (sH s v b) (kP s v b) q:=aBt
  have nM:RG (sH s v b) (kP s v b):=aBu
  have hC:((sH s v b)).cFg=s.cFg:=hcf.1
  have pA:=KV hG.sd
  simp only[Z8,seval,SZ,bf g1,bt g2,XM,g3,pA];refine Nh (a:=Al) (o0 s v q) (FO (by omega) (m:=(ol (kP s v b).O).length) ⟨(sH s v b),kP s v b,_,[b.root],66,0, ?start,.inl ⟨rfl,rfl⟩,.inl rfl,hG,nM,hC,by simp;omega,rfl⟩) ?rest
  case start =>
   rw[sJ hG.sd];simp only[E8,seval,eH,List.flatMap_cons,List.flatMap_nil,List.append_nil]<;>rfl
  case rest =>
   rintro e st ⟨rfl,S0,w,X,R,a,g,hI,ha,hX,hG,nM,hC,hR⟩
   have M5:(a=4)=False:=eq_false ha
   have aFj:=hG.sd.fl
   have hfo:=hG.sd.bY
   rcases hX with rfl|⟨g',L,hL,rfl,YV⟩
   ·rw[sJ hG.sd] at hI;have AI:=hG.sd.flat
    simp only[Z8,seval,hI];exact⟨_,by apply gD;rfl;all_goals simp only[aI,bS,Z8,seval,hI,M5,AI,vG]<;>rfl,S0,some R,0,rfl,AI,by simp only[ol,Option.getD_some];omega,by decide,fun _=>⟨w,hG,nM,hC⟩⟩
   ·have hex:=fun st' hh=>yK (O:=L) (a:=91) (g:=g') hG.sd st' hh
    have MB:mE S0 (ov aH (some L))=S0:=by rw[← hL];exact sJ hG.sd
    rw[MB] at hex;simp only[Z8,seval,hI];exact⟨_,by apply gD;rfl;all_goals simp only[aI,bS,Z8,seval,hI,M5,YV,hex,vG]<;>rfl,S0,some R,0,rfl,hG.sd.flat,by simp only[ol,Option.getD_some];omega,by decide,fun _=>⟨w,hG,nM,hC⟩⟩
 by_cases g4:b.slot=s.now
 case neg =>
  have hG:GI (sH s v b) (kP s v b) q:=aBt
  have nM:RG (sH s v b) (kP s v b):=aBu
  have hC:((sH s v b)).cFg=s.cFg:=hcf.1
  have pA:=KV hG.sd
  simp only[Z8,seval,SZ,bf g1,bt g2,XM,g3,bf g4,pA];refine Nh (a:=Al) (o0 s v q) (FO (by omega) (m:=(ol (kP s v b).O).length) ⟨(sH s v b),kP s v b,_,[b.root],66,0, ?start,.inl ⟨rfl,rfl⟩,.inl rfl,hG,nM,hC,by simp;omega,rfl⟩) ?rest
  case start =>
   rw[sJ hG.sd];simp only[E8,seval,eH,List.flatMap_cons,List.flatMap_nil,List.append_nil]<;>rfl
  case rest =>
   rintro e st ⟨rfl,S0,w,X,R,a,g,hI,ha,hX,hG,nM,hC,hR⟩
   have M5:(a=4)=False:=eq_false ha
   have aFj:=hG.sd.fl
   have hfo:=hG.sd.bY
   rcases hX with rfl|⟨g',L,hL,rfl,YV⟩
   ·rw[sJ hG.sd] at hI;have AI:=hG.sd.flat
    simp only[Z8,seval,hI];exact⟨_,by apply gD;rfl;all_goals simp only[aI,bS,Z8,seval,hI,M5,AI,vG]<;>rfl,S0,some R,0,rfl,AI,by simp only[ol,Option.getD_some];omega,by decide,fun _=>⟨w,hG,nM,hC⟩⟩
   ·have hex:=fun st' hh=>yK (O:=L) (a:=91) (g:=g') hG.sd st' hh
    have MB:mE S0 (ov aH (some L))=S0:=by rw[← hL];exact sJ hG.sd
    rw[MB] at hex;simp only[Z8,seval,hI];exact⟨_,by apply gD;rfl;all_goals simp only[aI,bS,Z8,seval,hI,M5,YV,hex,vG]<;>rfl,S0,some R,0,rfl,hG.sd.flat,by simp only[ol,Option.getD_some];omega,by decide,fun _=>⟨w,hG,nM,hC⟩⟩
 by_cases g5:s.hU=dI
 case neg =>
  have hG:GI (sH s v b) (kP s v b) q:=aBt
  have nM:RG (sH s v b) (kP s v b):=aBu
  have hC:((sH s v b)).cFg=s.cFg:=hcf.1
  have pA:=KV hG.sd
  simp only[Z8,seval,SZ,bf g1,bt g2,XM,g3,bt g4,g5,pA];refine Nh (a:=Al) (o0 s v q) (FO (by omega) (m:=(ol (kP s v b).O).length) ⟨(sH s v b),kP s v b,_,[b.root],66,0, ?start,.inl ⟨rfl,rfl⟩,.inl rfl,hG,nM,hC,by simp;omega,rfl⟩) ?rest
  case start =>
   rw[sJ hG.sd];simp only[E8,seval,eH,List.flatMap_cons,List.flatMap_nil,List.append_nil]<;>rfl
  case rest =>
   rintro e st ⟨rfl,S0,w,X,R,a,g,hI,ha,hX,hG,nM,hC,hR⟩
   have M5:(a=4)=False:=eq_false ha
   have aFj:=hG.sd.fl
   have hfo:=hG.sd.bY
   rcases hX with rfl|⟨g',L,hL,rfl,YV⟩
   ·rw[sJ hG.sd] at hI;have AI:=hG.sd.flat
    simp only[Z8,seval,hI];exact⟨_,by apply gD;rfl;all_goals simp only[aI,bS,Z8,seval,hI,M5,AI,vG]<;>rfl,S0,some R,0,rfl,AI,by simp only[ol,Option.getD_some];omega,by decide,fun _=>⟨w,hG,nM,hC⟩⟩
   ·have hex:=fun st' hh=>yK (O:=L) (a:=91) (g:=g') hG.sd st' hh
    have MB:mE S0 (ov aH (some L))=S0:=by rw[← hL];exact sJ hG.sd
    rw[MB] at hex;simp only[Z8,seval,hI];exact⟨_,by apply gD;rfl;all_goals simp only[aI,bS,Z8,seval,hI,M5,YV,hex,vG]<;>rfl,S0,some R,0,rfl,hG.sd.flat,by simp only[ol,Option.getD_some];omega,by decide,fun _=>⟨w,hG,nM,hC⟩⟩
 have hG:GI { sH s v b with hU:=b.root } (kP s v b) q:=aBt.hU b.root
 have nM:RG { sH s v b with hU:=b.root } (kP s v b):=aBu.hU b.root
 have hC:({ sH s v b with hU:=b.root }).cFg=s.cFg:=hcf.1
 have pA:=KV hG.sd
 simp only[Z8,seval,SZ,bf g1,bt g2,XM,g3,bt g4,g5,pA];refine Nh (a:=Al) (o0 s v q) (FO (by omega) (m:=(ol (kP s v b).O).length) ⟨{ sH s v b with hU:=b.root },kP s v b,_,[b.root],66,0, ?start,.inl ⟨rfl,rfl⟩,.inl rfl,hG,nM,hC,by simp;omega,rfl⟩) ?rest
 case start =>
  rw[sJ hG.sd];simp only[E8,seval,eH,List.flatMap_cons,List.flatMap_nil,List.append_nil]<;>rfl
 case rest =>
  rintro e st ⟨rfl,S0,w,X,R,a,g,hI,ha,hX,hG,nM,hC,hR⟩
  have M5:(a=4)=False:=eq_false ha
  have aFj:=hG.sd.fl
  have hfo:=hG.sd.bY
  rcases hX with rfl|⟨g',L,hL,rfl,YV⟩
  ·rw[sJ hG.sd] at hI;have AI:=hG.sd.flat
   simp only[Z8,seval,hI];exact⟨_,by apply gD;rfl;all_goals simp only[aI,bS,Z8,seval,hI,M5,AI,vG]<;>rfl,S0,some R,0,rfl,AI,by simp only[ol,Option.getD_some];omega,by decide,fun _=>⟨w,hG,nM,hC⟩⟩
  ·have hex:=fun st' hh=>yK (O:=L) (a:=91) (g:=g') hG.sd st' hh
   have MB:mE S0 (ov aH (some L))=S0:=by rw[← hL];exact sJ hG.sd
   rw[MB] at hex;simp only[Z8,seval,hI];exact⟨_,by apply gD;rfl;all_goals simp only[aI,bS,Z8,seval,hI,M5,YV,hex,vG]<;>rfl,S0,some R,0,rfl,hG.sd.flat,by simp only[ol,Option.getD_some];omega,by decide,fun _=>⟨w,hG,nM,hC⟩⟩
def PfR (q m:Int) (r:AV):Prop:=∃(t':State) (e:Int),r=.eB [.agg (aF t'),.v (.int .i64 e)]∧Flat (.agg (aF t'))∧(e=0∨e=21→∃v' Q' R',TI t' v' Q' R' (q+1000) (m+256))
theorem MC {t:State} (h:Flat (.agg (aF t))) {s':aN} (hs:Flat (.agg (aB s'))):Flat (.agg (aF { t with store:=s' })):=by
 obtain⟨_,_,_,_,_,_,_,h8,h9⟩:=(qD t).1 h
 obtain⟨h1,h2,h3,h4,h5,h6,h7⟩:=(Gh s').1 hs
 exact (qD _).2 ⟨h1,h2,h3,h4,h5,h6,h7,h8,h9⟩
theorem aPB {t:State} {v:SV} {Q R:Option (List Request)} {q m:Int} (h:TI t v Q R q m) (x:wG) (hx:oS x) (hp:x.kind=2→Pr x.block.root) (hq:q+1000≤900000) (hm:m+256≤100000) :
 ∃r,aD Tryz.prog 185 [.agg (aF t),.agg (kF x)]=some r∧PfR q m r:=by
 have hf:=h.td.flat
 have WJ:=h.gi.sd.flat
 have QO:=hx.flat
 have aBv:=hx.fl
 have up:∀ {t':State} {v':SV} {Q' R':Option (List Request)} {q' m':Int},TI t' v' Q' R' q' m'→q'≤q+1000→m'≤m+256→∃v' Q' R',TI t' v' Q' R' (q+1000) (m+256):=fun g a b=>⟨_,_,_,g.mono a hq b hm⟩
 have nt:=h.nt
 have mB:=h.mB
 have lq:=h.lq
 have lr:=h.lr
 have rB:=h.aBr
 rw[cL Tryz.func185 rfl aKP rfl];by_cases k1:x.kind=1
 ·obtain⟨y,hy,s',e,rfl,XN,ne,ho⟩:=aPl h.gi h.rg
  have k202:=kx hy (cO WJ) (.eB _ (bI XN (.v _)))
  have ft:=MC hf XN
  by_cases e0:e=0
  ·obtain⟨v',g,r,c⟩:=ho e0
   have T0:=h.toTI0.store g r c
   have T1:=T0.drop
   have T2:=T1.due hm
   have k36:=kx (c36 T0.td) (cO ft) T1.td.flat
   have k74:=kx (c74 T1.td (by have:=T1.lq;have:=T1.lr;have:=T1.aBr;omega)) (cO T1.td.flat) T2.td.flat
   have QR:=T2.td.flat
   simp only[Z8,seval,bt k1,k202,dT,bt e0,k36,k74];exact⟨_,by apply dM;rfl;all_goals simp only[aI,bS,Z8,seval,QR]<;>rfl,_,e,rfl,QR,fun _=>up T2 (by omega) (by omega)⟩
  ·simp only[Z8,seval,bt k1,k202,dT,bf e0];exact⟨_,by apply dM;rfl;all_goals simp only[aI,bS,Z8,seval,ft]<;>rfl,_,e,rfl,ft,fun h=>absurd h (by omega)⟩
 by_cases k2:x.kind=2
 ·obtain⟨y,hy,s',L,e,rfl,XN,nL,ne,ho⟩:=aPA h.gi h.rg x.block ⟨hx.rb,hp k2⟩
  have k203:=kx hy (bI WJ (tZ _)) (.eB _ (mC XN (Gr L) (.v _)))
  have ft:=MC hf XN
  by_cases e0:e=0
  ·obtain⟨v',g,r,c⟩:=ho e0
   have T0:=h.toTI0.store g r c
   have T1:=T0.drop
   have T2:=T1.open (ol L) (by omega) hm
   have k36:=kx (c36 T0.td) (cO ft) T1.td.flat
   have k32:∀(st:St) (d:Option Nat),eE (aD Tryz.prog) 32 _ st d=_:=fun st d=>Gs (bI T1.td.flat (Gr L)) (c32 T1.td L (by have:=T1.lq;omega)) T2.td.flat
   have QR:=T2.td.flat
   simp only[Z8,seval,bf k1,bt k2,k203,dT,bt e0,k36,k32];exact⟨_,by apply dM;rfl;all_goals simp only[aI,bS,Z8,seval,QR]<;>rfl,_,e,rfl,QR,fun _=>up T2 (by omega) (by omega)⟩
  ·simp only[Z8,seval,bf k1,bt k2,k203,dT,bf e0];exact⟨_,by apply dM;rfl;all_goals simp only[aI,bS,Z8,seval,ft]<;>rfl,_,e,rfl,ft,fun h=>absurd h (by omega)⟩
 by_cases k3:x.kind=3
 ·obtain⟨V,hV,nV⟩:=hx.Fk
  obtain⟨y,hy,s',e,rfl,XN,ne,ho⟩:=aOv h.gi h.rg x.Fk V hV (by omega)
  have k204:=kx hy (bI WJ ((Ba _).2 aBv.1)) (.eB _ (bI XN (.v _)))
  have ft:=MC hf XN
  have fin:e=0∨e=21→∃v' Q' R',TI { t with store:=s' } v' Q' R' (q+1000) (m+256):=fun he=>by
   obtain⟨v',g,r,c,en⟩:=ho (by omega)
   exact up ⟨h.toTI0.store g r c,by rw[en];exact h.o8,by rw[en];exact h.F5⟩ (by omega) (by omega)
  simp only[Z8,seval,bf k1,bf k2,bt k3,k204,dT];exact⟨_,by apply dM;rfl;all_goals simp only[aI,bS,Z8,seval,ft]<;>rfl,_,e,rfl,ft,fin⟩
 by_cases k4:x.kind=4
 ·obtain⟨V,hV,nV⟩:=hx.c1
  obtain⟨W,hW,nW⟩:=hx.c2
  obtain⟨y,hy,s',e,rfl,XN,ne,ho⟩:=aOu h.gi h.rg x.oD V W hV hW nV nW hq
  have k205:=kx hy (bI WJ ((mL _).2 ⟨aBv.2.1,aBv.2.2.1⟩)) (.eB _ (bI XN (.v _)))
  have ft:=MC hf XN
  have fin:e=0∨e=21→∃v' Q' R',TI { t with store:=s' } v' Q' R' (q+1000) (m+256):=fun he=>by
   obtain⟨v',g,r,c,en⟩:=ho (by omega)
   exact up ⟨h.toTI0.store g r c,by rw[en];exact h.o8,by rw[en];exact h.F5⟩ (by omega) (by omega)
  simp only[Z8,seval,bf k1,bf k2,bf k3,bt k4,k205,dT];exact⟨_,by apply dM;rfl;all_goals simp only[aI,bS,Z8,seval,ft]<;>rfl,_,e,rfl,ft,fin⟩
 by_cases k5:x.kind=5
 ·have nT:=h.gi.nT
  have RZ:=h.gi.RZ
  obtain⟨y,hy,s',e,rfl,XN,ne,ho⟩:=aN6 h.gi.sd (by omega) x.table hx.K7
  have k117:=kx hy (bI WJ ((kL _).2 aBv.2.2.2)) (.eB _ (bI XN (.v _)))
  have ft:=MC hf XN
  have fin:e=0∨e=21→∃v' Q' R',TI { t with store:=s' } v' Q' R' (q+1000) (m+256):=fun he=>by
   obtain⟨o',rfl,nl,tb,sub,ne1,ne2⟩:=ho (by omega)
   have g:GI { t.store with tables:=ov aR o' } { v with T:=o' } q :=
    ⟨⟨h.gi.sd.jH,h.gi.sd.dR,h.gi.sd.gZ,h.gi.sd.early,h.gi.sd.bY,h.gi.sd.tree,rfl,h.gi.sd.eV,tb,h.gi.sd.nB,h.gi.sd.nL,h.gi.sd.nQ,h.gi.sd.nE,h.gi.sd.nO,by show ((ol o').length:Int)<_;omega,h.gi.sd.nn⟩,h.gi.up,h.gi.KC,h.gi.pos,h.gi.nl,h.gi.KX,h.gi.qG,h.gi.KY,h.gi.nB,h.gi.nO,h.gi.KZ,h.gi.nE,h.gi.QP,by show ((ol o').length:Int)≤t.store.cFg.lT.qJ;omega,h.gi.RZ,h.gi.nQ,h.gi.I3,h.gi.gP⟩
   have r:RG { t.store with tables:=ov aR o' } { v with T:=o' }:=⟨h.rg.now,h.rg.j,h.rg.f,h.rg.nd,h.rg.or,h.rg.rt,h.rg.fe,h.rg.ds,by obtain⟨tb,h1,h2⟩:=h.rg.tb;exact⟨tb,sub h1,h2⟩,⟨h.rg.ne.q,h.rg.ne.e,h.rg.ne.o,ne1,h.rg.ne.ea,fun x hx=>(ne2 x hx).elim (h.rg.ne.tb x) fun ⟨B,h1,h2⟩=>⟨B,h1,fun e=>by have h3:=h.jH.1;rw[e] at h2;simp at h2;omega⟩⟩⟩
   exact up ⟨h.toTI0.store g r rfl,h.o8,h.F5⟩ (by omega) (by omega)
  simp only[Z8,seval,bf k1,bf k2,bf k3,bf k4,bt k5,k117,dT];exact⟨_,by apply dM;rfl;all_goals simp only[aI,bS,Z8,seval,ft]<;>rfl,_,e,rfl,ft,fin⟩
 by_cases k6:x.kind=6
 ·obtain⟨y,hy,t',e,v',Q',R',rfl,g⟩:=aPx h x.verdict
  have k206:=kx hy (bI hf (.agg _ (fV _))) (.eB _ (bI g.td.flat (.v _)))
  have ft:=g.td.flat
  simp only[Z8,seval,bf k1,bf k2,bf k3,bf k4,bf k5,bt k6,k206,dT];exact⟨_,by apply dM;rfl;all_goals simp only[aI,bS,Z8,seval,ft]<;>rfl,_,e,rfl,ft,fun _=>up g (by omega) (by omega)⟩
 simp only[Z8,seval,bf k1,bf k2,bf k3,bf k4,bf k5,bf k6];exact⟨_,by apply dM;rfl;all_goals simp only[aI,bS,Z8,seval,hf]<;>rfl,t,2,rfl,hf,fun h=>absurd h (by omega)⟩
theorem aPD {t:State} {v:SV} {Q R:Option (List Request)} {q m:Int} (h:TI t v Q R q m) (x:wG) (hx:oS x) (hp:x.kind=2→Pr x.block.root) (hq:q+1000≤900000) (hm:m+256≤100000) :
 ∃r,aD Tryz.prog 147 [.agg (aF t),.agg (kF x)]=some r∧∃(t':State) (y:AV) (e:Int) (v':SV) (Q' R':Option (List Request)),r=.eB [.agg (aF t'),y,.v (.int .i64 e)]∧Flat y∧TI t' v' Q' R' (q+1000) (m+256):=by
 have hf:=h.td.flat
 have QO:=hx.flat
 have h':=h.mono (q':=q+1000) (m':=m+256) (by omega) hq (by omega) hm
 obtain⟨y1,hy1,e1,rfl⟩:=aOR x hx
 have aBw:=kx hy1 (cO QO) (.v _)
 obtain⟨y2,hy2,t2,e2,rfl,QR,ho⟩:=aPB h x hx hp hq hm
 have aFk:=kx hy2 (bI hf QO) (.eB _ (bI QR (.v _)))
 rw[cL Tryz.func147 rfl aKR rfl];cases g0:t.halted
 case true =>
  simp only[Z8,seval,g0];exact⟨_,by apply gD;rfl;all_goals simp only[aI,bS,Z8,seval,hf]<;>rfl,t,_,22,v,Q,R,rfl,.v _,h'⟩
 by_cases g1:e1=0
 case neg =>
  simp only[Z8,seval,g0,aBw,bf g1];exact⟨_,by apply gD;rfl;all_goals simp only[aI,bS,Z8,seval,hf]<;>rfl,t,_,e1,v,Q,R,rfl,.v _,h'⟩
 by_cases g2:e2=21
 ·obtain⟨v',Q',R',T⟩:=ho (.inr g2)
  simp only[Z8,seval,g0,aBw,bt g1,aFk,dT,bt g2];exact⟨_,by apply gD;rfl;all_goals simp only[aI,bS,Z8,seval,QR]<;>rfl,t2,_,e2,v',Q',R',rfl,.v _,T⟩
 by_cases g3:e2=0
 case neg =>
  simp only[Z8,seval,g0,aBw,bt g1,aFk,dT,bf g2,bf g3];exact⟨_,by apply gD;rfl;all_goals simp only[aI,bS,Z8,seval,hf]<;>rfl,t,_,e2,v,Q,R,rfl,.v _,h'⟩
 obtain⟨v',Q',R',T⟩:=ho (.inl g3)
 obtain⟨y3,hy3,b,c,y,rfl,fy⟩:=aJU t2 QR T.gi
 have T':=T.emit b c
 have ft3:=T'.td.flat
 have aFl:=kx hy3 (cO QR) (.eB _ (bI ft3 fy))
 simp only[Z8,seval,g0,aBw,bt g1,aFk,dT,bf g2,bt g3,aFl];exact⟨_,gD rfl (by simp only[bS,Z8,seval]<;>rfl) (by simp only[bS,Z8,seval]<;>rfl) (by simp only[bS,E8,seval]<;>rfl) (dL ft3) (dL fy) (dL (.v _)),_,y,0,v',Q',R',rfl,fy,T'⟩
theorem sU (n:Int):(mkRoot n)[0]=IntKind.u8.wrap n:=by
 simp[mkRoot]
theorem Gv {n:Int} (h0:0≤n) (h1:n<256):IntKind.u8.wrap n=n:=by
 simp only[IntKind.wrap,IntKind.bits,IntKind.signed];simp
 omega
theorem aD4 {n:Int} (h0:1≤n) (h1:n≤98):Pr (mkRoot n):=by
 refine⟨fun e=>?_,fun e=>?_⟩
 ·have e1:IntKind.u8.wrap n=dI[0]:=by rw[← sU,e]
  rw[Gv (by omega) (by omega),show dI[0]=0 from rfl] at e1
  omega
 ·have e1:IntKind.u8.wrap n=IntKind.u8.wrap 99:=by rw[← sU,← sU,e]
  rw[Gv (by omega) (by omega),Gv (by omega) (by omega)] at e1
  omega
theorem RG.new {c:Config} {b:List Int} (h:Nd c b):RG (SK c b) (Ta c b):=by
 have hg:Pr c.dV:=by rw[h.gen];exact aD4 (by omega) (by omega)
 have z:Rg 0:=XJ
 refine⟨⟨by show (0:Int)≤0;omega,by show (0:Int)≤_;omega⟩,z,z,fun n hn=>?_,(fun o ho=>by cases ho),fun n hn=>?_,⟨by show (0:Int)≤0;omega, ?_⟩, ?_, ?_, ?_⟩
 ·rw[show n=⟨FH c,-1,1⟩ from List.mem_singleton.1 hn];exact⟨⟨z,z,z,z,z⟩,by show (0:Int)≤0;omega⟩
 ·rw[show n=⟨FH c,-1,1⟩ from List.mem_singleton.1 hn];exact hg
 ·show (0:Int)≤IntKind.u64.wrap (Int.tdiv 0 c.qG)
  rw[Int.zero_tdiv];decide
 ·show ([c.dV]:List cC).Nodup
  simp
 ·exact⟨⟨⟨0,c.dV⟩,ov bD (some b)⟩,List.mem_singleton.2 rfl,rfl⟩
 ·exact⟨nofun,nofun,nofun,by simp[Ta],(fun a ha=>by cases ha),fun t ht=>⟨b,by rw[show t=⟨⟨0,c.dV⟩,ov bD (some b)⟩ from List.mem_singleton.1 ht],fun e=>by have:=h.nb.1;rw[e] at this;simp at this⟩⟩
def o9 (c:Config) (b:List Int):State:={ jF with store:=SK c b,bE:=1 }
theorem TI.new {c:Config} {b:List Int} (h:Nd c b):TI (o9 c b) (Ta c b) none none 0 0:=by
 have g:=GI.new h
 have r:=RG.new h
 have hr:=h.nK
 exact⟨⟨⟨g.sd,rfl,rfl,by show ((0:Nat):Int)<_;omega,by show ((0:Nat):Int)<_;omega⟩,g,r,⟨b,h⟩,⟨by show (1:Int)≤1;omega,(fun r hr=>by cases hr),List.Pairwise.nil⟩,⟨(fun r hr=>by cases hr),List.Pairwise.nil⟩,by show (1:Int)≤1+0;omega,by show ((0:Nat):Int)≤0;omega,by show ((0:Nat):Int)≤c.lT.nK;omega,by omega,nofun,nofun⟩,(fun r hr=>by cases hr),(fun r hr=>by cases hr)⟩
theorem aKU {c:Config} {b:List Int} (h:Nd c b):∃r,aD Tryz.prog 144 [.agg (bR c)]=some r∧∃(yL:Bool) (last:Command) (y:AV),r=.eB [.agg (aF { o9 c b with yL:=yL,last:=last }),y,.v (.int .i64 0)]∧Flat y:=by
 have T:=TI.new h
 have fc:Flat (.agg (bR c)):=(xP c).2 (by rw[h.jH];exact dX _)
 have fs:=T.gi.sd.flat
 have k102:=kx (aOA h) (cO fc) (.eB _ (bI fs (.v _)))
 obtain⟨y3,hy3,s,l,y,rfl,fy⟩:=aJU (o9 c b) T.td.flat T.gi
 have ft3:=(T.emit s l).td.flat
 have aFl:=kx hy3 (cO T.td.flat) (.eB _ (bI ft3 fy))
 have eb:({ jF with store:=SK c b,bE:=1 }:State)=o9 c b:=rfl
 rw[cL Tryz.func144 rfl aKV rfl];simp only[Z8,seval,k102,dT,eb,aFl];exact⟨_,gD rfl (by simp only[bS,Z8,seval]<;>rfl) (by simp only[bS,Z8,seval]<;>rfl) (by simp only[bS,E8,seval]<;>rfl) (dL ft3) (dL fy) (dL (.v _)),s,l,y,rfl,fy⟩
end Go.Ab.Tryz
