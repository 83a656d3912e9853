/-
  Part 15 of the proof: an evaluator of programs, its soundness, and what functions of this program compute.
-/
import Derived.Test.YtmcjkemalibacaaGreatK14
import Derived.Test.YtmcjkemalibacaaGreatK10
import Derived.Test.YtmcjkemalibacaaGreatK12
import Derived.Test.YtmcjkemalibacaaGreatK13
set_option linter.all false
set_option maxRecDepth 20000
set_option maxHeartbeats 40000000
namespace Go.Ab.Tryz
open Classical Go.Proofs Go.Ab
noncomputable def Ll (ns:List Node) (now:Int) (a:(Option (List Request) × Int) × List Request) (r:Request):(Option (List Request) × Int) × List Request :=
 if now<r.due then (a.1,a.2++[r]) else if xW ns r.block then ((some (ol a.1.1++[⟨⟨a.1.2⟩,r.block,r.tries,0⟩]),IntKind.u64.wrap (a.1.2+1)),a.2) else a
noncomputable def zM (ns:List Node) (now:Int) (a:(Option (List Request) × Int) × List Request) (l:List Request):(Option (List Request) × Int) × List Request:=l.foldl (Ll ns now) a
theorem A9 (ns:List Node) (now:Int) (a:(Option (List Request) × Int) × List Request) (l:List Request) (k:Nat) (h:k<l.length):zM ns now a (l.take (k+1))=Ll ns now (zM ns now a (l.take k)) (gx bN l k):=by
 unfold zM;rw[List.take_succ_eq_append_getElem h,List.foldl_append];simp[gx,h]
theorem Q8 (ns:List Node) (now:Int) (a:(Option (List Request) × Int) × List Request) (r:Request):(ol (Ll ns now a r).1.1).length≤(ol a.1.1).length+1∧(Ll ns now a r).2.length≤a.2.length+1:=by
 unfold Ll;split
 ·refine⟨by dsimp only;omega, ?_⟩
  dsimp only;rw[List.length_append,List.length_cons,List.length_nil];omega
 ·split
  ·refine⟨?_,by dsimp only;omega⟩
   show (ol a.1.1++[_]).length≤_;rw[List.length_append,List.length_cons,List.length_nil];omega
  ·omega
theorem MU (ns:List Node) (now:Int) (l:List Request):∀(a:(Option (List Request) × Int) × List Request),(ol (zM ns now a l).1.1).length≤(ol a.1.1).length+l.length∧(zM ns now a l).2.length≤a.2.length+l.length:=by
 induction l with
 | nil=>intro a;exact⟨Nat.le_refl _,Nat.le_refl _⟩
 | cons r l ih =>
   intro a;have h1:=ih (Ll ns now a r)
   have h2:=Q8 ns now a r
   rw[List.length_cons];show (ol (zM ns now (Ll ns now a r) l).1.1).length≤_∧(zM ns now (Ll ns now a r) l).2.length≤_
   omega
theorem pN {st:St} (o:Option (List Request)):cA st (ov aA o)=some (ov aA o):=Xa (cH o)
theorem jJ {st:St} {a g:Nat} {L:List Request} (h:st.heap a g=some (.row 63 35 L.length (aA L))):cA st (.own a g)=some (ov aA (some L)):=by
 rw[bG,h];exact pF _ _
theorem YS {t:State} {v:SV} {Q R:Option (List Request)} (h:TD t v Q R) (st:St) {X Y X' Y':AV} (hx:cA st X=some X') (hy:cA st Y=some Y') (tag:Int):fK st (.agg (aF (Da t X Y tag)))=some (.agg (aF (Da t X' Y' tag))):=by
 have iX:=h.fl
 unfold Da;simp only[bR,vO,gK,hx,hy,cO,dW,iX,cZ]
theorem TD.rq {t:State} {v:SV} {Q R:Option (List Request)} (h:TD t v Q R) (q z:Option (List Request)) (tag:Int) (hq:((ol q).length:Int)<900000) (hz:((ol z).length:Int)<900000):TD (Da t (ov aA q) (ov aA z) tag) v q z:=⟨h.sd,rfl,rfl,hq,hz⟩
theorem MV {t:State} {v:SV} {Q R:Option (List Request)} (h:TD t v Q R) (q z:Option (List Request)) (tag:Int) (hq:((ol q).length:Int)<900000) (hz:((ol z).length:Int)<900000) (r:cK) (st:St) (d:Option Nat) {X Y:AV} (hx:cA st X=some (ov aA q)) (hy:cA st Y=some (ov aA z)) :
 aL (aC Tryz.prog) 85 [.agg (aF (Da t X Y tag)),.agg (aX r)] st d=some { dst:=d,val:=.v (.bool (decide (xW v.ns r)))}:=by
 rw[lF,List.map_cons,List.map_cons,List.map_nil,YS h st hx hy,Qt,bP,bP,gL];exact GU (c85 (h.rq q z tag hq hz) r)
theorem aCd {call:Nat→List AV→Option AV} {inl:Nat→List AV→St→Option (AV × St)} {ops:Array Oper} {st:St} {T:Nat} {pos:String} {eP:Array Edge} (x:Array Operand) (y:Array Nat) :
 gU Tryz.prog true call inl ops ⟨some 50,.call ⟨.value (.func 86),x,y⟩,T,pos,eP,none⟩ st=cN (inl 86 (x.toList.map st.ev) st) fun r=>some ((st.back r.2).put (some 50) r.1):=UH 86 x y (Xh rfl)
noncomputable def GV (t:State) (ns:List Node) (Q R:Option (List Request)):(Option (List Request) × Int) × List Request:=zM ns t.store.now ((Q,t.cT),[]) (ol R)
noncomputable def aCe (t:State) (ns:List Node) (Q R:Option (List Request)):State:=Da t (ov aA (GV t ns Q R).1.1) (ov aA (nz (GV t ns Q R).2)) (GV t ns Q R).1.2
theorem Bv (t:State) (X Y:AV) (tag:Int):(Da t X Y tag).dN=X:=rfl
theorem Bw (t:State) (X Y:AV) (tag:Int):(Da t X Y tag).kH=Y:=rfl
theorem Bx (t:State) (X Y:AV) (tag:Int):(Da t X Y tag).cT=tag:=rfl
theorem By (t:State) (X Y:AV) (tag:Int):(Da t X Y tag).store=t.store:=rfl
theorem c74 {t:State} {v:SV} {Q R:Option (List Request)} (h:TD t v Q R) (hn:((ol Q).length:Int)+(ol R).length<800000):aC Tryz.prog 74 [.agg (aF t)]=some (.agg (aF (aCe t v.ns Q R))):=by
 have iX:=h.fl
 have nR:=h.nR
 have hlen:∀k:Nat,(ol (zM v.ns t.store.now ((Q,t.cT),[]) ((ol R).take k)).1.1).length≤(ol Q).length+(ol R).length∧(zM v.ns t.store.now ((Q,t.cT),[]) ((ol R).take k)).2.length≤(ol R).length:=fun k=>by
  have h1:=MU v.ns t.store.now ((ol R).take k) ((Q,t.cT),[])
  have h2:=List.length_take_le' k (ol R)
  have e:(ol ((Q,t.cT),([]:List Request)).1.1).length=(ol Q).length:=rfl
  have e2:((Q,t.cT),([]:List Request)).2.length=0:=rfl
  rw[e,e2] at h1;omega
 rw[cG Tryz.func74 rfl aQy (by kernel_rfl) rfl]
 refine jG ?_
 simp only[ZG,seval,Bool.false_and,Prod.mk.injEq,Jp,h.ret];refine lJ (fun m st=>∃(k:Nat) (X Y:AV) (p:(Option (List Request) × Int) × List Request),(st.env 1=.ptr 1 0 0∧st.heap 1 0=some (.cells (aF (Da t X Y p.1.2)))∧st.env 2=.ptr 2 0 0∧st.heap 2 0=some (.cells (aF jR))∧st.env 3=ov aA R∧st.env 4=.v (.int .i64 k)∧0<st.aP 1∧0<st.aP 2)∧(X=ov aA p.1.1∨∃g L,p.1.1=some L∧X=.own 19 g∧g<st.aP 19∧st.heap 19 g=some (.row 63 35 L.length (aA L)))∧((Y=.v (.slice none 0 0)∧p.2=[])∨∃g,p.2≠[]∧Y=.own 30 g∧g<st.aP 30∧st.heap 30 g=some (.row 63 35 p.2.length (aA p.2)))∧p=zM v.ns t.store.now ((Q,t.cT),[]) ((ol R).take k)∧k≤(ol R).length∧m=(ol R).length-k)
  (fun e st=>e=.exit 0∧∃(X Y:AV) (p:(Option (List Request) × Int) × List Request),(st.env 1=.ptr 1 0 0∧st.heap 1 0=some (.cells (aF (Da t X Y p.1.2)))∧st.env 2=.ptr 2 0 0∧st.heap 2 0=some (.cells (aF jR)))∧(X=ov aA p.1.1∨∃g L,p.1.1=some L∧X=.own 19 g∧st.heap 19 g=some (.row 63 35 L.length (aA L)))∧((Y=.v (.slice none 0 0)∧p.2=[])∨∃g,p.2≠[]∧Y=.own 30 g∧st.heap 30 g=some (.row 63 35 p.2.length (aA p.2)))∧p=GV t v.ns Q R) (ol R).length ?step ?start ?rest
 case step =>
  rintro m st ⟨k,X,Y,p,hI,hX,hY,hp,hk,hm⟩
  by_cases bA:(k:Int)<(ol R).length
  case neg =>
   have Eh:k=(ol R).length:=by omega
   rw[Eh,List.take_length] at hp;have hX':(X=ov aA p.1.1∨∃g L,p.1.1=some L∧X=.own 19 g∧st.heap 19 g=some (.row 63 35 L.length (aA L))):=hX.imp id fun ⟨g,L,a,b,_,c⟩=>⟨g,L,a,b,c⟩
   have hY':((Y=.v (.slice none 0 0)∧p.2=[])∨∃g,p.2≠[]∧Y=.own 30 g∧st.heap 30 g=some (.row 63 35 p.2.length (aA p.2))):=hY.imp id fun ⟨g,a,b,_,c⟩=>⟨g,a,b,c⟩
   apply FY (.exit 0)
   ·simp only[ZG,seval,Bool.false_and,Prod.mk.injEq,Jp,hI,bA];rfl
   ·exact⟨rfl,X,Y,p,by simp only[E8,seval,hI],by simpa only[E8,seval] using hX',by simpa only[E8,seval] using hY',hp⟩
  have q0:(0:Int)≤k:=by omega
  have hw:IntKind.i64.wrap ((k:Int)+1)=((k+1:Nat):Int):=by rw[pR _ (by omega) (by omega)];omega
  have hs:=A9 v.ns t.store.now ((Q,t.cT),[]) (ol R) k (by omega)
  have hl:=hlen k
  have Qd:=hlen (k+1)
  rw[← hp] at hs hl;obtain⟨r,er⟩:∃r,gx bN (ol R) (k:Int)=r:=⟨_,rfl⟩
  rw[er] at hs;unfold Ll at hs;have K4:((ol p.1.1).length:Int)<900000:=by omega
  have nZ9:(p.2.length:Int)<900000:=by omega
  have nZ:(p.2.length:Int)<1000000:=by omega
  by_cases g1:t.store.now<r.due
  ·rw[if_pos g1] at hs;rcases hY with ⟨rfl,hz⟩|⟨g,hz,rfl,hg,hh⟩
   ·apply Ct ((ol R).length-(k+1))
    ·simp only[ZG,seval,Bool.false_and,Prod.mk.injEq,Jp,hI,bA,q0,er,Bv,Bw,Bx,By,g1,hw];rfl
    ·exact⟨k+1,X,_,(p.1,p.2++[r]),by and_intros<;>(simp only[E8,seval,hI]<;>rfl),by simpa only[E8,seval] using hX,.inr ⟨_,by simp,rfl,by simp only[E8,seval]<;>omega,by rw[hz];simp only[E8,seval]<;>rfl⟩,hs.symm,by omega,rfl⟩
   ·have vL:(g=st.aP 30)=False:=eq_false (by omega)
    apply Ct ((ol R).length-(k+1))
    ·simp only[ZG,seval,Bool.false_and,Prod.mk.injEq,Jp,hI,bA,q0,er,Bv,Bw,Bx,By,hh,vL,g1,hw,tF _ _ _ _ nZ];rfl
    ·exact⟨k+1,X,_,(p.1,p.2++[r]),by and_intros<;>(simp only[E8,seval,hI]<;>rfl),by simpa only[E8,seval] using hX,.inr ⟨_,by simp,rfl,by simp only[E8,seval]<;>omega,by simp only[E8,seval]<;>rfl⟩,hs.symm,by omega,rfl⟩
  rw[if_neg g1] at hs;by_cases g2:xW v.ns r.block
  case neg =>
   rw[if_neg g2] at hs;rcases hX with rfl|⟨g,L,hL,rfl,hg,hh⟩
   ·rcases hY with ⟨rfl,hz⟩|⟨g9,hz,rfl,hg9,MW⟩
    ·have Lm:∀(st:St) (d:Option Nat),aL (aC Tryz.prog) 85 [.agg (aF (Da t (ov aA p.1.1) (.v (.slice none 0 0)) p.1.2)),.agg (aX r.block)] st d=some { dst:=d,val:=.v (.bool (decide (xW v.ns r.block)))}:=fun st d=>MV h p.1.1 none p.1.2 K4 (by show ((0:Nat):Int)<_;omega) r.block st d (pN _) (show cA st (.v (.slice none 0 0))=some (ov aA none) from pN none)
     apply Ct ((ol R).length-(k+1))
     ·simp only[ZG,seval,Bool.false_and,Prod.mk.injEq,Jp,hI,bA,q0,er,Bv,Bw,Bx,By,g1,Lm,g2,hw];rfl
     ·exact⟨k+1,_,_,p,by and_intros<;>(simp only[E8,seval,hI]<;>rfl),.inl rfl,.inl ⟨rfl,hz⟩,hs.symm,by omega,rfl⟩
    ·have Lm:∀(st:St) (d:Option Nat),st.heap 30 g9=some (.row 63 35 p.2.length (aA p.2))→aL (aC Tryz.prog) 85 [.agg (aF (Da t (ov aA p.1.1) (.own 30 g9) p.1.2)),.agg (aX r.block)] st d=some { dst:=d,val:=.v (.bool (decide (xW v.ns r.block)))}:=fun st d h2=>MV h p.1.1 (some p.2) p.1.2 K4 nZ9 r.block st d (pN _) (show cA st (.own 30 g9)=some (ov aA (some p.2)) from jJ h2)
     apply Ct ((ol R).length-(k+1))
     ·simp only[ZG,seval,Bool.false_and,Prod.mk.injEq,Jp,hI,bA,q0,er,Bv,Bw,Bx,By,g1,Lm,MW,g2,hw];rfl
     ·exact⟨k+1,_,_,p,by and_intros<;>(simp only[E8,seval,hI]<;>rfl),.inl rfl,.inr ⟨g9,hz,rfl,by simp only[E8,seval]<;>omega,by simp only[E8,seval,MW]⟩,hs.symm,by omega,rfl⟩
   ·rcases hY with ⟨rfl,hz⟩|⟨g9,hz,rfl,hg9,MW⟩
    ·have Lm:∀(st:St) (d:Option Nat),st.heap 19 g=some (.row 63 35 L.length (aA L))→aL (aC Tryz.prog) 85 [.agg (aF (Da t (.own 19 g) (.v (.slice none 0 0)) p.1.2)),.agg (aX r.block)] st d=some { dst:=d,val:=.v (.bool (decide (xW v.ns r.block)))}:=fun st d h1=>MV h p.1.1 none p.1.2 K4 (by show ((0:Nat):Int)<_;omega) r.block st d (by rw[hL];exact jJ h1) (show cA st (.v (.slice none 0 0))=some (ov aA none) from pN none)
     apply Ct ((ol R).length-(k+1))
     ·simp only[ZG,seval,Bool.false_and,Prod.mk.injEq,Jp,hI,bA,q0,er,Bv,Bw,Bx,By,g1,Lm,hh,g2,hw];rfl
     ·exact⟨k+1,_,_,p,by and_intros<;>(simp only[E8,seval,hI]<;>rfl),.inr ⟨g,L,hL,rfl,by simp only[E8,seval]<;>omega,by simp only[E8,seval,hh]⟩,.inl ⟨rfl,hz⟩,hs.symm,by omega,rfl⟩
    ·have Lm:∀(st:St) (d:Option Nat),st.heap 19 g=some (.row 63 35 L.length (aA L))→st.heap 30 g9=some (.row 63 35 p.2.length (aA p.2))→aL (aC Tryz.prog) 85 [.agg (aF (Da t (.own 19 g) (.own 30 g9) p.1.2)),.agg (aX r.block)] st d=some { dst:=d,val:=.v (.bool (decide (xW v.ns r.block)))}:=fun st d h1 h2=>MV h p.1.1 (some p.2) p.1.2 K4 nZ9 r.block st d (by rw[hL];exact jJ h1) (show cA st (.own 30 g9)=some (ov aA (some p.2)) from jJ h2)
     apply Ct ((ol R).length-(k+1))
     ·simp only[ZG,seval,Bool.false_and,Prod.mk.injEq,Jp,hI,bA,q0,er,Bv,Bw,Bx,By,g1,Lm,hh,MW,g2,hw];rfl
     ·exact⟨k+1,_,_,p,by and_intros<;>(simp only[E8,seval,hI]<;>rfl),.inr ⟨g,L,hL,rfl,by simp only[E8,seval]<;>omega,by simp only[E8,seval,hh]⟩,.inr ⟨g9,hz,rfl,by simp only[E8,seval]<;>omega,by simp only[E8,seval,MW]⟩,hs.symm,by omega,rfl⟩
  rw[if_pos g2] at hs;rcases hX with rfl|⟨g,L,hL,rfl,hg,hh⟩
  ·rcases hY with ⟨rfl,hz⟩|⟨g9,hz,rfl,hg9,MW⟩
   ·have Lm:∀(st:St) (d:Option Nat),aL (aC Tryz.prog) 85 [.agg (aF (Da t (ov aA p.1.1) (.v (.slice none 0 0)) p.1.2)),.agg (aX r.block)] st d=some { dst:=d,val:=.v (.bool (decide (xW v.ns r.block)))}:=fun st d=>MV h p.1.1 none p.1.2 K4 (by show ((0:Nat):Int)<_;omega) r.block st d (pN _) (show cA st (.v (.slice none 0 0))=some (ov aA none) from pN none)
    obtain⟨G,hG⟩:=aET t (.v (.slice none 0 0)) p.1.1 p.1.2 (by omega) r.block r.tries
    have kG:=fun st=>(hG st).1
    have f1:∀st:St,0<st.aP 1→(G st).heap 1 0=st.heap 1 0:=fun st h=>(hG st).2.1.1 1 0 h
    have f2:∀st:St,0<st.aP 2→(G st).heap 2 0=st.heap 2 0:=fun st h=>(hG st).2.1.1 2 0 h
    have c1:∀st:St,0<st.aP 1→(0<(G st).aP 1)=True:=fun st h=>eq_true (Nat.lt_of_lt_of_le h ((hG st).2.1.2 1))
    have c2:∀st:St,0<st.aP 2→(0<(G st).aP 2)=True:=fun st h=>eq_true (Nat.lt_of_lt_of_le h ((hG st).2.1.2 2))
    have fn:∀(st:St) (c:Nat),c=st.aP 19→(G st).heap 19 c=_:=fun st c e=>e ▸ (hG st).2.2.1
    have cn:∀(st:St) (c:Nat),c=st.aP 19→(c<(G st).aP 19)=True:=fun st c e=>e ▸ eq_true (hG st).2.2.2
    apply Ct ((ol R).length-(k+1))
    ·simp only[ZG,seval,Bool.false_and,Prod.mk.injEq,Jp,hI,bA,q0,er,Bv,Bw,Bx,By,g1,Lm,g2,aCd,kG,f1,cE,bE,bB,hw];rfl
    ·exact⟨k+1,_,_,((some (ol p.1.1++[(⟨⟨p.1.2⟩,r.block,r.tries,0⟩:Request)]),IntKind.u64.wrap (p.1.2+1)),p.2),⟨by simp only[E8,seval,hI,cE],by simp only[E8,seval,hI,bE,bB]<;>rfl,by simp only[E8,seval,hI,cE],by simp only[E8,seval,hI,bE,bB,f2],by simp only[E8,seval,hI,cE],by simp only[E8,seval,hI,cE],by simp only[E8,seval,hI,bB,c1],by simp only[E8,seval,hI,bB,c2]⟩,.inr ⟨_,(ol p.1.1++[(⟨⟨p.1.2⟩,r.block,r.tries,0⟩:Request)]),rfl,rfl,by simp only[E8,seval,bB,cn],by simp only[E8,seval,bE,bB,fn]⟩,.inl ⟨rfl,hz⟩,hs.symm,by omega,rfl⟩
   ·have Lm:∀(st:St) (d:Option Nat),st.heap 30 g9=some (.row 63 35 p.2.length (aA p.2))→aL (aC Tryz.prog) 85 [.agg (aF (Da t (ov aA p.1.1) (.own 30 g9) p.1.2)),.agg (aX r.block)] st d=some { dst:=d,val:=.v (.bool (decide (xW v.ns r.block)))}:=fun st d h2=>MV h p.1.1 (some p.2) p.1.2 K4 nZ9 r.block st d (pN _) (show cA st (.own 30 g9)=some (ov aA (some p.2)) from jJ h2)
    obtain⟨G,hG⟩:=aET t (.own 30 g9) p.1.1 p.1.2 (by omega) r.block r.tries
    have kG:=fun st=>(hG st).1
    have f1:∀st:St,0<st.aP 1→(G st).heap 1 0=st.heap 1 0:=fun st h=>(hG st).2.1.1 1 0 h
    have f2:∀st:St,0<st.aP 2→(G st).heap 2 0=st.heap 2 0:=fun st h=>(hG st).2.1.1 2 0 h
    have c1:∀st:St,0<st.aP 1→(0<(G st).aP 1)=True:=fun st h=>eq_true (Nat.lt_of_lt_of_le h ((hG st).2.1.2 1))
    have c2:∀st:St,0<st.aP 2→(0<(G st).aP 2)=True:=fun st h=>eq_true (Nat.lt_of_lt_of_le h ((hG st).2.1.2 2))
    have fn:∀(st:St) (c:Nat),c=st.aP 19→(G st).heap 19 c=_:=fun st c e=>e ▸ (hG st).2.2.1
    have cn:∀(st:St) (c:Nat),c=st.aP 19→(c<(G st).aP 19)=True:=fun st c e=>e ▸ eq_true (hG st).2.2.2
    have f3:∀st:St,g9<st.aP 30→(G st).heap 30 g9=st.heap 30 g9:=fun st h=>(hG st).2.1.1 30 g9 h
    have c3:∀st:St,g9<st.aP 30→(g9<(G st).aP 30)=True:=fun st h=>eq_true (Nat.lt_of_lt_of_le h ((hG st).2.1.2 30))
    apply Ct ((ol R).length-(k+1))
    ·simp only[ZG,seval,Bool.false_and,Prod.mk.injEq,Jp,hI,bA,q0,er,Bv,Bw,Bx,By,g1,Lm,MW,g2,aCd,kG,f1,cE,bE,bB,hw];rfl
    ·exact⟨k+1,_,_,((some (ol p.1.1++[(⟨⟨p.1.2⟩,r.block,r.tries,0⟩:Request)]),IntKind.u64.wrap (p.1.2+1)),p.2),⟨by simp only[E8,seval,hI,cE],by simp only[E8,seval,hI,bE,bB]<;>rfl,by simp only[E8,seval,hI,cE],by simp only[E8,seval,hI,bE,bB,f2],by simp only[E8,seval,hI,cE],by simp only[E8,seval,hI,cE],by simp only[E8,seval,hI,bB,c1],by simp only[E8,seval,hI,bB,c2]⟩,.inr ⟨_,(ol p.1.1++[(⟨⟨p.1.2⟩,r.block,r.tries,0⟩:Request)]),rfl,rfl,by simp only[E8,seval,bB,cn],by simp only[E8,seval,bE,bB,fn]⟩,.inr ⟨g9,hz,rfl,by simp only[E8,seval,bB,hg9,c3],by simp only[E8,seval,bE,bB,hg9,MW,f3]⟩,hs.symm,by omega,rfl⟩
  ·rcases hY with ⟨rfl,hz⟩|⟨g9,hz,rfl,hg9,MW⟩
   ·have Lm:∀(st:St) (d:Option Nat),st.heap 19 g=some (.row 63 35 L.length (aA L))→aL (aC Tryz.prog) 85 [.agg (aF (Da t (.own 19 g) (.v (.slice none 0 0)) p.1.2)),.agg (aX r.block)] st d=some { dst:=d,val:=.v (.bool (decide (xW v.ns r.block)))}:=fun st d h1=>MV h p.1.1 none p.1.2 K4 (by show ((0:Nat):Int)<_;omega) r.block st d (by rw[hL];exact jJ h1) (show cA st (.v (.slice none 0 0))=some (ov aA none) from pN none)
    have nL:(L.length:Int)<1000000:=by rw[hL] at K4;have:(L.length:Int)<900000:=K4;omega
    obtain⟨G,hG⟩:=Q7 t (.v (.slice none 0 0)) g L p.1.2 nL r.block r.tries
    have kG:∀st:St,st.heap 19 g=some (.row 63 35 L.length (aA L))→g<st.aP 19→_:=fun st a b=>(hG st ⟨a,b⟩).1
    have f1:∀st:St,st.heap 19 g=some (.row 63 35 L.length (aA L))→g<st.aP 19→0<st.aP 1→(G st).heap 1 0=st.heap 1 0:=fun st a b h=>(hG st ⟨a,b⟩).2.1.1 1 0 h
    have f2:∀st:St,st.heap 19 g=some (.row 63 35 L.length (aA L))→g<st.aP 19→0<st.aP 2→(G st).heap 2 0=st.heap 2 0:=fun st a b h=>(hG st ⟨a,b⟩).2.1.1 2 0 h
    have c1:∀st:St,st.heap 19 g=some (.row 63 35 L.length (aA L))→g<st.aP 19→0<st.aP 1→(0<(G st).aP 1)=True:=fun st a b h=>eq_true (Nat.lt_of_lt_of_le h ((hG st ⟨a,b⟩).2.1.2 1))
    have c2:∀st:St,st.heap 19 g=some (.row 63 35 L.length (aA L))→g<st.aP 19→0<st.aP 2→(0<(G st).aP 2)=True:=fun st a b h=>eq_true (Nat.lt_of_lt_of_le h ((hG st ⟨a,b⟩).2.1.2 2))
    have fn:∀(st:St) (c:Nat),st.heap 19 g=some (.row 63 35 L.length (aA L))→g<st.aP 19→c=st.aP 19→(G st).heap 19 c=_:=fun st c a b e=>e ▸ (hG st ⟨a,b⟩).2.2.1
    have cn:∀(st:St) (c:Nat),st.heap 19 g=some (.row 63 35 L.length (aA L))→g<st.aP 19→c=st.aP 19→(c<(G st).aP 19)=True:=fun st c a b e=>e ▸ eq_true (hG st ⟨a,b⟩).2.2.2
    have eL:ol p.1.1=L:=by rw[hL];rfl
    rw[eL] at hs;apply Ct ((ol R).length-(k+1))
    ·simp only[ZG,seval,Bool.false_and,Prod.mk.injEq,Jp,hI,bA,q0,er,Bv,Bw,Bx,By,g1,Lm,hh,hg,g2,aCd,kG,f1,cE,bE,bB,hw];rfl
    ·exact⟨k+1,_,_,((some (L++[(⟨⟨p.1.2⟩,r.block,r.tries,0⟩:Request)]),IntKind.u64.wrap (p.1.2+1)),p.2),⟨by simp only[E8,seval,hI,cE],by simp only[E8,seval,hI,bE,bB]<;>rfl,by simp only[E8,seval,hI,cE],by simp only[E8,seval,hI,hh,hg,bE,bB,f2],by simp only[E8,seval,hI,cE],by simp only[E8,seval,hI,cE],by simp only[E8,seval,hI,hh,hg,bB,c1],by simp only[E8,seval,hI,hh,hg,bB,c2]⟩,.inr ⟨_,(L++[(⟨⟨p.1.2⟩,r.block,r.tries,0⟩:Request)]),rfl,rfl,by simp only[E8,seval,bB,hh,hg,cn],by simp only[E8,seval,bE,bB,hh,hg,fn]⟩,.inl ⟨rfl,hz⟩,hs.symm,by omega,rfl⟩
   ·have Lm:∀(st:St) (d:Option Nat),st.heap 19 g=some (.row 63 35 L.length (aA L))→st.heap 30 g9=some (.row 63 35 p.2.length (aA p.2))→aL (aC Tryz.prog) 85 [.agg (aF (Da t (.own 19 g) (.own 30 g9) p.1.2)),.agg (aX r.block)] st d=some { dst:=d,val:=.v (.bool (decide (xW v.ns r.block)))}:=fun st d h1 h2=>MV h p.1.1 (some p.2) p.1.2 K4 nZ9 r.block st d (by rw[hL];exact jJ h1) (show cA st (.own 30 g9)=some (ov aA (some p.2)) from jJ h2)
    have nL:(L.length:Int)<1000000:=by rw[hL] at K4;have:(L.length:Int)<900000:=K4;omega
    obtain⟨G,hG⟩:=Q7 t (.own 30 g9) g L p.1.2 nL r.block r.tries
    have kG:∀st:St,st.heap 19 g=some (.row 63 35 L.length (aA L))→g<st.aP 19→_:=fun st a b=>(hG st ⟨a,b⟩).1
    have f1:∀st:St,st.heap 19 g=some (.row 63 35 L.length (aA L))→g<st.aP 19→0<st.aP 1→(G st).heap 1 0=st.heap 1 0:=fun st a b h=>(hG st ⟨a,b⟩).2.1.1 1 0 h
    have f2:∀st:St,st.heap 19 g=some (.row 63 35 L.length (aA L))→g<st.aP 19→0<st.aP 2→(G st).heap 2 0=st.heap 2 0:=fun st a b h=>(hG st ⟨a,b⟩).2.1.1 2 0 h
    have c1:∀st:St,st.heap 19 g=some (.row 63 35 L.length (aA L))→g<st.aP 19→0<st.aP 1→(0<(G st).aP 1)=True:=fun st a b h=>eq_true (Nat.lt_of_lt_of_le h ((hG st ⟨a,b⟩).2.1.2 1))
    have c2:∀st:St,st.heap 19 g=some (.row 63 35 L.length (aA L))→g<st.aP 19→0<st.aP 2→(0<(G st).aP 2)=True:=fun st a b h=>eq_true (Nat.lt_of_lt_of_le h ((hG st ⟨a,b⟩).2.1.2 2))
    have fn:∀(st:St) (c:Nat),st.heap 19 g=some (.row 63 35 L.length (aA L))→g<st.aP 19→c=st.aP 19→(G st).heap 19 c=_:=fun st c a b e=>e ▸ (hG st ⟨a,b⟩).2.2.1
    have cn:∀(st:St) (c:Nat),st.heap 19 g=some (.row 63 35 L.length (aA L))→g<st.aP 19→c=st.aP 19→(c<(G st).aP 19)=True:=fun st c a b e=>e ▸ eq_true (hG st ⟨a,b⟩).2.2.2
    have f3:∀st:St,st.heap 19 g=some (.row 63 35 L.length (aA L))→g<st.aP 19→g9<st.aP 30→(G st).heap 30 g9=st.heap 30 g9:=fun st a b h=>(hG st ⟨a,b⟩).2.1.1 30 g9 h
    have c3:∀st:St,st.heap 19 g=some (.row 63 35 L.length (aA L))→g<st.aP 19→g9<st.aP 30→(g9<(G st).aP 30)=True:=fun st a b h=>eq_true (Nat.lt_of_lt_of_le h ((hG st ⟨a,b⟩).2.1.2 30))
    have eL:ol p.1.1=L:=by rw[hL];rfl
    rw[eL] at hs;apply Ct ((ol R).length-(k+1))
    ·simp only[ZG,seval,Bool.false_and,Prod.mk.injEq,Jp,hI,bA,q0,er,Bv,Bw,Bx,By,g1,Lm,hh,MW,hg,g2,aCd,kG,f1,cE,bE,bB,hw];rfl
    ·exact⟨k+1,_,_,((some (L++[(⟨⟨p.1.2⟩,r.block,r.tries,0⟩:Request)]),IntKind.u64.wrap (p.1.2+1)),p.2),⟨by simp only[E8,seval,hI,cE],by simp only[E8,seval,hI,bE,bB]<;>rfl,by simp only[E8,seval,hI,cE],by simp only[E8,seval,hI,hh,hg,bE,bB,f2],by simp only[E8,seval,hI,cE],by simp only[E8,seval,hI,cE],by simp only[E8,seval,hI,hh,hg,bB,c1],by simp only[E8,seval,hI,hh,hg,bB,c2]⟩,.inr ⟨_,(L++[(⟨⟨p.1.2⟩,r.block,r.tries,0⟩:Request)]),rfl,rfl,by simp only[E8,seval,bB,hh,hg,cn],by simp only[E8,seval,bE,bB,hh,hg,fn]⟩,.inr ⟨g9,hz,rfl,by simp only[E8,seval,bB,hg9,hh,hg,c3],by simp only[E8,seval,bE,bB,hg9,MW,hh,hg,f3]⟩,hs.symm,by omega,rfl⟩
 case start=>exact⟨0,ov aA Q,.v (.slice none 0 0),((Q,t.cT),[]),⟨by simp only[E8,seval],by simp only[E8,seval,h.Ai]<;>rfl,by simp only[E8,seval],by simp only[E8,seval],by simp only[E8,seval],by simp only[E8,seval]<;>rfl,by simp only[E8,seval]<;>omega,by simp only[E8,seval]<;>omega⟩,.inl rfl,.inl ⟨rfl,rfl⟩,rfl,by omega,by omega⟩
 case rest =>
  rintro e st ⟨rfl,X,Y,p,hI,hX,hY,hp⟩
  have hv:aCe t v.ns Q R=Da t (ov aA p.1.1) (ov aA (nz p.2)) p.1.2:=by unfold aCe;rw[← hp]
  have hex:∀st:St,∀X' Y',cA st X=some X'→cA st Y=some Y'→fK st (.agg (aF (Da t X Y p.1.2)))=some (.agg (aF (Da t X' Y' p.1.2))):=fun st X' Y' hx hy=>YS h st hx hy p.1.2
  rcases hX with rfl|⟨g,L,hL,rfl,hh⟩
  ·rcases hY with ⟨rfl,hz⟩|⟨g9,hz,rfl,MW⟩
   ·rw[hz,show nz ([]:List Request)=none from if_pos rfl] at hv
    simp only[ZG,seval,Bool.false_and,Prod.mk.injEq,Jp,hI];exact⟨_,eH rfl (by simp only[E8,seval,hI]<;>rfl) (by simp only[ZG,seval,hI]<;>rfl) (hex _ _ _ (pN _) (pN none)),by rw[hv]⟩
   ·rw[show nz p.2=some p.2 from if_neg hz] at hv;simp only[ZG,seval,Bool.false_and,Prod.mk.injEq,Jp,hI,MW];exact⟨_,eH rfl (by simp only[E8,seval,hI]<;>rfl) (by simp only[ZG,seval,hI]<;>rfl) (hex _ _ _ (pN _) (jJ (by simp only[E8,seval,MW]<;>rfl))),by rw[hv]⟩
  ·rcases hY with ⟨rfl,hz⟩|⟨g9,hz,rfl,MW⟩
   ·rw[hz,show nz ([]:List Request)=none from if_pos rfl,hL] at hv
    simp only[ZG,seval,Bool.false_and,Prod.mk.injEq,Jp,hI,hh];exact⟨_,eH rfl (by simp only[E8,seval,hI]<;>rfl) (by simp only[ZG,seval,hI]<;>rfl) (hex _ _ _ (jJ (by simp only[E8,seval,hh]<;>rfl)) (pN none)),by rw[hv]⟩
   ·rw[show nz p.2=some p.2 from if_neg hz,hL] at hv;simp only[ZG,seval,Bool.false_and,Prod.mk.injEq,Jp,hI,hh,MW];exact⟨_,eH rfl (by simp only[E8,seval,hI]<;>rfl) (by simp only[ZG,seval,hI]<;>rfl) (hex _ _ _ (jJ (by simp only[E8,seval,hh]<;>rfl)) (jJ (by simp only[E8,seval,MW]<;>rfl))),by rw[hv]⟩
theorem aGd (x:Int):IntKind.i64.wrap x≤9223372036854775807:=by
 rw[IntKind.wrap_i64];omega
def wO (a b:Request):Prop:=a.due<b.due∨(a.due=b.due∧a.tagged.tag<b.tagged.tag)
noncomputable def Bz:Nat→List Request→List Request
 | 0,l=>l
 | k+1,l=>if wO (gx bN l ((k+1:Nat):Int)) (gx bN l (k:Int)) then Bz k ((l.set (k+1) (gx bN l (k:Int))).set k (gx bN l ((k+1:Nat):Int))) else l
theorem MX:∀(k:Nat) (l:List Request),(Bz k l).length=l.length
 | 0,l=>rfl
 | k+1,l=>by
   unfold Bz;split
   ·rw[MX k,List.length_set,List.length_set]
   ·rfl
noncomputable def MY (t:State) (r:Request):Request:={ r with tries:=IntKind.i64.wrap (r.tries+1),due:=IntKind.u64.wrap (t.store.now+UF (IntKind.i64.wrap (r.tries+1)) t.store.cFg.mH.rI)}
noncomputable def B0 (t:State) (ns:List Node) (R:List Request) (r:Request):State :=
 if ¬xW ns r.block then t else if t.store.cFg.mH.oI≤(R.length:Int) then { t with overflow:=true } else { t with kH:=ov aA (some (Bz R.length (R++[MY t r])))}
theorem c72 {t:State} {v:SV} {Q R:Option (List Request)} (h:TD t v Q R) (r:Request):aC Tryz.prog 72 [.agg (aF t),.agg (bL r)]=some (.agg (aF (B0 t v.ns (ol R) r))):=by
 have hf:=h.flat
 have iX:=h.fl
 have nR:=h.nR
 have nR1:((ol R).length:Int)<1000000:=by omega
 have A7:=k85 h r.block
 have fr:Flat (.agg (bL r)):=.agg _ (fQ r)
 rw[cL Tryz.func72 rfl aQz rfl];refine jG ?_
 by_cases g1:xW v.ns r.block
 case neg =>
  simp only[Z8,seval,A7,g1];exact⟨_,fL rfl (by simp only[E8,seval,hf]<;>rfl) (by simp only[Z8,seval,hf]<;>rfl) (by simp only[dW,and_self,hf]),by rw[B0,if_pos g1]⟩
 by_cases g2:t.store.cFg.mH.oI≤((ol R).length:Int)
 ·have hf2:Flat (.agg (aF { t with overflow:=true })):=(mN _).2 iX
  simp only[Z8,seval,A7,g1,h.ret,g2];exact⟨_,fL rfl (by simp only[E8,seval,iX]<;>rfl) (by simp only[Z8,seval,iX]<;>rfl) (by simp only[dW,and_self,iX]),by rw[B0,if_neg (fun hh=>hh g1),if_pos g2,← h.ret]⟩
 have hv:B0 t v.ns (ol R) r=_:=(if_neg (fun hh=>hh g1)).trans (if_neg g2)
 rw[hv];have k143':=aQi (IntKind.i64.wrap (r.tries+1)) t.store.cFg.mH.rI (aGd _)
 obtain⟨L0,hL0⟩:∃L0,ol R++[MY t r]=L0:=⟨_,rfl⟩
 have hlL:L0.length=(ol R).length+1:=by rw[← hL0,List.length_append,List.length_cons,List.length_nil]
 have hL0':ol R++[({ tagged:=r.tagged,block:=r.block,tries:=IntKind.i64.wrap (r.tries+1),due:=IntKind.u64.wrap (t.store.now+UF (IntKind.i64.wrap (r.tries+1)) t.store.cFg.mH.rI)}:Request)]=L0:=hL0
 rw[hL0];have w1:IntKind.i64.wrap ((L0.length:Int)-1)=((ol R).length:Int):=by rw[pR _ (by omega) (by omega)];omega
 simp only[Z8,seval,A7,g1,h.ret,g2,k143',pJ,pK,qV _ nR1,tF _ _ _ _ nR1,hL0',w1];refine cM (fun m st=>∃(k:Nat) (l:List Request),(st.env 2=.ptr 2 0 0∧st.heap 2 0=some (.cells (aF t))∧st.env 4=.ptr 4 0 0∧st.heap 4 0=some (.cells (aF jR))∧st.env 5=.own 46 0∧st.heap 46 0=some (.row 63 35 l.length (aA l))∧st.env 6=.v (.int .i64 k))∧Bz k l=Bz (ol R).length L0∧l.length=L0.length∧k≤(ol R).length∧m=k)
  (fun e st=>e=.exit 0∧∃(l:List Request),(st.env 2=.ptr 2 0 0∧st.heap 2 0=some (.cells (aF t))∧st.env 4=.ptr 4 0 0∧st.heap 4 0=some (.cells (aF jR))∧st.env 5=.own 46 0∧st.heap 46 0=some (.row 63 35 l.length (aA l)))∧l=Bz (ol R).length L0) (ol R).length ?step ?start ?rest
 case step =>
  rintro m st ⟨k,l,hI,hb,hl,hk,hm⟩
  cases k with
  | zero =>
    have z0:¬((0:Int)<((0:Nat):Int)):=by omega
    have hI':=hI
    apply oT (.exit 0)
    ·simp only[Z8,seval,hI,Int.lt_irrefl,pJ,pK];rfl
    ·exact⟨rfl,l,by simp only[E8,seval,hI],by rw[← hb];rfl⟩
  | succ j =>
    obtain⟨i,hi⟩:∃i:Int,i=((j+1:Nat):Int):=⟨_,rfl⟩
    obtain⟨i',Cl⟩:∃i':Int,i'=(j:Int):=⟨_,rfl⟩
    rw[← hi] at hI;have p0:(0:Int)<i:=by omega
    have p1:(0:Int)≤i:=by omega
    have p2:i<(l.length:Int):=by omega
    have q1:(0:Int)≤i':=by omega
    have q2:i'<(l.length:Int):=by omega
    have hw:IntKind.i64.wrap (i-1)=i':=by rw[pR _ (by omega) (by omega)];omega
    have ti:i.toNat=j+1:=by omega
    have ti':i'.toNat=j:=by omega
    obtain⟨a,ea⟩:∃a,gx bN l i=a:=⟨_,rfl⟩
    obtain⟨b,eb⟩:∃b,gx bN l i'=b:=⟨_,rfl⟩
    have d1:=Es (T:=23) (n:=l.length) (k:=1) (off:=34) p1 p2 TK (by decide) (by decide)
    have d2:=Es (T:=23) (n:=l.length) (k:=1) (off:=34) q1 q2 TK (by decide) (by decide)
    have d3:=vQ (T:=23) (n:=l.length) (k:=1) p1 p2 TK (by decide) (by decide)
    have d4:=vQ (T:=23) (n:=l.length) (k:=1) q1 q2 TK (by decide) (by decide)
    have d5:=vQ (T:=63) (n:=l.length) (k:=35) p1 p2 aCf (by decide) (by decide)
    have d6:=vQ (T:=63) (n:=l.length) (k:=35) q1 q2 aCf (by decide) (by decide)
    rw[ea] at d1 d3 d5;rw[eb] at d2 d4 d6;have aCg:∀P:Prop,(wO a b↔P)→Bz (j+1) l=if P then Bz j ((l.set (j+1) b).set j a) else l:=fun P hP=>by
     have e1:gx bN l ((j+1:Nat):Int)=a:=by rw[← hi];exact ea
     have e2:gx bN l (j:Int)=b:=by rw[← Cl];exact eb
     have e0:Bz (j+1) l=if wO (gx bN l ((j+1:Nat):Int)) (gx bN l (j:Int)) then Bz j ((l.set (j+1) (gx bN l (j:Int))).set j (gx bN l ((j+1:Nat):Int))) else l:=rfl
     rw[e0,e1,e2];by_cases hh:wO a b
     ·rw[if_pos hh,if_pos (hP.1 hh)]
     ·rw[if_neg hh,if_neg (fun x=>hh (hP.2 x))]
    have x3:i.toNat * 35+35≤l.length * 35:=by omega
    have x4:i'.toNat * 35+35≤(l.set i.toNat b).length * 35:=by rw[List.length_set];omega
    have x4':i'.toNat * 35+35≤l.length * 35:=by omega
    have u1:=Ln l i b (by omega)
    have u2:=Ln (l.set i.toNat b) i' a (by rw[List.length_set];omega)
    have swp:(l.set i.toNat b).set i'.toNat a=(l.set (j+1) b).set j a:=by rw[ti,ti']
    by_cases g3:a.due<b.due
    ·have oC:=aCg True (iff_of_true (.inl g3) trivial)
     rw[if_pos trivial] at oC
     apply oN (j)
     ·simp only[Z8,seval,hI,p0,p1,p2,q1,q2,hw,d1,d2,d3,d4,d5,d6,g3,x3,x4,x4',u1,u2,List.length_set,pJ,pK];rfl
     ·exact⟨j,(l.set i.toNat b).set i'.toNat a,⟨by simp only[E8,seval,hI],by simp only[E8,seval,hI],by simp only[E8,seval,hI],by simp only[E8,seval,hI],by simp only[E8,seval,hI],by rw[List.length_set,List.length_set];simp only[E8,seval,List.length_set]<;>rfl,by simp only[E8,seval,Cl]⟩,by rw[swp,← oC];exact hb,by rw[List.length_set,List.length_set];exact hl,by omega,rfl⟩
    by_cases g4:a.due=b.due
    case neg =>
     have oC:=aCg False (iff_of_false (fun x=>x.elim g3 fun y=>g4 y.1) id)
     rw[if_neg id] at oC
     apply oT (.exit 0)
     ·simp only[Z8,seval,hI,p0,p1,p2,q1,q2,hw,d1,d2,d3,d4,d5,d6,g3,bf g4,pJ,pK];rfl
     ·exact⟨rfl,l,by simp only[E8,seval,hI],by rw[← hb,oC]⟩
    by_cases g5:a.tagged.tag<b.tagged.tag
    ·have oC:=aCg True (iff_of_true (.inr ⟨g4,g5⟩) trivial)
     rw[if_pos trivial] at oC
     apply oN (j)
     ·simp only[Z8,seval,hI,p0,p1,p2,q1,q2,hw,d1,d2,d3,d4,d5,d6,g3,bt g4,g5,x3,x4,x4',u1,u2,List.length_set,pJ,pK];rfl
     ·exact⟨j,(l.set i.toNat b).set i'.toNat a,⟨by simp only[E8,seval,hI],by simp only[E8,seval,hI],by simp only[E8,seval,hI],by simp only[E8,seval,hI],by simp only[E8,seval,hI],by rw[List.length_set,List.length_set];simp only[E8,seval,List.length_set]<;>rfl,by simp only[E8,seval,Cl]⟩,by rw[swp,← oC];exact hb,by rw[List.length_set,List.length_set];exact hl,by omega,rfl⟩
    ·have oC:=aCg False (iff_of_false (fun x=>x.elim g3 fun y=>g5 y.2) id)
     rw[if_neg id] at oC
     apply oT (.exit 0)
     ·simp only[Z8,seval,hI,p0,p1,p2,q1,q2,hw,d1,d2,d3,d4,d5,d6,g3,bt g4,g5,pJ,pK];rfl
     ·exact⟨rfl,l,by simp only[E8,seval,hI],by rw[← hb,oC]⟩
 case start=>exact⟨(ol R).length,L0,by simp only[E8,seval]<;>rfl,rfl,rfl,by omega,rfl⟩
 case rest =>
  rintro e st ⟨rfl,l,hI,hl⟩
  have hex:=pF l.length l
  subst hl;simp only[Z8,seval,hI];exact⟨_,by apply eH;rfl;all_goals simp only[aI,Z8,seval,hI,hex,iX,bR,vO,gK,bG,cO,pF,dW]<;>rfl,rfl⟩
theorem aQA {t:State} {v:SV} {Q R:Option (List Request)} {q:Int} (hT:TD t v Q R) (h:GI t.store v q) (r:RG t.store v) (hB:0<(ol v.B).length∧(ol v.B).length≤64) (hq:∀r∈ol Q,Rg r.tagged.tag) (n k:Int) (hk:0≤k) :
 ∃x,aC Tryz.prog 146 [.agg (aF t),.v (.int .i64 n),.v (.int .i64 k)]=some x∧∃y:wZ,x=.agg (lC y)∧pE y∧(y.kind=2→y.block.root=mkRoot n∨∃m∈v.ns,y.block.root=m.block.root):=by
 have z:=zOk
 have hm:=Ar hk (min 4 IntKind.i64.bits)
 have hf:=hT.flat
 have XT:=h.sd.flat
 obtain⟨x1,e1,b,rfl,rb⟩:=x50 h r n (k.fdiv (2 ^ min 4 IntKind.i64.bits)) hm
 obtain⟨x2,e2,a,V,rfl,hV,nV,ra1,ra2⟩:=x37 h r hB (k.fdiv (2 ^ min 4 IntKind.i64.bits)) hm
 obtain⟨x3,e3,sl,rfl,c1,c2,s1,s2,s3,s4⟩:=aP5 (ol v.B).length (k.fdiv (2 ^ min 4 IntKind.i64.bits)) (by omega) (by omega)
 obtain⟨x4,e4,tb,bl,rfl,hb,nb,rbl,rt⟩:=aP6 h r hB (k.fdiv (2 ^ min 4 IntKind.i64.bits)) hm
 obtain⟨x5,e5,w,rfl,rw5⟩:=x25 hT h hq (k.fdiv (2 ^ min 4 IntKind.i64.bits)) hm
 have fA:Flat a.eY:=by rw[hV];exact bS _
 have fT:Flat tb.jN:=by rw[hb];exact dR _
 have k50:=kx e1 (nD XT (.v _) (.v _)) (uT b)
 have k37:=kx e2 (bH XT (.v _)) ((zC a).2 fA)
 have k182:=kx e3 (bH (.v _) (.v _)) ((nG sl).2 ⟨(zD _).1 c1.fl,(zD _).1 c2.fl⟩)
 have k183:=kx e4 (bH XT (.v _)) ((kK tb).2 fT)
 have k25:=kx e5 (bH hf (.v _)) (.agg _ (gN w))
 have y1:pE { zK with kind:=1 }:=⟨z.Ge,z.c1,z.c2,z.UC,z.rb,z.ra,z.rs,z.rt,z.rv⟩
 have y2:pE { zK with kind:=2,block:=b }:=⟨z.Ge,z.c1,z.c2,z.UC,rb.toRB,z.ra,z.rs,z.rt,z.rv⟩
 have y3:pE { zK with kind:=3,Ge:=a }:=⟨⟨some V,hV,nV⟩,z.c1,z.c2,z.UC,z.rb,⟨ra1,ra2⟩,z.rs,z.rt,z.rv⟩
 have y4:pE { zK with kind:=4,oU:=sl }:=⟨z.Ge,c1,c2,z.UC,z.rb,z.ra,⟨s1,s2,s3,s4⟩,z.rt,z.rv⟩
 have y5:pE { zK with kind:=5,table:=tb }:=⟨z.Ge,z.c1,z.c2,⟨some bl,hb,nb,rbl⟩,z.rb,z.ra,z.rs,rt,z.rv⟩
 have y6:pE { zK with kind:=6,verdict:=w }:=⟨z.Ge,z.c1,z.c2,z.UC,z.rb,z.ra,z.rs,z.rt,rw5⟩
 rw[cL Tryz.func146 rfl aLL rfl];by_cases c0:((k).tmod 16)=0
 ·simp only[Z8,seval,bt c0];exact⟨_,fL rfl (by simp only[E8,seval]<;>rfl) (by simp only[Z8,seval]<;>rfl) y1.flat,_,rfl,y1,fun h=>absurd (show (1:Int)=2 from h) (by decide)⟩
 by_cases c1:((k).tmod 16)=1
 ·simp only[Z8,seval,bf c0,bt c1];exact⟨_,fL rfl (by simp only[E8,seval]<;>rfl) (by simp only[Z8,seval]<;>rfl) y1.flat,_,rfl,y1,fun h=>absurd (show (1:Int)=2 from h) (by decide)⟩
 by_cases c2:((k).tmod 16)=2
 ·simp only[Z8,seval,bf c0,bf c1,bt c2];exact⟨_,fL rfl (by simp only[E8,seval]<;>rfl) (by simp only[Z8,seval]<;>rfl) y1.flat,_,rfl,y1,fun h=>absurd (show (1:Int)=2 from h) (by decide)⟩
 by_cases c3:((k).tmod 16)=3
 ·simp only[Z8,seval,bf c0,bf c1,bf c2,bt c3,k50];exact⟨_,fL rfl (by simp only[E8,seval]<;>rfl) (by simp only[Z8,seval]<;>rfl) y2.flat,_,rfl,y2,fun _=>rb.rt⟩
 by_cases c4:((k).tmod 16)=4
 ·simp only[Z8,seval,bf c0,bf c1,bf c2,bf c3,bt c4,k50];exact⟨_,fL rfl (by simp only[E8,seval]<;>rfl) (by simp only[Z8,seval]<;>rfl) y2.flat,_,rfl,y2,fun _=>rb.rt⟩
 by_cases c5:((k).tmod 16)=5
 ·simp only[Z8,seval,bf c0,bf c1,bf c2,bf c3,bf c4,bt c5,k50];exact⟨_,fL rfl (by simp only[E8,seval]<;>rfl) (by simp only[Z8,seval]<;>rfl) y2.flat,_,rfl,y2,fun _=>rb.rt⟩
 by_cases c6:((k).tmod 16)=6
 ·simp only[Z8,seval,bf c0,bf c1,bf c2,bf c3,bf c4,bf c5,bt c6,k50];exact⟨_,fL rfl (by simp only[E8,seval]<;>rfl) (by simp only[Z8,seval]<;>rfl) y2.flat,_,rfl,y2,fun _=>rb.rt⟩
 by_cases c7:((k).tmod 16)=7
 ·simp only[Z8,seval,bf c0,bf c1,bf c2,bf c3,bf c4,bf c5,bf c6,bt c7,k50];exact⟨_,fL rfl (by simp only[E8,seval]<;>rfl) (by simp only[Z8,seval]<;>rfl) y2.flat,_,rfl,y2,fun _=>rb.rt⟩
 by_cases c8:((k).tmod 16)=8
 ·simp only[Z8,seval,bf c0,bf c1,bf c2,bf c3,bf c4,bf c5,bf c6,bf c7,bt c8,k37];exact⟨_,fL rfl (by simp only[E8,seval]<;>rfl) (by simp only[Z8,seval]<;>rfl) y3.flat,_,rfl,y3,fun h=>absurd (show (3:Int)=2 from h) (by decide)⟩
 by_cases c9:((k).tmod 16)=9
 ·simp only[Z8,seval,bf c0,bf c1,bf c2,bf c3,bf c4,bf c5,bf c6,bf c7,bf c8,bt c9,k37];exact⟨_,fL rfl (by simp only[E8,seval]<;>rfl) (by simp only[Z8,seval]<;>rfl) y3.flat,_,rfl,y3,fun h=>absurd (show (3:Int)=2 from h) (by decide)⟩
 by_cases c10:((k).tmod 16)=10
 ·simp only[Z8,seval,bf c0,bf c1,bf c2,bf c3,bf c4,bf c5,bf c6,bf c7,bf c8,bf c9,bt c10,k37];exact⟨_,fL rfl (by simp only[E8,seval]<;>rfl) (by simp only[Z8,seval]<;>rfl) y3.flat,_,rfl,y3,fun h=>absurd (show (3:Int)=2 from h) (by decide)⟩
 by_cases c11:((k).tmod 16)=11
 ·simp only[Z8,seval,bf c0,bf c1,bf c2,bf c3,bf c4,bf c5,bf c6,bf c7,bf c8,bf c9,bf c10,bt c11,h.sd.jN,k182];exact⟨_,fL rfl (by simp only[E8,seval]<;>rfl) (by simp only[Z8,seval]<;>rfl) y4.flat,_,rfl,y4,fun h=>absurd (show (4:Int)=2 from h) (by decide)⟩
 by_cases c12:((k).tmod 16)=12
 ·simp only[Z8,seval,bf c0,bf c1,bf c2,bf c3,bf c4,bf c5,bf c6,bf c7,bf c8,bf c9,bf c10,bf c11,bt c12,k183];exact⟨_,fL rfl (by simp only[E8,seval]<;>rfl) (by simp only[Z8,seval]<;>rfl) y5.flat,_,rfl,y5,fun h=>absurd (show (5:Int)=2 from h) (by decide)⟩
 simp only[Z8,seval,bf c0,bf c1,bf c2,bf c3,bf c4,bf c5,bf c6,bf c7,bf c8,bf c9,bf c10,bf c11,bf c12,k25];exact⟨_,fL rfl (by simp only[E8,seval]<;>rfl) (by simp only[Z8,seval]<;>rfl) y6.flat,_,rfl,y6,fun h=>absurd (show (6:Int)=2 from h) (by decide)⟩
theorem aLM (l:List Int) (hl:(l.length:Int)≤9223372036854775807):∃x,aC Tryz.prog 101 [.sl l.length (aJ l)]=some x∧∃(c:Config) (b:List Int),x=.agg (bU c)∧Nw c b:=by
 have k0:=Nc l hl 0 (by omega) (by omega)
 obtain⟨a0,b0⟩:=eG (n:=8) (Nb l hl 0 (by omega) (by omega)).2.1 (by omega)
 obtain⟨x0,h0⟩:∃x,(FM l 0).tmod 8=x:=⟨_,rfl⟩
 rw[h0] at a0 b0;have k1:=Nc l hl 1 (by omega) (by omega)
 obtain⟨a1,b1⟩:=eG (n:=4) (Nb l hl 1 (by omega) (by omega)).2.1 (by omega)
 obtain⟨x1,h1⟩:∃x,(FM l 1).tmod 4=x:=⟨_,rfl⟩
 rw[h1] at a1 b1;have k2:=Nc l hl 2 (by omega) (by omega)
 obtain⟨a2,b2⟩:=eG (n:=4) (Nb l hl 2 (by omega) (by omega)).2.1 (by omega)
 obtain⟨x2,h2⟩:∃x,(FM l 2).tmod 4=x:=⟨_,rfl⟩
 rw[h2] at a2 b2;have k3:=Nc l hl 3 (by omega) (by omega)
 obtain⟨a3,b3⟩:=eG (n:=4) (Nb l hl 3 (by omega) (by omega)).2.1 (by omega)
 obtain⟨x3,h3⟩:∃x,(FM l 3).tmod 4=x:=⟨_,rfl⟩
 rw[h3] at a3 b3;have k4:=Nc l hl 4 (by omega) (by omega)
 obtain⟨a4,b4⟩:=eG (n:=4) (Nb l hl 4 (by omega) (by omega)).2.1 (by omega)
 obtain⟨x4,h4⟩:∃x,(FM l 4).tmod 4=x:=⟨_,rfl⟩
 rw[h4] at a4 b4;have k5:=Nc l hl 5 (by omega) (by omega)
 obtain⟨a5,b5⟩:=eG (n:=5) (Nb l hl 5 (by omega) (by omega)).2.1 (by omega)
 obtain⟨x5,h5⟩:∃x,(FM l 5).tmod 5=x:=⟨_,rfl⟩
 rw[h5] at a5 b5;have k6:=Nc l hl 6 (by omega) (by omega)
 obtain⟨a6,b6⟩:=eG (n:=4) (Nb l hl 6 (by omega) (by omega)).2.1 (by omega)
 obtain⟨x6,h6⟩:∃x,(FM l 6).tmod 4=x:=⟨_,rfl⟩
 rw[h6] at a6 b6;have k7:=Nc l hl 7 (by omega) (by omega)
 obtain⟨a7,b7⟩:=eG (n:=3) (Nb l hl 7 (by omega) (by omega)).2.1 (by omega)
 obtain⟨x7,h7⟩:∃x,(FM l 7).tmod 3=x:=⟨_,rfl⟩
 rw[h7] at a7 b7;have k8:=Nc l hl 8 (by omega) (by omega)
 obtain⟨a8,b8⟩:=eG (n:=2) (Nb l hl 8 (by omega) (by omega)).2.1 (by omega)
 obtain⟨x8,h8⟩:∃x,(FM l 8).tmod 2=x:=⟨_,rfl⟩
 rw[h8] at a8 b8;have k9:=Nc l hl 9 (by omega) (by omega)
 obtain⟨a9,b9⟩:=eG (n:=5) (Nb l hl 9 (by omega) (by omega)).2.1 (by omega)
 obtain⟨x9,h9⟩:∃x,(FM l 9).tmod 5=x:=⟨_,rfl⟩
 rw[h9] at a9 b9;have w0:IntKind.i64.wrap (6+x0)=6+x0:=pR _ (by omega) (by omega)
 have w3:IntKind.i64.wrap (1+x3)=1+x3:=pR _ (by omega) (by omega)
 have w5:IntKind.i64.wrap (1+x5)=1+x5:=pR _ (by omega) (by omega)
 have w5':IntKind.u64.wrap (1+x5)=1+x5:=wrap_u64 _ (by omega) (by omega)
 have w6:IntKind.i64.wrap (1+x6)=1+x6:=pR _ (by omega) (by omega)
 have w6':IntKind.u64.wrap (1+x6)=1+x6:=wrap_u64 _ (by omega) (by omega)
 have w9:IntKind.i64.wrap (2+x9)=2+x9:=pR _ (by omega) (by omega)
 have g7:=pD (l:=[0,40,100]) a7 (by show x7<((3:Nat):Int);omega)
 obtain⟨bp,hbp⟩:∃y,it [0,40,100] x7=y:=⟨_,rfl⟩
 have hbp1:0≤bp∧bp≤100:=by
  rcases (by omega:x7=0∨x7=1∨x7=2) with e|e|e<;>(rw[e] at hbp;rw[← hbp];decide)
 have w7:IntKind.u64.wrap bp=bp:=wrap_u64 _ (by omega) (by omega)
 rw[cL Tryz.func101 rfl aLN rfl];simp only[Z8,seval,pJ,pK,k0,k1,k2,k3,k4,k5,k6,k7,k8,h0,h1,h2,h3,h4,h5,h6,h7,h8,w0,w3,w5,w5',w6,w6',a7,b7,g7,hbp,w7,qU,Nat.reduceLT,Qj];have n9:(2+x9).toNat≤6:=by omega
 refine cM (fun m st=>∃(j:Nat) (mH:lT) (sp bq:Int) (tt:qR) (X:AV) (b:List Int),(st.env 0=.sl l.length (aJ l)∧st.env 2=.ptr 2 0 0∧st.heap 2 0=some (.cells (bU nJ))∧st.env 3=.ptr 3 0 0∧st.heap 3 0=some (.cells (bU ⟨mH,sp,bq,tt,mkRoot 1,X⟩))∧st.env 4=.v (.int .i64 j))∧(mH=⟨6+x0,x1,x2,1+x3,x4,1+x5⟩∧sp=1+x6∧bq=bp)∧((X=.v (.slice none 0 0)∧b=[])∨∃g,X=.own 64 g∧g<st.aP 64∧st.heap 64 g=some (.row 23 1 b.length (bD b)))∧(∀y∈b,0≤y∧y≤1000)∧b.length=j∧j≤(2+x9).toNat∧m=(2+x9).toNat-j)
  (fun e st=>e=.exit 0∧∃(mH:lT) (sp bq:Int) (tt:qR) (g:Nat) (b:List Int),(st.env 2=.ptr 2 0 0∧st.heap 2 0=some (.cells (bU nJ))∧st.env 3=.ptr 3 0 0∧st.heap 3 0=some (.cells (bU ⟨mH,sp,bq,tt,mkRoot 1,.own 64 g⟩))∧st.heap 64 g=some (.row 23 1 b.length (bD b)))∧(mH=⟨6+x0,x1,x2,1+x3,x4,1+x5⟩∧sp=1+x6∧bq=bp)∧(∀y∈b,0≤y∧y≤1000)∧1≤b.length∧b.length≤6) (2+x9).toNat ?step ?start ?rest
 case step =>
  rintro m st ⟨j,mH,sp,bq,tt,X,b,hI,hC,hX,hb,hj,hjn,hm⟩
  by_cases bA:(j:Int)<2+x9
  ·have q0:(0:Int)≤j:=by omega
   have hw:IntKind.i64.wrap ((j:Int)+1)=((j+1:Nat):Int):=by rw[pR _ (by omega) (by omega)];omega
   obtain⟨jj,hjj⟩:∃jj:Int,jj=10+(j:Int):=⟨_,rfl⟩
   have M6:IntKind.i64.wrap (10+(j:Int))=jj:=by rw[pR _ (by omega) (by omega),hjj]
   have kj:=Nc l hl jj (by omega) (by omega)
   obtain⟨aj,bj⟩:=eG (n:=40) (Nb l hl jj (by omega) (by omega)).2.1 (by omega)
   obtain⟨y,hy⟩:∃y,(FM l jj).tmod 40=y:=⟨_,rfl⟩
   rw[hy] at aj bj;have wy:IntKind.u64.wrap y=y:=wrap_u64 _ (by omega) (by omega)
   have nL:(b.length:Int)<1000000:=by omega
   have AR:∀z∈b++[y],0≤z∧z≤1000:=fun z hz=>(List.mem_append.1 hz).elim (hb z) fun e=>by rw[List.mem_singleton] at e;rw[e];omega
   have Qd:(b++[y]).length=j+1:=by rw[List.length_append,List.length_cons,List.length_nil];omega
   rcases hX with ⟨rfl,rfl⟩|⟨g,rfl,hg,hh⟩
   ·apply oN ((2+x9).toNat-(j+1))
    ·simp only[Z8,seval,hI,k9,h9,w9,bA,M6,kj,hy,wy,hw];rfl
    ·exact⟨j+1,_,_,_,_,_,[]++[y],⟨by simp only[E8,seval,hI],by simp only[E8,seval,hI],by simp only[E8,seval,hI],by simp only[E8,seval,hI],by simp only[E8,seval,hI]<;>rfl,by simp only[E8,seval]⟩,hC,.inr ⟨_,rfl,by simp only[E8,seval]<;>omega,by simp only[E8,seval]<;>rfl⟩,AR,Qd,by omega,rfl⟩
   ·have vL:(g=st.aP 64)=False:=eq_false (by omega)
    apply oN ((2+x9).toNat-(j+1))
    ·simp only[Z8,seval,hI,hh,vL,k9,h9,w9,bA,M6,kj,hy,wy,hw,xV _ _ _ _ nL];rfl
    ·exact⟨j+1,_,_,_,_,_,b++[y],⟨by simp only[E8,seval,hI],by simp only[E8,seval,hI],by simp only[E8,seval,hI],by simp only[E8,seval,hI],by simp only[E8,seval,hI]<;>rfl,by simp only[E8,seval]⟩,hC,.inr ⟨_,rfl,by simp only[E8,seval]<;>omega,by simp only[E8,seval]<;>rfl⟩,AR,Qd,by omega,rfl⟩
  ·rcases hX with ⟨rfl,rfl⟩|⟨g,rfl,hg,hh⟩
   ·simp at hj;omega
   ·apply oT (.exit 0)
    ·simp only[Z8,seval,hI,k9,h9,w9,bA];rfl
    ·exact⟨rfl,_,_,_,_,g,b,⟨by simp only[E8,seval,hI],by simp only[E8,seval,hI],by simp only[E8,seval,hI],by simp only[E8,seval,hI]<;>rfl,by simp only[E8,seval,hh]⟩,hC,hb,by omega,by omega⟩
 case start=>exact⟨0,_,_,_,_,_,[],by and_intros<;>(simp only[E8,seval]<;>rfl),⟨rfl,rfl,rfl⟩,.inl ⟨rfl,rfl⟩,by simp,rfl,by omega,by omega⟩
 case rest =>
  rintro e st ⟨rfl,mH,sp,bq,tt,g,b,hI,⟨rfl,rfl,rfl⟩,hb,Qd,n5⟩
  simp only[Z8,seval,hI];exact⟨_,by apply eH;rfl;all_goals simp only[aI,Z8,seval,hI,bR,Xj,bG,vI,dW]<;>rfl,⟨⟨6+x0,x1,x2,1+x3,x4,1+x5⟩,1+x6,bq,tt,mkRoot 1,ov bD (some b)⟩,b,rfl,⟨rfl,by omega,hb,by dsimp only;omega,by dsimp only;omega,by dsimp only;omega,by dsimp only;omega,by dsimp only;omega,by dsimp only;omega,by dsimp only;omega,by dsimp only;omega,rfl,by dsimp only;omega⟩⟩
structure SB (a r:List Node):Prop where
 RU:r.map (·.block)=a.map (·.block)
 up:r.map (·.up)=a.map (·.up)
theorem SB.refl (a:List Node):SB a a:=⟨rfl,rfl⟩
theorem SB.trans {a b c:List Node} (h:SB a b) (g:SB b c):SB a c:=⟨g.RU.trans h.RU,g.up.trans h.up⟩
theorem SB.len {a r:List Node} (h:SB a r):r.length=a.length:=by have:=congrArg List.length h.RU;simpa using this
theorem SB.block {a r:List Node} (h:SB a r) {j:Int} (j1:j.toNat<a.length):(nd r j).block=(nd a j).block:=by
 have h2:j.toNat<r.length:=by rw[h.len];exact j1
 have:=congrArg (fun l:List Block=>l[j.toNat]?) h.RU
 simpa [nd,j1,h2] using this
theorem SB.upE {a r:List Node} (h:SB a r) {j:Int} (j1:j.toNat<a.length):(nd r j).up=(nd a j).up:=by
 have h2:j.toNat<r.length:=by rw[h.len];exact j1
 have:=congrArg (fun l:List Int=>l[j.toNat]?) h.up
 simpa [nd,j1,h2] using this
theorem EF (l:List Node) (x:cK):aN l x=match (l.map (·.block)).findIdx? (fun b=>decide (b.root=x)) with
 | some k=>(k:Int)
 | none=>-1:=by
 unfold aN;rw[List.findIdx?_map];rfl
theorem SB.aN {a r:List Node} (h:SB a r) (x:cK):aN r x=aN a x:=by rw[EF,EF,h.RU]
theorem Q9 (ns:List Node) (i to:Int):SB ns (setAt ns i to):=by
 have key:∀ {β:Type} (f:Node→β),(∀n s,f (Wf n s)=f n)→(setAt ns i to).map f=ns.map f:=by
  intro β f hf;unfold setAt;rw[List.map_set];apply List.ext_getElem (by simp)
  intro j h1 h2;rw[List.getElem_set];split
  ·rename_i e;have h3:j<ns.length:=by simpa using h2
   subst e;simp[hf,nd,h3]
  ·rfl
 exact⟨key _ fun _ _=>rfl,key _ fun _ _=>rfl⟩
theorem GW {to never:Int}:∀(l:List Int) (ns r:List Node),DK to never l ns=some r→SB ns r
 | [],ns,r,h=>by simp only[DK,Option.some.injEq] at h;rw[h];exact SB.refl _
 | i :: l,ns,r,h=>by
   simp only[DK] at h;split at h
   ·cases h
   ·exact (Q9 ns i to).trans (GW l _ _ h)
def MZ (ns:List Node) (x:AV):Prop:=(∃e:Int,e≠0∧x=.eN [.agg [.v (.slice none 0 0)],.v (.int .i64 e)])∨∃r,SB ns r∧x=.eN [.agg (cX ⟨r⟩),.v (.int .i64 0)]
theorem MZ.err (ns:List Node) {e:Int} (h:e≠0):MZ ns (AY e):=.inl ⟨e,h,rfl⟩
theorem aGe (ns:List Node) (i:Int):MZ ns (J8 ns i):=by
 unfold J8;split
 ·unfold stA;split
  ·exact .err _ (by decide)
  ·rename_i r hr;exact .inr ⟨r,GW _ _ _ hr,rfl⟩
 ·exact .err _ (by decide)
theorem R0 (ns:List Node) (i:Int):MZ ns (J9 ns i):=by
 unfold J9;split
 ·unfold stA;split
  ·exact .err _ (by decide)
  ·rename_i r hr;exact .inr ⟨r,GW _ _ _ hr,rfl⟩
 ·exact .err _ (by decide)
theorem MZ.of {a b:List Node} (h:SB a b) {x:AV} (g:MZ b x):MZ a x:=g.imp id fun ⟨r,h1,h2⟩=>⟨r,h.trans h1,h2⟩
theorem aGf (ns:List Node) (i:Int) (v:fM) (l:List Int):MZ ns (TA ns i v l):=by
 unfold TA;split
 ·exact .err _ (by decide)
 split
 ·exact aGe ns i
 split
 ·unfold M8;split
  ·exact .err _ (by decide)
  split
  ·split
   ·exact .err _ (by decide)
   ·rename_i r hr;exact .of (GW _ _ _ hr) (R0 _ _)
  ·exact R0 _ _
 split
 ·exact .inr ⟨ns,SB.refl ns,rfl⟩
 ·exact .err _ (by decide)
theorem GI.tree {s:aO} {v:SV} {q:Int} (h:GI s v q) {r:List Node} (hs:SB v.ns r):GI { s with tree:=⟨.sl r.length (cD r)⟩} { v with ns:=r } q:=by
 have hl:=hs.len
 have hp:=h.pos
 refine⟨⟨h.sd.jN,h.sd.dQ,h.sd.gZ,h.sd.early,h.sd.bX,rfl,h.sd.tables,h.sd.eV,h.sd.tB,h.sd.nB,h.sd.nL,h.sd.nQ,h.sd.nE,h.sd.nO,h.sd.nT,by rw[hl];exact h.sd.nn⟩,fun i i0 i1=>?_, ?_,by show 0<r.length;omega,by rw[hl];exact h.nl,h.TM,h.qS,h.MC,h.nB,h.nO,h.MD,h.nE,h.RX,h.nT,h.TN,h.nQ,h.N6, ?_⟩
 ·have i1:i<(r.length:Int):=i1
  show 0≤(nd r i).up∧(nd r i).up<i
  rw[hs.upE (by omega)];exact h.up i i0 (by omega)
 ·show (nd r 0).up=-1
  rw[hs.upE (by show (0:Nat)<_;omega)];exact h.LD
 ·show 0≤aN r s.bM.hU.root
  rw[hs.aN];exact h.hU
theorem RG.tree {s:aO} {v:SV} (h:RG s v) {r:List Node} (hs:SB v.ns r) (x:Fo):RG { s with tree:=x } { v with ns:=r } :=
 ⟨h.now,h.j,h.f,fun n hn=>by
  have:n.block∈r.map (·.block):=List.mem_map.2 ⟨n,hn,rfl⟩
  rw[hs.RU] at this;obtain⟨a,ha,e⟩:=List.mem_map.1 this
  rw[← e];exact h.nd a ha,h.or,fun n hn=>by
  have:n.block∈r.map (·.block):=List.mem_map.2 ⟨n,hn,rfl⟩
  rw[hs.RU] at this;obtain⟨a,ha,e⟩:=List.mem_map.1 this
  rw[← e];exact h.rt a ha,h.fe,by
  have e:=congrArg (List.map fun b:Block=>b.root) hs.RU
  rw[List.map_map,List.map_map] at e;show (r.map ((fun b:Block=>b.root) ∘ fun n=>n.block)).Nodup
  rw[e];exact h.ds,h.tb,⟨h.ne.q,h.ne.e,h.ne.o,h.ne.t,h.ne.ea,h.ne.tb⟩⟩
structure TQ (Q:List Request) (tag:Int):Prop where
 pos:1≤tag
 all:∀r∈Q,1≤r.tagged.tag∧r.tagged.tag<tag∧r.due=0
 asc:Q.Pairwise fun a b=>a.tagged.tag<b.tagged.tag
structure TR (R:List Request) (tag:Int):Prop where
 all:∀r∈R,r.tagged.tag<tag
 asc:R.Pairwise fun a b=>¬wO b a
def SA (ns:List Node) (l:List Request):Prop:=∀r∈l,0≤aN ns r.block
theorem TQ.sub {P Q:List Request} {tag:Int} (h:TQ Q tag) (s:P.Sublist Q):TQ P tag:=⟨h.pos,fun r hr=>h.all r (s.subset hr),h.asc.sublist s⟩
theorem TR.sub {P Q:List Request} {tag:Int} (h:TR Q tag) (s:P.Sublist Q):TR P tag:=⟨fun r hr=>h.all r (s.subset hr),h.asc.sublist s⟩
theorem TR.mono {Q:List Request} {t t':Int} (h:TR Q t) (l:t≤t'):TR Q t':=⟨fun r hr=>by have:=h.all r hr;omega,h.asc⟩
theorem SA.sub {ns:List Node} {P Q:List Request} (h:SA ns Q) (s:P.Sublist Q):SA ns P:=fun r hr=>h r (s.subset hr)
theorem TQ.app {Q:List Request} {tag:Int} (h:TQ Q tag) (b:cK) (n:Int):TQ (Q++[⟨⟨tag⟩,b,n,0⟩]) (tag+1):=by
 refine⟨by have:=h.pos;omega,fun r hr=>?_,List.pairwise_append.2 ⟨h.asc,List.pairwise_singleton ..,fun a ha b hb=>?_⟩⟩
 ·rcases List.mem_append.1 hr with hr|hr
  ·obtain⟨h1,h2,h3⟩:=h.all r hr;exact⟨h1,by omega,h3⟩
  ·rw[List.mem_singleton] at hr;subst hr;exact⟨h.pos,by show tag<tag+1;omega,rfl⟩
 ·rw[List.mem_singleton] at hb;subst hb;exact (h.all a ha).2.1
theorem SA.app {ns:List Node} {Q:List Request} (h:SA ns Q) {x:Request} (hx:0≤aN ns x.block):SA ns (Q++[x]):=fun r hr=>by
 rcases List.mem_append.1 hr with hr|hr
 ·exact h r hr
 ·rw[List.mem_singleton] at hr;subst hr;exact hx
theorem aLO {x:Int} (h1:1≤x) (h2:x≤1000000):IntKind.u64.wrap (x+1)=x+1:=wrap_u64 _ (by omega) (by omega)
theorem Ny (ns:List Node) (now:Int):∀(l:List Request) (a:(Option (List Request) × Int) × List Request),TQ (ol a.1.1) a.1.2→SA ns (ol a.1.1)→a.1.2+l.length≤1000000 →
 TQ (ol (zM ns now a l).1.1) (zM ns now a l).1.2∧SA ns (ol (zM ns now a l).1.1)∧a.1.2≤(zM ns now a l).1.2∧(zM ns now a l).1.2≤a.1.2+l.length∧(zM ns now a l).2=a.2++l.filter fun r=>decide (now<r.due)
 | [],a,h,hi,hb=>⟨h,hi,by show a.1.2≤a.1.2;omega,by show a.1.2≤a.1.2+((0:Nat):Int);omega,(List.append_nil _).symm⟩
 | r :: l,a,h,hi,hb=>by
   have hp:=h.pos
   rw[List.length_cons] at hb;have hw:=aLO hp (by omega)
   have e0:zM ns now a (r :: l)=zM ns now (Ll ns now a r) l:=rfl
   rw[e0,List.length_cons];by_cases g1:now<r.due
   ·have e1:Ll ns now a r=(a.1,a.2++[r]):=if_pos g1
    rw[e1];obtain⟨h1,h2,h3,h4,h5⟩:=Ny ns now l (a.1,a.2++[r]) h hi (by dsimp only;omega)
    refine⟨h1,h2,h3,by dsimp only at h4;omega, ?_⟩
    rw[h5,List.filter_cons,if_pos (decide_eq_true g1)];simp
   ·rw[List.filter_cons,if_neg (by simpa using g1)]
    by_cases g2:xW ns r.block
    ·have e1:Ll ns now a r=((some (ol a.1.1++[⟨⟨a.1.2⟩,r.block,r.tries,0⟩]),IntKind.u64.wrap (a.1.2+1)),a.2):=(if_neg g1).trans (if_pos g2)
     rw[e1,hw];obtain⟨h1,h2,h3,h4,h5⟩:=Ny ns now l ((some (ol a.1.1++[(⟨⟨a.1.2⟩,r.block,r.tries,0⟩:Request)]),a.1.2+1),a.2) (h.app _ _) (hi.app g2.1) (by dsimp only;omega)
     exact⟨h1,h2,by dsimp only at h3;omega,by dsimp only at h4;omega,h5⟩
    ·have e1:Ll ns now a r=a:=(if_neg g1).trans (if_neg g2)
     rw[e1];obtain⟨h1,h2,h3,h4,h5⟩:=Ny ns now l a h hi (by omega)
     exact⟨h1,h2,h3,by omega,h5⟩
theorem GX (ns:List Node):∀(l:List cK) (a:Option (List Request) × Int),TQ (ol a.1) a.2→SA ns (ol a.1)→a.2+l.length≤1000000 →
 TQ (ol (Li ns a l).1) (Li ns a l).2∧SA ns (ol (Li ns a l).1)∧a.2≤(Li ns a l).2∧(Li ns a l).2≤a.2+l.length
 | [],a,h,hi,hb=>⟨h,hi,by show a.2≤a.2;omega,by show a.2≤a.2+((0:Nat):Int);omega⟩
 | r :: l,a,h,hi,hb=>by
   have hp:=h.pos
   rw[List.length_cons] at hb;have hw:=aLO hp (by omega)
   have e0:Li ns a (r :: l)=Li ns (RZ ns a r) l:=rfl
   rw[e0,List.length_cons];by_cases g2:xW ns r
   ·have e1:RZ ns a r=(some (ol a.1++[⟨⟨a.2⟩,r,0,0⟩]),IntKind.u64.wrap (a.2+1)):=if_pos g2
    rw[e1,hw];obtain⟨h1,h2,h3,h4⟩:=GX ns l (some (ol a.1++[(⟨⟨a.2⟩,r,0,0⟩:Request)]),a.2+1) (h.app _ _) (hi.app g2.1) (by dsimp only;omega)
    exact⟨h1,h2,by dsimp only at h3;omega,by dsimp only at h4;omega⟩
   ·have e1:RZ ns a r=a:=if_neg g2
    rw[e1];obtain⟨h1,h2,h3,h4⟩:=GX ns l a h hi (by omega)
    exact⟨h1,h2,h3,by omega⟩
theorem YT (ns:List Node) (now:Int):∀(l:List Request) (a:(Option (List Request) × Int) × List Request),a.1.1≠some []→(zM ns now a l).1.1≠some []
 | [],a,h=>h
 | r :: l,a,h=>by
   have e0:zM ns now a (r :: l)=zM ns now (Ll ns now a r) l:=rfl
   rw[e0];refine YT ns now l _ ?_
   unfold Ll;split
   ·exact h
   split
   ·simp
   ·exact h
theorem R1 (ns:List Node):∀(l:List cK) (a:Option (List Request) × Int),a.1≠some []→(Li ns a l).1≠some []
 | [],a,h=>h
 | r :: l,a,h=>by
   have e0:Li ns a (r :: l)=Li ns (RZ ns a r) l:=rfl
   rw[e0];refine R1 ns l _ ?_
   unfold RZ;split
   ·simp
   ·exact h
noncomputable def GY:List Request→Request→List Request→List Request
 | [],x,B=>x :: B
 | y :: A,x,B=>if wO x y then GY A x (y :: B) else (y :: A).reverse++x :: B
theorem EG:∀(A:List Request) (x:Request) (B:List Request),Bz A.length (A.reverse++x :: B)=GY A x B
 | [],x,B=>rfl
 | y :: A,x,B=>by
   have e1:gx bN ((y :: A).reverse++x :: B) ((A.length+1:Nat):Int)=x:=by
    unfold gx;rw[Int.toNat_natCast,List.reverse_cons,List.append_assoc,List.getD_eq_getElem?_getD,List.getElem?_append_right (by simp),List.length_reverse]
    simp
   have e2:gx bN ((y :: A).reverse++x :: B) (A.length:Int)=y:=by
    unfold gx;rw[Int.toNat_natCast,List.reverse_cons,List.append_assoc,List.getD_eq_getElem?_getD,List.getElem?_append_right (by simp),List.length_reverse]
    simp
   have e3:(((y :: A).reverse++x :: B).set (A.length+1) y).set A.length x=A.reverse++x :: y :: B:=by
    rw[List.reverse_cons,List.append_assoc,List.set_append_right _ _ (by simp),List.length_reverse,List.set_append_right _ _ (by simp),List.length_reverse]
    simp
   rw[List.length_cons];have e0:∀l,Bz (A.length+1) l=if wO (gx bN l ((A.length+1:Nat):Int)) (gx bN l (A.length:Int)) then Bz A.length ((l.set (A.length+1) (gx bN l (A.length:Int))).set A.length (gx bN l ((A.length+1:Nat):Int))) else l:=fun l=>rfl
   rw[e0,e1,e2,e3];unfold GY;split
   ·exact EG A x (y :: B)
   ·rfl
theorem Xk {r:Request}:∀(A:List Request) (x:Request) (B:List Request),r∈GY A x B↔r∈A∨r=x∨r∈B
 | [],x,B=>by simp[GY]
 | y :: A,x,B=>by
   unfold GY;split
   ·rw[Xk A x (y :: B)];simp only[List.mem_cons];constructor
    ·rintro (h|h|h|h)
     ·exact .inl (.inr h)
     ·exact .inr (.inl h)
     ·exact .inl (.inl h)
     ·exact .inr (.inr h)
    ·rintro ((h|h)|h|h)
     ·exact .inr (.inr (.inl h))
     ·exact .inl h
     ·exact .inr (.inl h)
     ·exact .inr (.inr (.inr h))
   ·simp[or_assoc,or_left_comm]
theorem Sx {a b:Request} (h:wO a b):¬wO b a:=by unfold wO at *;omega
theorem R2 {a b c:Request} (h1:¬wO b a) (h2:¬wO c b):¬wO c a:=by unfold wO at *;omega
theorem NA:∀(A:List Request) (x:Request) (B:List Request),(A.reverse++B).Pairwise (fun a b=>¬wO b a)→(∀b∈B,wO x b)→(GY A x B).Pairwise fun a b=>¬wO b a
 | [],x,B,h,hb=>List.pairwise_cons.2 ⟨fun b m=>Sx (hb b m),h⟩
 | y :: A,x,B,h,hb=>by
   unfold GY;have h0:=h
   rw[List.reverse_cons,List.append_assoc] at h;split
   ·rename_i g;exact NA A x (y :: B) h fun b m=>(List.mem_cons.1 m).elim (fun e=>by rw[e];exact g) (hb b)
   ·rename_i g;obtain⟨p1,p2,p3⟩:=List.pairwise_append.1 h0
    refine List.pairwise_append.2 ⟨p1,List.pairwise_cons.2 ⟨fun b m=>Sx (hb b m),p2⟩,fun a ha b m=>?_⟩
    rcases List.mem_cons.1 m with rfl|m
    ·rw[List.reverse_cons,List.mem_append,List.mem_singleton] at ha;rcases ha with ha|rfl
     ·have:=(List.pairwise_append.1 h).2.2 a ha y (by simp)
      exact R2 this g
     ·exact g
    ·exact p3 a ha b m
theorem R3 (R:List Request) (x:Request):Bz R.length (R++[x])=GY R.reverse x []:=by
 have:=EG R.reverse x []
 rwa [List.reverse_reverse,List.length_reverse] at this
theorem TR.bub {R:List Request} {tag:Int} (h:TR R tag) {x:Request} (hx:x.tagged.tag<tag):TR (Bz R.length (R++[x])) tag:=by
 rw[R3];refine⟨fun r hr=>?_,NA _ _ _ (by rw[List.reverse_reverse,List.append_nil];exact h.asc) (by simp)⟩
 rcases (Xk _ _ _).1 hr with hr|rfl|hr
 ·exact h.all r (List.mem_reverse.1 hr)
 ·exact hx
 ·cases hr
theorem SA.bub {ns:List Node} {R:List Request} (h:SA ns R) {x:Request} (hx:0≤aN ns x.block):SA ns (Bz R.length (R++[x])):=by
 rw[R3];intro r hr;rcases (Xk _ _ _).1 hr with hr|rfl|hr
 ·exact h r (List.mem_reverse.1 hr)
 ·exact hx
 ·cases hr
structure TI0 (t:State) (v:SV) (Q R:Option (List Request)) (q m:Int):Prop where
 td:TD t v Q R
 gi:GI t.store v q
 rg:RG t.store v
 cfg:∃b,Nw t.store.cFg b
 tq:TQ (ol Q) t.cT
 tr:TR (ol R) t.cT
 nt:t.cT≤1+m
 lq:((ol Q).length:Int)≤m
 lr:((ol R).length:Int)≤t.store.cFg.mH.oI
 mB:m≤100000
 qn:Q≠some []
 rn:R≠some []
structure TI (t:State) (v:SV) (Q R:Option (List Request)) (q m:Int):Prop extends TI0 t v Q R q m where
 B4:SA v.ns (ol Q)
 B5:SA v.ns (ol R)
theorem TI0.mono {t:State} {v:SV} {Q R:Option (List Request)} {q m q' m':Int} (h:TI0 t v Q R q m) (h1:q≤q') (h2:q'≤900000) (h3:m≤m') (h4:m'≤100000):TI0 t v Q R q' m' :=
 ⟨h.td,h.gi.mono h1 h2,h.rg,h.cfg,h.tq,h.tr,by have:=h.nt;omega,by have:=h.lq;omega,h.lr,h4,h.qn,h.rn⟩
theorem TI.mono {t:State} {v:SV} {Q R:Option (List Request)} {q m q' m':Int} (h:TI t v Q R q m) (h1:q≤q') (h2:q'≤900000) (h3:m≤m') (h4:m'≤100000):TI t v Q R q' m':=⟨h.toTI0.mono h1 h2 h3 h4,h.B4,h.B5⟩
theorem TI0.store {t:State} {v:SV} {Q R:Option (List Request)} {q m:Int} (h:TI0 t v Q R q m) {s':aO} {v':SV} {q':Int} (g:GI s' v' q') (r:RG s' v') (c:s'.cFg=t.store.cFg):TI0 { t with store:=s' } v' Q R q' m :=
 ⟨⟨g.sd,h.td.Ai,h.td.ret,h.td.nQ,h.td.nR⟩,g,r,by show ∃b,Nw s'.cFg b;rw[c];exact h.cfg,h.tq,h.tr,h.nt,h.lq,by show _≤s'.cFg.mH.oI;rw[c];exact h.lr,h.mB,h.qn,h.rn⟩
theorem TI.emit {t:State} {v:SV} {Q R:Option (List Request)} {q m:Int} (h:TI t v Q R q m) (b:Bool) (c:Command):TI { t with zH:=b,last:=c } v Q R q m :=
 ⟨⟨⟨h.td.sd,h.td.Ai,h.td.ret,h.td.nQ,h.td.nR⟩,h.gi,h.rg,h.cfg,h.tq,h.tr,h.nt,h.lq,h.lr,h.mB,h.qn,h.rn⟩,h.B4,h.B5⟩
theorem TI.halt {t:State} {v:SV} {Q R:Option (List Request)} {q m:Int} (h:TI t v Q R q m) (b:Bool):TI { t with halted:=b } v Q R q m :=
 ⟨⟨⟨h.td.sd,h.td.Ai,h.td.ret,h.td.nQ,h.td.nR⟩,h.gi,h.rg,h.cfg,h.tq,h.tr,h.nt,h.lq,h.lr,h.mB,h.qn,h.rn⟩,h.B4,h.B5⟩
theorem TI.over {t:State} {v:SV} {Q R:Option (List Request)} {q m:Int} (h:TI t v Q R q m) (b:Bool):TI { t with overflow:=b } v Q R q m :=
 ⟨⟨⟨h.td.sd,h.td.Ai,h.td.ret,h.td.nQ,h.td.nR⟩,h.gi,h.rg,h.cfg,h.tq,h.tr,h.nt,h.lq,h.lr,h.mB,h.qn,h.rn⟩,h.B4,h.B5⟩
theorem TI0.aCh {t:State} {v:SV} {Q R:Option (List Request)} {q m:Int} (h:TI0 t v Q R q m):t.store.cFg.mH.oI≤256:=by obtain⟨b,hb⟩:=h.cfg;exact hb.oI.2
theorem TI0.jN {t:State} {v:SV} {Q R:Option (List Request)} {q m:Int} (h:TI0 t v Q R q m):0<(ol v.B).length∧(ol v.B).length≤64:=by
 obtain⟨b,hb⟩:=h.cfg
 have e:=h.gi.sd.jN.symm.trans hb.jN
 have n:=hb.nb
 cases hB:v.B with
 | none=>rw[hB] at e;cases e
 | some l =>
   rw[hB] at e;have e:AV.sl l.length (bD l)=AV.sl b.length (bD b):=e
   injection e with e1 e2
   show 0<l.length∧l.length≤64
   omega
theorem TI0.drop {t:State} {v:SV} {Q R:Option (List Request)} {q m:Int} (h:TI0 t v Q R q m):TI (GL t v Q R) v (nz (jI v.ns (ol Q))) (nz (jI v.ns (ol R))) q m:=by
 have s1:(jI v.ns (ol Q)).Sublist (ol Q):=List.filter_sublist
 have s2:(jI v.ns (ol R)).Sublist (ol R):=List.filter_sublist
 have l1:=s1.length_le
 have l2:=s2.length_le
 have a1:=h.lq
 have a2:=h.lr
 refine⟨⟨h.td.drp,h.gi,h.rg,h.cfg, ?_, ?_,h.nt, ?_, ?_,h.mB,Wx _,Wx _⟩, ?_, ?_⟩
 ·rw[mU];exact h.tq.sub s1
 ·rw[mU];exact h.tr.sub s2
 ·rw[mU];omega
 ·rw[mU];show _≤t.store.cFg.mH.oI;omega
 ·rw[mU];intro r hr;exact of_decide_eq_true (List.mem_filter.1 hr).2
 ·rw[mU];intro r hr;exact of_decide_eq_true (List.mem_filter.1 hr).2
theorem TI.due {t:State} {v:SV} {Q R:Option (List Request)} {q m:Int} (h:TI t v Q R q m) (hm:m+256≤100000):TI (aCe t v.ns Q R) v (GV t v.ns Q R).1.1 (nz (GV t v.ns Q R).2) q (m+256):=by
 have a1:=h.lq
 have a2:=h.lr
 have a3:=h.aCh
 have a4:=h.nt
 obtain⟨h1,h2,h3,h4,h5⟩:=Ny v.ns t.store.now (ol R) ((Q,t.cT),[]) h.tq h.B4 (by dsimp only;omega)
 have hl:=MU v.ns t.store.now (ol R) ((Q,t.cT),[])
 rw[List.nil_append] at h5;have e1:zM v.ns t.store.now ((Q,t.cT),[]) (ol R)=GV t v.ns Q R:=rfl
 rw[e1] at h1 h2 h3 h4 h5 hl;dsimp only at h3 h4 hl
 have s2:(GV t v.ns Q R).2.Sublist (ol R):=by rw[h5];exact List.filter_sublist
 have l2:=s2.length_le
 have Qd:=hl.1
 have:=h.mB
 refine⟨⟨⟨h.td.sd,rfl,rfl,by omega,by rw[mU];omega⟩,h.gi,h.rg,h.cfg,h1, ?_, ?_,by omega, ?_,hm,YT v.ns t.store.now (ol R) ((Q,t.cT),[]) h.qn,Wx _⟩,h2, ?_⟩
 ·rw[mU];exact (h.tr.sub s2).mono h3
 ·show (GV t v.ns Q R).1.2≤_;omega
 ·rw[mU];show _≤t.store.cFg.mH.oI;omega
 ·rw[mU];exact h.B5.sub s2
theorem TI.open {t:State} {v:SV} {Q R:Option (List Request)} {q m:Int} (h:TI t v Q R q m) (L:List cK) (hL:(L.length:Int)≤100) (hm:m+256≤100000):TI (GM t (Li v.ns (Q,t.cT) L)) v (Li v.ns (Q,t.cT) L).1 R q (m+256):=by
 have a1:=h.lq
 have a4:=h.nt
 obtain⟨h1,h2,h3,h4⟩:=GX v.ns L (Q,t.cT) h.tq h.B4 (by dsimp only;omega)
 have hl:=YR v.ns (Q,t.cT) L
 dsimp only at h3 h4 hl
 refine⟨⟨h.td.GM _ (by omega),h.gi,h.rg,h.cfg,h1,h.tr.mono h3, ?_,by omega,h.lr,hm,R1 v.ns L (Q,t.cT) h.qn,h.rn⟩,h2,h.B5⟩
 show (Li v.ns (Q,t.cT) L).2≤_;omega
theorem TI.R4 {t:State} {v:SV} {Q R:Option (List Request)} {q m:Int} (h:TI t v Q R q m) {r:Request} (hr:r.tagged.tag<t.cT):∃R',TI (B0 t v.ns (ol R) r) v Q R' q m:=by
 unfold B0;split
 ·exact⟨R,h⟩
 split
 ·exact⟨R,h.over true⟩
 ·rename_i g1 g2;have g1:=Classical.not_not.1 g1
  have hl:(Bz (ol R).length (ol R++[MY t r])).length=(ol R).length+1:=by rw[MX,List.length_append,List.length_cons,List.length_nil]
  have a3:=h.aCh
  refine⟨some (Bz (ol R).length (ol R++[MY t r])),⟨⟨h.td.sd,h.td.Ai,rfl,h.td.nQ, ?_⟩,h.gi,h.rg,h.cfg,h.tq,h.tr.bub (x:=MY t r) hr,h.nt,h.lq, ?_,h.mB,h.qn,fun e=>by injection e with e;rw[e] at hl;simp at hl⟩,h.B4,h.B5.bub (x:=MY t r) g1.1⟩
  ·show ((Bz (ol R).length (ol R++[MY t r])).length:Int)<_;omega
  ·show ((Bz (ol R).length (ol R++[MY t r])).length:Int)≤t.store.cFg.mH.oI;omega
theorem TI.less {t:State} {v:SV} {Q R:Option (List Request)} {q m:Int} (h:TI t v Q R q m) (k:Nat):TI { t with dN:=ov aA (nz ((ol Q).take k++(ol Q).drop (k+1)))} v (nz ((ol Q).take k++(ol Q).drop (k+1))) R q m:=by
 have s:((ol Q).take k++(ol Q).drop (k+1)).Sublist (ol Q):=by rw[← List.eraseIdx_eq_take_drop_succ];exact List.eraseIdx_sublist ..
 have l1:=s.length_le
 have a1:=h.lq
 have:=h.td.nQ
 exact⟨⟨⟨h.td.sd,rfl,h.td.ret,by rw[mU];omega,h.td.nR⟩,h.gi,h.rg,h.cfg,by rw[mU];exact h.tq.sub s,h.tr,h.nt,by rw[mU];omega,h.lr,h.mB,Wx _,h.rn⟩,by rw[mU];exact h.B4.sub s,h.B5⟩
theorem TI.tree {t:State} {v:SV} {Q R:Option (List Request)} {q m:Int} (h:TI t v Q R q m) {r:List Node} (hs:SB v.ns r) (b:cK):TI { t with store:={ t.store with tree:=⟨.sl r.length (cD r)⟩,iI:=b }} { v with ns:=r } Q R q m:=by
 have g:=(h.gi.tree hs).iI b
 have e:=(h.rg.tree hs ⟨.sl r.length (cD r)⟩).iI b
 exact⟨h.toTI0.store g e rfl,fun x hx=>by show 0≤aN r x.block;rw[hs.aN];exact h.B4 x hx,fun x hx=>by show 0≤aN r x.block;rw[hs.aN];exact h.B5 x hx⟩
def zN (Q:List Request) (tag:Int) (k:Nat):Prop:=(gx bN Q (k:Int)).tagged.tag=tag
theorem x27 {t:State} {v:SV} {Q R:Option (List Request)} (h:TD t v Q R) (w:fM):∃x,aC Tryz.prog 27 [.agg (aF t),.agg (bZ w)]=some x ∧
 (((∀j:Nat,j<(ol Q).length→¬zN (ol Q) w.tagged.tag j)∧x=.eN [.agg (bL bN),.agg (aF jR),.v (.int .i64 23)]) ∨
  ∃k:Nat,k<(ol Q).length∧zN (ol Q) w.tagged.tag k∧(∀j:Nat,j<k→¬zN (ol Q) w.tagged.tag j)∧x=.eN [.agg (bL (gx bN (ol Q) (k:Int))),.agg (aF { t with dN:=ov aA (nz ((ol Q).take k++(ol Q).drop (k+1)))}),.v (.int .i64 0)]):=by
 have iX:=h.fl
 have nQ:=h.nQ
 have nQ1:((ol Q).length:Int)<1000000:=by omega
 have Sq:Flat (.agg (aF jR)):=by simp only[dW,jR,gQ,nJ,Hd,Ba,Lf,and_self]
 rw[cG Tryz.func27 rfl aQE (by kernel_rfl) rfl]
 simp only[ZG,seval,Bool.false_and,Prod.mk.injEq,GZ];refine lJ (fun m st=>∃k:Nat,(st.env 2=.ptr 2 0 0∧st.heap 2 0=some (.cells (aF t))∧st.env 3=.ptr 3 0 0∧st.heap 3 0=some (.cells (bZ w))∧st.env 4=.ptr 4 0 0∧st.heap 4 0=some (.cells (bL bN))∧st.env 5=.ptr 5 0 0∧st.heap 5 0=some (.cells (aF jR))∧st.env 7=.v (.int .i64 k))∧(∀j:Nat,j<k→¬zN (ol Q) w.tagged.tag j)∧k≤(ol Q).length∧m=(ol Q).length-k)
  (fun e st=>(e=.ret∧∃(k:Nat) (X:AV),(st.env 4=.ptr 4 0 0∧st.heap 4 0=some (.cells (bL (gx bN (ol Q) (k:Int))))∧st.env 5=.ptr 5 0 0∧st.heap 5 0=some (.cells (aF { t with dN:=X }))∧st.env 6=.v (.int .i64 0))∧((X=.v (.slice none 0 0)∧(ol Q).take k++(ol Q).drop (k+1)=[])∨∃g,X=.own 42 g∧(ol Q).take k++(ol Q).drop (k+1)≠[]∧st.heap 42 g=some (.row 63 35 ((ol Q).take k++(ol Q).drop (k+1)).length (aA ((ol Q).take k++(ol Q).drop (k+1)))))∧k<(ol Q).length∧zN (ol Q) w.tagged.tag k∧(∀j:Nat,j<k→¬zN (ol Q) w.tagged.tag j)) ∨
   (e=.exit 0∧(st.env 4=.ptr 4 0 0∧st.heap 4 0=some (.cells (bL bN))∧st.env 5=.ptr 5 0 0∧st.heap 5 0=some (.cells (aF jR)))∧∀j:Nat,j<(ol Q).length→¬zN (ol Q) w.tagged.tag j)) (ol Q).length ?step ?start ?rest
 case step =>
  rintro m st ⟨k,hI,hj,hk,hm⟩
  by_cases bA:(k:Int)<(ol Q).length
  case neg =>
   apply FY (.exit 0)
   ·simp only[ZG,seval,Bool.false_and,Prod.mk.injEq,GZ,hI,h.Ai,bA];rfl
   ·exact .inr ⟨rfl,by simp only[E8,seval,hI],fun j M9=>hj j (by omega)⟩
  have q0:(0:Int)≤k:=by omega
  have q2:(k:Int)≤((ol Q).length:Int):=by omega
  have q3:(0:Int)≤((k+1:Nat):Int):=by omega
  have q4:((k+1:Nat):Int)≤((ol Q).length:Int):=by omega
  have hw:IntKind.i64.wrap ((k:Int)+1)=((k+1:Nat):Int):=by rw[pR _ (by omega) (by omega)];omega
  have n1:((((ol Q).take k).length:Nat):Int)<1000000:=by rw[List.length_take];omega
  have n2:((((ol Q).drop (k+1)).length:Nat):Int)<1000000:=by rw[List.length_drop];omega
  have e1:ol (Q.map (·.take k))=(ol Q).take k:=by cases Q<;>simp[ol]
  have e2:ol (Q.map (·.drop (k+1)))=(ol Q).drop (k+1):=by cases Q<;>simp[ol]
  by_cases hh:zN (ol Q) w.tagged.tag k
  ·have hh':(gx bN (ol Q) (k:Int)).tagged.tag=w.tagged.tag:=hh
   obtain⟨LL,AT⟩:∃LL,(ol Q).take k++(ol Q).drop (k+1)=LL:=⟨_,rfl⟩
   by_cases hz:LL=[]
   ·have hT:((ol Q).take k).length=0:=by have:=congrArg List.length AT;rw[hz,List.length_append] at this;simp only[List.length_nil] at this;omega
    have hD:((ol Q).drop (k+1)).length=0:=by have:=congrArg List.length AT;rw[hz,List.length_append] at this;simp only[List.length_nil] at this;omega
    apply FY (.ret)
    ·simp only[ZG,seval,Bool.false_and,Prod.mk.injEq,GZ,hI,h.Ai,bA,q0,q2,q3,q4,hw,bt hh',Int.toNat_natCast,iK,iL,xX,Option.isSome_some,Option.map_some,Option.some.injEq,hT,hD,e1,e2];rfl
    ·exact .inl ⟨rfl,k,.v (.slice none 0 0),by simp only[E8,seval,hI]<;>rfl,.inl ⟨rfl,AT.trans hz⟩,by omega,hh,hj⟩
   have BC:(LL.length=0)=False:=eq_false fun h=>hz (List.length_eq_zero_iff.1 h)
   have n3:((LL.length:Nat):Int)<1000000:=by rw[← AT,List.length_append,List.length_take,List.length_drop];omega
   by_cases uQ:k=0
   ·have hT:((ol Q).take k).length=0:=by rw[uQ];rfl
    have hD:(ol Q).drop (k+1)=LL:=by rw[← AT,uQ];rfl
    apply FY (.ret)
    ·simp only[ZG,seval,Bool.false_and,Prod.mk.injEq,GZ,hI,h.Ai,bA,q0,q2,q3,q4,hw,bt hh',Int.toNat_natCast,iK,iL,xX,Option.isSome_some,Option.map_some,Option.some.injEq,hT,hD,BC,qV _ n3,e1,e2];rfl
    ·exact .inl ⟨rfl,k,_,by simp only[E8,seval,hI]<;>rfl,.inr ⟨_,rfl,by rw[AT];exact hz,by rw[AT];simp only[E8,seval]<;>rfl⟩,by omega,hh,hj⟩
   ·have hT:(((ol Q).take k).length=0)=False:=eq_false (by rw[List.length_take];omega)
    apply FY (.ret)
    ·simp only[ZG,seval,Bool.false_and,Prod.mk.injEq,GZ,hI,h.Ai,bA,q0,q2,q3,q4,hw,bt hh',Int.toNat_natCast,iK,iL,xX,Option.isSome_some,Option.map_some,Option.some.injEq,hT,qV _ n1,Sy _ _ _ _ n1 n2,e1,e2];rfl
    ·exact .inl ⟨rfl,k,_,by simp only[E8,seval,hI]<;>rfl,.inr ⟨_,rfl,by rw[AT];exact hz,by simp only[E8,seval]<;>rfl⟩,by omega,hh,hj⟩
  ·have hh':¬(gx bN (ol Q) (k:Int)).tagged.tag=w.tagged.tag:=hh
   apply Ct ((ol Q).length-(k+1))
   ·simp only[ZG,seval,Bool.false_and,Prod.mk.injEq,GZ,hI,h.Ai,bA,q0,hw,bf hh'];rfl
   ·exact⟨k+1,by simp only[E8,seval,hI],fun j M9=>(Nat.lt_succ_iff_lt_or_eq.1 M9).elim (hj j) fun e=>by subst e;exact hh,by omega,rfl⟩
 case start=>exact⟨0,by simp only[E8,seval]<;>rfl,fun j hj=>by omega,by omega,by omega⟩
 case rest =>
  rintro e st (⟨rfl,k,X,hI,hX,hk,hh,hj⟩|⟨rfl,hI,hj⟩)
  ·rcases hX with ⟨rfl,hz⟩|⟨g,rfl,hz,hg⟩
   ·have hfz:Flat (.agg (aF { t with dN:=.v (.slice none 0 0)})):=(mN _).2 ⟨iX.1,iX.2.1,iX.2.2.1,iX.2.2.2.1,iX.2.2.2.2.1,iX.2.2.2.2.2.1,iX.2.2.2.2.2.2.1,.v _,iX.2.2.2.2.2.2.2.2⟩
    simp only[ZG,seval,Bool.false_and,Prod.mk.injEq,GZ,hI];exact⟨_,gP rfl (by simp only[bV,Z8,seval,hI]<;>rfl) (by simp only[bV,Z8,seval,hI]<;>rfl) (by simp only[bV,E8,seval,hI]<;>rfl) (dP (.agg _ (fQ _))) (dP hfz) (by simp only[Z8,seval]<;>rfl),.inr ⟨k,hk,hh,hj,by rw[hz,show nz ([]:List Request)=none from if_pos rfl];rfl⟩⟩
   ·simp only[ZG,seval,Bool.false_and,Prod.mk.injEq,GZ,hI,hg];exact⟨_,gP rfl (by simp only[bV,Z8,seval,hI]<;>rfl) (by simp only[bV,Z8,seval,hI]<;>rfl) (by simp only[bV,E8,seval,hI]<;>rfl) (dP (.agg _ (fQ _))) (by simp only[Z8,seval,hI,hg,bR,vO,gK,bG,pF,cO,dW,iX]<;>rfl) (by simp only[Z8,seval]<;>rfl),.inr ⟨k,hk,hh,hj,by rw[show nz ((ol Q).take k++(ol Q).drop (k+1))=some _ from if_neg hz];rfl⟩⟩
  ·simp only[ZG,seval,Bool.false_and,Prod.mk.injEq,GZ,hI];exact⟨_,by apply gP;rfl;all_goals simp only[aI,bV,Z8,seval,hI,Sq]<;>rfl,.inl ⟨hj,rfl⟩⟩
theorem aQF (ns:List Node) (hu:iD ns) (hr:(nd ns 0).up=-1) (hn:(ns.length:Int)<1000000) (i:Int) (w:fM) (l:List Int) (hl:(l.length:Int)<1000000) (st:St) (a g:Nat) (d:Option Nat) (hh:st.heap a g=some (.row 3 1 l.length (aJ l))) :
 fF (aC Tryz.prog) 222 [.agg (cX ⟨ns⟩),.v (.int .i64 i),.agg (bZ w),.own a g] st d=some { dst:=d,val:=TA ns i w l,dK:=some (a,g,none)}:=by
 rw[Ix (s:=a) (k:=g) (by rw[List.flatMap_cons,List.flatMap_cons,List.flatMap_cons,vK (nC _),vK (.v _),vK (.agg _ (gN w))];rfl) (by intro y hy;simp only[List.mem_cons,List.not_mem_nil,or_false] at hy;rcases hy with rfl|rfl|rfl|rfl;exact .inl (nC _);exact .inl (.v _);exact .inl (.agg _ (gN w));exact .inr (.inl ⟨a,g,rfl⟩)),
  List.map_cons,List.map_cons,List.map_cons,List.map_cons,List.map_nil,dP (nC _),dP (.v _),dP (.agg _ (gN w)),Iy hh,bP,bP,bP,bP,gL]
 exact EA (aOM ns hu hr hn i w l hl (.inl rfl)) (v8 ns i w l)
theorem aQG {t:State} {v:SV} {Q R:Option (List Request)} {q m:Int} (h:TI t v Q R q m) (w:fM) :
 ∃x,aC Tryz.prog 206 [.agg (aF t),.agg (bZ w)]=some x∧∃(t':State) (e:Int) (v':SV) (Q' R':Option (List Request)),x=.eN [.agg (aF t'),.v (.int .i64 e)]∧TI t' v' Q' R' q m:=by
 have hf:=h.td.flat
 have iX:=h.td.fl
 have fw:Flat (.agg (bZ w)):=.agg _ (gN w)
 have Sq:Flat (.agg (aF jR)):=by simp only[dW,jR,gQ,nJ,Hd,Ba,Lf,and_self]
 obtain⟨y,hy,⟨hj,rfl⟩|⟨k,hk,hh,hj,rfl⟩⟩:=x27 h.td w
 ·have k27:=kx hy (bH hf fw) (.eN _ (nD (.agg _ (fQ _)) Sq (.v _)))
  rw[cL Tryz.func206 rfl aEV rfl];simp only[Z8,seval,k27,eB];exact⟨_,by apply dO;rfl;all_goals simp only[aI,bV,Z8,seval,hf]<;>rfl,t,23,v,Q,R,rfl,h⟩
 obtain⟨r,er⟩:∃r,gx bN (ol Q) (k:Int)=r:=⟨_,rfl⟩
 obtain⟨t1,et⟩:∃t1,({ t with dN:=ov aA (nz ((ol Q).take k++(ol Q).drop (k+1)))}:State)=t1:=⟨_,rfl⟩
 have hr:r.tagged.tag<t.cT:=by rw[← er];exact (h.tq.all _ (tY (by omega) (by omega))).2.1
 have h1:=h.less k
 rw[et] at h1;rw[er,et] at hy;have nt1:t1.cT=t.cT:=by rw[← et]
 have hf1:=h1.td.flat
 have NB:=h1.td.fl
 have k27:=kx hy (bH hf fw) (.eN _ (nD (.agg _ (fQ _)) hf1 (.v _)))
 have hn:=h1.gi.sd.nn
 rw[cL Tryz.func206 rfl aEV rfl];by_cases g3:w.kind=3
 ·obtain⟨R',hR'⟩:=h1.R4 (r:=r) (by rw[nt1];exact hr)
  have ff:=hR'.td.flat
  have k72:=kx (c72 h1.td r) (bH hf1 (.agg _ (fQ _))) ff
  simp only[Z8,seval,k27,eB,bt g3,k72];exact⟨_,by apply dO;rfl;all_goals simp only[aI,bV,Z8,seval,ff]<;>rfl,_,0,v,_,R',rfl,hR'⟩
 by_cases g4:w.kind=4
 ·obtain⟨R',hR'⟩:=h1.R4 (r:=r) (by rw[nt1];exact hr)
  have ff:=hR'.td.flat
  have k72:=kx (c72 h1.td r) (bH hf1 (.agg _ (fQ _))) ff
  simp only[Z8,seval,k27,eB,bf g3,bt g4,k72];exact⟨_,by apply dO;rfl;all_goals simp only[aI,bV,Z8,seval,ff]<;>rfl,_,0,v,_,R',rfl,hR'⟩
 have EH:∀(st:St) (a g:Nat) (d:Option Nat),st.heap a g=some (.row 3 1 2 (aJ [aN v.ns t1.store.bM.hU.root,aN v.ns t1.store.bM.fin.root]))→_:=fun st a g d hh=>aQF v.ns h1.gi.up h1.gi.LD hn (aN v.ns r.block) w [aN v.ns t1.store.bM.hU.root,aN v.ns t1.store.bM.fin.root] (by show ((2:Nat):Int)<_;omega) st a g d hh
 rcases aGf v.ns (aN v.ns r.block) w [aN v.ns t1.store.bM.hU.root,aN v.ns t1.store.bM.fin.root] with ⟨e,he,ej⟩|⟨Wu,hs,ej⟩
 ·rw[ej] at EH
  have hH:=h.halt true
  have fH:=hH.td.flat
  simp only[Z8,seval,k27,eB,bf g3,bf g4,Ei,h1.gi.sd.tree,mT _ _ hn,EH,bf he];exact⟨_,by apply dO;rfl;all_goals simp only[aI,bV,Z8,seval,fH]<;>rfl,_,21,v,Q,R,rfl,hH⟩
 rw[ej] at EH
 have Iq:(Wu.length:Int)<1000000:=by rw[hs.len];exact hn
 have fr:=fY Wu t1.store.iI
 by_cases b0:0≤aN Wu t1.store.iI
 case neg =>
  have T:=h1.tree hs t1.store.iI
  have ft:=T.td.flat
  simp only[Z8,seval,k27,eB,bf g3,bf g4,Ei,h1.gi.sd.tree,mT _ _ hn,mT _ _ Iq,EH,b0];exact⟨_,by apply dO;rfl;all_goals simp only[aI,bV,Z8,seval,ft]<;>rfl,_,0,_,_,R,rfl,T⟩
 by_cases b1:(nd Wu (aN Wu t1.store.iI)).status=2
 case neg =>
  have T:=h1.tree hs t1.store.iI
  have ft:=T.td.flat
  simp only[Z8,seval,k27,eB,bf g3,bf g4,Ei,h1.gi.sd.tree,mT _ _ hn,mT _ _ Iq,EH,b0,fr.2,bf b1];exact⟨_,by apply dO;rfl;all_goals simp only[aI,bV,Z8,seval,ft]<;>rfl,_,0,_,_,R,rfl,T⟩
 have T:=h1.tree hs dL
 have ft:=T.td.flat
 simp only[Z8,seval,k27,eB,bf g3,bf g4,Ei,h1.gi.sd.tree,mT _ _ hn,mT _ _ Iq,EH,b0,fr.2,bt b1];exact⟨_,by apply dO;rfl;all_goals simp only[aI,bV,Z8,seval,ft]<;>rfl,_,0,_,_,R,rfl,T⟩
def aQI (s:aO) (v:SV) (q:Int) (r:AV):Prop:=∃(s':aO) (R:Option (List cK)) (e:Int),r=.eN [.agg (aB s'),ov gM R,.v (.int .i64 e)]∧Flat (.agg (aB s'))∧((ol R).length:Int)≤70∧e≠21∧(e=0→∃v',GI s' v' q∧RG s' v'∧s'.cFg=s.cFg)
theorem aQJ {s:aO} {v:SV} {q:Int} (h:GI s v q) (r:RG s v) (b:Block) (rb:RB b∧Pr b.root):∃r,aC Tryz.prog 203 [.agg (aB s),.agg (aU b)]=some r∧aQI s v q r:=by
 have hf:=h.sd.flat
 have iX:=h.sd.fl
 have hz:=Iv
 have UI:=k52 h.sd h.up h.sp
 have nO:=h.nO
 have MD:=h.MD
 have nn':=h.sd.nO
 rw[cL Tryz.func203 rfl aLR rfl];by_cases g1:Kb s v b=10
 ·by_cases g2:s.cFg.mH.wJ≤((ol v.O).length:Int)
  ·simp only[Z8,seval,UI,bt g1,h.sd.bX,g2];exact⟨_,by apply gP;rfl;all_goals simp only[aI,bV,Z8,seval,hz]<;>rfl,gQ,none,11,rfl,hz,by simp[ol],by decide,fun h=>by cases h⟩
  ·have hw:=h.TO (some (ol v.O++[{ b with Bu:=false }])) (by show (((ol v.O++[{ b with Bu:=false }]).length:Nat):Int)≤s.cFg.mH.wJ;rw[List.length_append,List.length_cons,List.length_nil];omega)
   have hwr:=r.TO (some (ol v.O++[{ b with Bu:=false }])) (ov aH (some (ol v.O++[{ b with Bu:=false }]))) (fun c hc=>(List.mem_append.1 hc).elim (r.or c) fun e=>by rw[List.mem_singleton] at e;subst e;exact⟨⟨rb.1.sl,rb.1.j,rb.1.f,rb.1.pj,rb.1.pf⟩,rb.2⟩) (by simp)
   simp only[Z8,seval,UI,bt g1,h.sd.bX,g2,iS _ nn',EI _ _ _ _ nn'];exact⟨_,by apply gP;rfl;all_goals simp only[aI,bV,Z8,seval,bR,gK,bG,uA,cO,dW,iX]<;>rfl,_,none,0,rfl,hw.sd.flat,by simp[ol],by decide,fun _=>⟨_,hw,hwr,rfl⟩⟩
 by_cases g2:Kb s v b=0
 case neg =>
  simp only[Z8,seval,UI,bf g1,bf g2];exact⟨_,by apply gP;rfl;all_goals simp only[aI,bV,Z8,seval,hz]<;>rfl,gQ,none,_,rfl,hz,by simp[ol],aFS _ _ _,fun h=>absurd h g2⟩
 have YU:=aLD h g2
 have aCi:=h.ins g2
 have aCj:=r.ins rb g2
 have hcf:=Bb s v b
 have hO1:=TS s v b
 cases g3:b.Bu
 · -- not timely
  have hG:GI (sS s v b) (lI s v b) q:=aCi
  have oJ:RG (sS s v b) (lI s v b):=aCj
  have hC:((sS s v b)).cFg=s.cFg:=hcf.1
  have pM:=MA hG.sd
  simp only[Z8,seval,UI,bf g1,bt g2,YU,g3,pM];refine Nz (a:=Bd) (A8 s v q) (GO (by omega) (m:=(ol (lI s v b).O).length) ⟨(sS s v b),lI s v b,_,[b.root],66,0, ?start,.inl ⟨rfl,rfl⟩,.inl rfl,hG,oJ,hC,by simp;omega,rfl⟩) ?rest
  case start =>
   rw[sU hG.sd];simp only[E8,seval,gM,List.flatMap_cons,List.flatMap_nil,List.append_nil]<;>rfl
  case rest =>
   rintro e st ⟨rfl,S0,w,X,R,a,g,hI,ha,hX,hG,oJ,hC,hR⟩
   have R5:(a=4)=False:=eq_false ha
   have aGh:=hG.sd.fl
   have hfo:=hG.sd.bX
   rcases hX with rfl|⟨g',L,hL,rfl,n8⟩
   ·rw[sU hG.sd] at hI;have BD:=hG.sd.flat
    simp only[Z8,seval,hI];exact⟨_,by apply gP;rfl;all_goals simp only[aI,bV,Z8,seval,hI,R5,BD,wA]<;>rfl,S0,some R,0,rfl,BD,by simp only[ol,Option.getD_some];omega,by decide,fun _=>⟨w,hG,oJ,hC⟩⟩
   ·have hex:=fun st' hh=>zG (O:=L) (a:=91) (g:=g') hG.sd st' hh
    have NB:mW S0 (ov aH (some L))=S0:=by rw[← hL];exact sU hG.sd
    rw[NB] at hex;simp only[Z8,seval,hI];exact⟨_,by apply gP;rfl;all_goals simp only[aI,bV,Z8,seval,hI,R5,n8,hex,wA]<;>rfl,S0,some R,0,rfl,hG.sd.flat,by simp only[ol,Option.getD_some];omega,by decide,fun _=>⟨w,hG,oJ,hC⟩⟩
 by_cases g4:b.slot=s.now
 case neg =>
  have hG:GI (sS s v b) (lI s v b) q:=aCi
  have oJ:RG (sS s v b) (lI s v b):=aCj
  have hC:((sS s v b)).cFg=s.cFg:=hcf.1
  have pM:=MA hG.sd
  simp only[Z8,seval,UI,bf g1,bt g2,YU,g3,bf g4,pM];refine Nz (a:=Bd) (A8 s v q) (GO (by omega) (m:=(ol (lI s v b).O).length) ⟨(sS s v b),lI s v b,_,[b.root],66,0, ?start,.inl ⟨rfl,rfl⟩,.inl rfl,hG,oJ,hC,by simp;omega,rfl⟩) ?rest
  case start =>
   rw[sU hG.sd];simp only[E8,seval,gM,List.flatMap_cons,List.flatMap_nil,List.append_nil]<;>rfl
  case rest =>
   rintro e st ⟨rfl,S0,w,X,R,a,g,hI,ha,hX,hG,oJ,hC,hR⟩
   have R5:(a=4)=False:=eq_false ha
   have aGh:=hG.sd.fl
   have hfo:=hG.sd.bX
   rcases hX with rfl|⟨g',L,hL,rfl,n8⟩
   ·rw[sU hG.sd] at hI;have BD:=hG.sd.flat
    simp only[Z8,seval,hI];exact⟨_,by apply gP;rfl;all_goals simp only[aI,bV,Z8,seval,hI,R5,BD,wA]<;>rfl,S0,some R,0,rfl,BD,by simp only[ol,Option.getD_some];omega,by decide,fun _=>⟨w,hG,oJ,hC⟩⟩
   ·have hex:=fun st' hh=>zG (O:=L) (a:=91) (g:=g') hG.sd st' hh
    have NB:mW S0 (ov aH (some L))=S0:=by rw[← hL];exact sU hG.sd
    rw[NB] at hex;simp only[Z8,seval,hI];exact⟨_,by apply gP;rfl;all_goals simp only[aI,bV,Z8,seval,hI,R5,n8,hex,wA]<;>rfl,S0,some R,0,rfl,hG.sd.flat,by simp only[ol,Option.getD_some];omega,by decide,fun _=>⟨w,hG,oJ,hC⟩⟩
 by_cases g5:s.iI=dL
 case neg =>
  have hG:GI (sS s v b) (lI s v b) q:=aCi
  have oJ:RG (sS s v b) (lI s v b):=aCj
  have hC:((sS s v b)).cFg=s.cFg:=hcf.1
  have pM:=MA hG.sd
  simp only[Z8,seval,UI,bf g1,bt g2,YU,g3,bt g4,g5,pM];refine Nz (a:=Bd) (A8 s v q) (GO (by omega) (m:=(ol (lI s v b).O).length) ⟨(sS s v b),lI s v b,_,[b.root],66,0, ?start,.inl ⟨rfl,rfl⟩,.inl rfl,hG,oJ,hC,by simp;omega,rfl⟩) ?rest
  case start =>
   rw[sU hG.sd];simp only[E8,seval,gM,List.flatMap_cons,List.flatMap_nil,List.append_nil]<;>rfl
  case rest =>
   rintro e st ⟨rfl,S0,w,X,R,a,g,hI,ha,hX,hG,oJ,hC,hR⟩
   have R5:(a=4)=False:=eq_false ha
   have aGh:=hG.sd.fl
   have hfo:=hG.sd.bX
   rcases hX with rfl|⟨g',L,hL,rfl,n8⟩
   ·rw[sU hG.sd] at hI;have BD:=hG.sd.flat
    simp only[Z8,seval,hI];exact⟨_,by apply gP;rfl;all_goals simp only[aI,bV,Z8,seval,hI,R5,BD,wA]<;>rfl,S0,some R,0,rfl,BD,by simp only[ol,Option.getD_some];omega,by decide,fun _=>⟨w,hG,oJ,hC⟩⟩
   ·have hex:=fun st' hh=>zG (O:=L) (a:=91) (g:=g') hG.sd st' hh
    have NB:mW S0 (ov aH (some L))=S0:=by rw[← hL];exact sU hG.sd
    rw[NB] at hex;simp only[Z8,seval,hI];exact⟨_,by apply gP;rfl;all_goals simp only[aI,bV,Z8,seval,hI,R5,n8,hex,wA]<;>rfl,S0,some R,0,rfl,hG.sd.flat,by simp only[ol,Option.getD_some];omega,by decide,fun _=>⟨w,hG,oJ,hC⟩⟩
 have hG:GI { sS s v b with iI:=b.root } (lI s v b) q:=aCi.iI b.root
 have oJ:RG { sS s v b with iI:=b.root } (lI s v b):=aCj.iI b.root
 have hC:({ sS s v b with iI:=b.root }).cFg=s.cFg:=hcf.1
 have pM:=MA hG.sd
 simp only[Z8,seval,UI,bf g1,bt g2,YU,g3,bt g4,g5,pM];refine Nz (a:=Bd) (A8 s v q) (GO (by omega) (m:=(ol (lI s v b).O).length) ⟨{ sS s v b with iI:=b.root },lI s v b,_,[b.root],66,0, ?start,.inl ⟨rfl,rfl⟩,.inl rfl,hG,oJ,hC,by simp;omega,rfl⟩) ?rest
 case start =>
  rw[sU hG.sd];simp only[E8,seval,gM,List.flatMap_cons,List.flatMap_nil,List.append_nil]<;>rfl
 case rest =>
  rintro e st ⟨rfl,S0,w,X,R,a,g,hI,ha,hX,hG,oJ,hC,hR⟩
  have R5:(a=4)=False:=eq_false ha
  have aGh:=hG.sd.fl
  have hfo:=hG.sd.bX
  rcases hX with rfl|⟨g',L,hL,rfl,n8⟩
  ·rw[sU hG.sd] at hI;have BD:=hG.sd.flat
   simp only[Z8,seval,hI];exact⟨_,by apply gP;rfl;all_goals simp only[aI,bV,Z8,seval,hI,R5,BD,wA]<;>rfl,S0,some R,0,rfl,BD,by simp only[ol,Option.getD_some];omega,by decide,fun _=>⟨w,hG,oJ,hC⟩⟩
  ·have hex:=fun st' hh=>zG (O:=L) (a:=91) (g:=g') hG.sd st' hh
   have NB:mW S0 (ov aH (some L))=S0:=by rw[← hL];exact sU hG.sd
   rw[NB] at hex;simp only[Z8,seval,hI];exact⟨_,by apply gP;rfl;all_goals simp only[aI,bV,Z8,seval,hI,R5,n8,hex,wA]<;>rfl,S0,some R,0,rfl,hG.sd.flat,by simp only[ol,Option.getD_some];omega,by decide,fun _=>⟨w,hG,oJ,hC⟩⟩
def PfR (q m:Int) (r:AV):Prop:=∃(t':State) (e:Int),r=.eN [.agg (aF t'),.v (.int .i64 e)]∧Flat (.agg (aF t'))∧(e=0∨e=21→∃v' Q' R',TI t' v' Q' R' (q+1000) (m+256))
theorem NC {t:State} (h:Flat (.agg (aF t))) {s':aO} (hs:Flat (.agg (aB s'))):Flat (.agg (aF { t with store:=s' })):=by
 obtain⟨_,_,_,_,_,_,_,h8,h9⟩:=(mN t).1 h
 obtain⟨h1,h2,h3,h4,h5,h6,h7⟩:=(Gx s').1 hs
 exact (mN _).2 ⟨h1,h2,h3,h4,h5,h6,h7,h8,h9⟩
theorem aQK {t:State} {v:SV} {Q R:Option (List Request)} {q m:Int} (h:TI t v Q R q m) (x:wZ) (hx:pE x) (hp:x.kind=2→Pr x.block.root) (hq:q+1000≤900000) (hm:m+256≤100000) :
 ∃r,aC Tryz.prog 185 [.agg (aF t),.agg (lC x)]=some r∧PfR q m r:=by
 have hf:=h.td.flat
 have XT:=h.gi.sd.flat
 have RW:=hx.flat
 have aCk:=hx.fl
 have up:∀ {t':State} {v':SV} {Q' R':Option (List Request)} {q' m':Int},TI t' v' Q' R' q' m'→q'≤q+1000→m'≤m+256→∃v' Q' R',TI t' v' Q' R' (q+1000) (m+256):=fun g a b=>⟨_,_,_,g.mono a hq b hm⟩
 have nt:=h.nt
 have mB:=h.mB
 have lq:=h.lq
 have lr:=h.lr
 have rB:=h.aCh
 rw[cL Tryz.func185 rfl aLS rfl];by_cases k1:x.kind=1
 ·obtain⟨y,hy,s',e,rfl,YV,ne,ho⟩:=aQu h.gi h.rg
  have k202:=kx hy (cV XT) (.eN _ (bH YV (.v _)))
  have ft:=NC hf YV
  by_cases e0:e=0
  ·obtain⟨v',g,r,c⟩:=ho e0
   have T0:=h.toTI0.store g r c
   have T1:=T0.drop
   have T2:=T1.due hm
   have k36:=kx (c36 T0.td) (cV ft) T1.td.flat
   have k74:=kx (c74 T1.td (by have:=T1.lq;have:=T1.lr;have:=T1.aCh;omega)) (cV T1.td.flat) T2.td.flat
   have B6:=T2.td.flat
   simp only[Z8,seval,bt k1,k202,eB,bt e0,k36,k74];exact⟨_,by apply dO;rfl;all_goals simp only[aI,bV,Z8,seval,B6]<;>rfl,_,e,rfl,B6,fun _=>up T2 (by omega) (by omega)⟩
  ·simp only[Z8,seval,bt k1,k202,eB,bf e0];exact⟨_,by apply dO;rfl;all_goals simp only[aI,bV,Z8,seval,ft]<;>rfl,_,e,rfl,ft,fun h=>absurd h (by omega)⟩
 by_cases k2:x.kind=2
 ·obtain⟨y,hy,s',L,e,rfl,YV,nL,ne,ho⟩:=aQJ h.gi h.rg x.block ⟨hx.rb,hp k2⟩
  have k203:=kx hy (bH XT (uT _)) (.eN _ (nD YV (Hg L) (.v _)))
  have ft:=NC hf YV
  by_cases e0:e=0
  ·obtain⟨v',g,r,c⟩:=ho e0
   have T0:=h.toTI0.store g r c
   have T1:=T0.drop
   have T2:=T1.open (ol L) (by omega) hm
   have k36:=kx (c36 T0.td) (cV ft) T1.td.flat
   have k32:∀(st:St) (d:Option Nat),fF (aC Tryz.prog) 32 _ st d=_:=fun st d=>Hh (bH T1.td.flat (Hg L)) (c32 T1.td L (by have:=T1.lq;omega)) T2.td.flat
   have B6:=T2.td.flat
   simp only[Z8,seval,bf k1,bt k2,k203,eB,bt e0,k36,k32];exact⟨_,by apply dO;rfl;all_goals simp only[aI,bV,Z8,seval,B6]<;>rfl,_,e,rfl,B6,fun _=>up T2 (by omega) (by omega)⟩
  ·simp only[Z8,seval,bf k1,bt k2,k203,eB,bf e0];exact⟨_,by apply dO;rfl;all_goals simp only[aI,bV,Z8,seval,ft]<;>rfl,_,e,rfl,ft,fun h=>absurd h (by omega)⟩
 by_cases k3:x.kind=3
 ·obtain⟨V,hV,nV⟩:=hx.Ge
  obtain⟨y,hy,s',e,rfl,YV,ne,ho⟩:=aPD h.gi h.rg x.Ge V hV (by omega)
  have k204:=kx hy (bH XT ((zC _).2 aCk.1)) (.eN _ (bH YV (.v _)))
  have ft:=NC hf YV
  have fin:e=0∨e=21→∃v' Q' R',TI { t with store:=s' } v' Q' R' (q+1000) (m+256):=fun he=>by
   obtain⟨v',g,r,c,en⟩:=ho (by omega)
   exact up ⟨h.toTI0.store g r c,by rw[en];exact h.B4,by rw[en];exact h.B5⟩ (by omega) (by omega)
  simp only[Z8,seval,bf k1,bf k2,bt k3,k204,eB];exact⟨_,by apply dO;rfl;all_goals simp only[aI,bV,Z8,seval,ft]<;>rfl,_,e,rfl,ft,fin⟩
 by_cases k4:x.kind=4
 ·obtain⟨V,hV,nV⟩:=hx.c1
  obtain⟨W,hW,nW⟩:=hx.c2
  obtain⟨y,hy,s',e,rfl,YV,ne,ho⟩:=aPC h.gi h.rg x.oU V W hV hW nV nW hq
  have k205:=kx hy (bH XT ((nG _).2 ⟨aCk.2.1,aCk.2.2.1⟩)) (.eN _ (bH YV (.v _)))
  have ft:=NC hf YV
  have fin:e=0∨e=21→∃v' Q' R',TI { t with store:=s' } v' Q' R' (q+1000) (m+256):=fun he=>by
   obtain⟨v',g,r,c,en⟩:=ho (by omega)
   exact up ⟨h.toTI0.store g r c,by rw[en];exact h.B4,by rw[en];exact h.B5⟩ (by omega) (by omega)
  simp only[Z8,seval,bf k1,bf k2,bf k3,bt k4,k205,eB];exact⟨_,by apply dO;rfl;all_goals simp only[aI,bV,Z8,seval,ft]<;>rfl,_,e,rfl,ft,fin⟩
 by_cases k5:x.kind=5
 ·have nT:=h.gi.nT
  have TN:=h.gi.TN
  obtain⟨y,hy,s',e,rfl,YV,ne,ho⟩:=aPf h.gi.sd (by omega) x.table hx.P9
  have k117:=kx hy (bH XT ((kK _).2 aCk.2.2.2)) (.eN _ (bH YV (.v _)))
  have ft:=NC hf YV
  have fin:e=0∨e=21→∃v' Q' R',TI { t with store:=s' } v' Q' R' (q+1000) (m+256):=fun he=>by
   obtain⟨o',rfl,nl,tb,sub,ne1,ne2⟩:=ho (by omega)
   have g:GI { t.store with tables:=ov aT o' } { v with T:=o' } q :=
    ⟨⟨h.gi.sd.jN,h.gi.sd.dQ,h.gi.sd.gZ,h.gi.sd.early,h.gi.sd.bX,h.gi.sd.tree,rfl,h.gi.sd.eV,tb,h.gi.sd.nB,h.gi.sd.nL,h.gi.sd.nQ,h.gi.sd.nE,h.gi.sd.nO,by show ((ol o').length:Int)<_;omega,h.gi.sd.nn⟩,h.gi.up,h.gi.LD,h.gi.pos,h.gi.nl,h.gi.TM,h.gi.qS,h.gi.MC,h.gi.nB,h.gi.nO,h.gi.MD,h.gi.nE,h.gi.RX,by show ((ol o').length:Int)≤t.store.cFg.mH.qT;omega,h.gi.TN,h.gi.nQ,h.gi.N6,h.gi.hU⟩
   have r:RG { t.store with tables:=ov aT o' } { v with T:=o' }:=⟨h.rg.now,h.rg.j,h.rg.f,h.rg.nd,h.rg.or,h.rg.rt,h.rg.fe,h.rg.ds,by obtain⟨tb,h1,h2⟩:=h.rg.tb;exact⟨tb,sub h1,h2⟩,⟨h.rg.ne.q,h.rg.ne.e,h.rg.ne.o,ne1,h.rg.ne.ea,fun x hx=>(ne2 x hx).elim (h.rg.ne.tb x) fun ⟨B,h1,h2⟩=>⟨B,h1,fun e=>by have h3:=h.jN.1;rw[e] at h2;simp at h2;omega⟩⟩⟩
   exact up ⟨h.toTI0.store g r rfl,h.B4,h.B5⟩ (by omega) (by omega)
  simp only[Z8,seval,bf k1,bf k2,bf k3,bf k4,bt k5,k117,eB];exact⟨_,by apply dO;rfl;all_goals simp only[aI,bV,Z8,seval,ft]<;>rfl,_,e,rfl,ft,fin⟩
 by_cases k6:x.kind=6
 ·obtain⟨y,hy,t',e,v',Q',R',rfl,g⟩:=aQG h x.verdict
  have k206:=kx hy (bH hf (.agg _ (gN _))) (.eN _ (bH g.td.flat (.v _)))
  have ft:=g.td.flat
  simp only[Z8,seval,bf k1,bf k2,bf k3,bf k4,bf k5,bt k6,k206,eB];exact⟨_,by apply dO;rfl;all_goals simp only[aI,bV,Z8,seval,ft]<;>rfl,_,e,rfl,ft,fun _=>up g (by omega) (by omega)⟩
 simp only[Z8,seval,bf k1,bf k2,bf k3,bf k4,bf k5,bf k6];exact⟨_,by apply dO;rfl;all_goals simp only[aI,bV,Z8,seval,hf]<;>rfl,t,2,rfl,hf,fun h=>absurd h (by omega)⟩
theorem aQM {t:State} {v:SV} {Q R:Option (List Request)} {q m:Int} (h:TI t v Q R q m) (x:wZ) (hx:pE x) (hp:x.kind=2→Pr x.block.root) (hq:q+1000≤900000) (hm:m+256≤100000) :
 ∃r,aC Tryz.prog 147 [.agg (aF t),.agg (lC x)]=some r∧∃(t':State) (y:AV) (e:Int) (v':SV) (Q' R':Option (List Request)),r=.eN [.agg (aF t'),y,.v (.int .i64 e)]∧Flat y∧TI t' v' Q' R' (q+1000) (m+256):=by
 have hf:=h.td.flat
 have RW:=hx.flat
 have h':=h.mono (q':=q+1000) (m':=m+256) (by omega) hq (by omega) hm
 obtain⟨y1,hy1,e1,rfl⟩:=aPZ x hx
 have aCl:=kx hy1 (cV RW) (.v _)
 obtain⟨y2,hy2,t2,e2,rfl,B6,ho⟩:=aQK h x hx hp hq hm
 have aGi:=kx hy2 (bH hf RW) (.eN _ (bH B6 (.v _)))
 rw[cL Tryz.func147 rfl aLU rfl];cases g0:t.halted
 case true =>
  simp only[Z8,seval,g0];exact⟨_,by apply gP;rfl;all_goals simp only[aI,bV,Z8,seval,hf]<;>rfl,t,_,22,v,Q,R,rfl,.v _,h'⟩
 by_cases g1:e1=0
 case neg =>
  simp only[Z8,seval,g0,aCl,bf g1];exact⟨_,by apply gP;rfl;all_goals simp only[aI,bV,Z8,seval,hf]<;>rfl,t,_,e1,v,Q,R,rfl,.v _,h'⟩
 by_cases g2:e2=21
 ·obtain⟨v',Q',R',T⟩:=ho (.inr g2)
  simp only[Z8,seval,g0,aCl,bt g1,aGi,eB,bt g2];exact⟨_,by apply gP;rfl;all_goals simp only[aI,bV,Z8,seval,B6]<;>rfl,t2,_,e2,v',Q',R',rfl,.v _,T⟩
 by_cases g3:e2=0
 case neg =>
  simp only[Z8,seval,g0,aCl,bt g1,aGi,eB,bf g2,bf g3];exact⟨_,by apply gP;rfl;all_goals simp only[aI,bV,Z8,seval,hf]<;>rfl,t,_,e2,v,Q,R,rfl,.v _,h'⟩
 obtain⟨v',Q',R',T⟩:=ho (.inl g3)
 obtain⟨y3,hy3,b,c,y,rfl,fy⟩:=aK0 t2 B6 T.gi
 have T':=T.emit b c
 have ft3:=T'.td.flat
 have aGj:=kx hy3 (cV B6) (.eN _ (bH ft3 fy))
 simp only[Z8,seval,g0,aCl,bt g1,aGi,eB,bf g2,bt g3,aGj];exact⟨_,gP rfl (by simp only[bV,Z8,seval]<;>rfl) (by simp only[bV,Z8,seval]<;>rfl) (by simp only[bV,E8,seval]<;>rfl) (dP ft3) (dP fy) (dP (.v _)),_,y,0,v',Q',R',rfl,fy,T'⟩
theorem tG (n:Int):(mkRoot n)[0]=IntKind.u8.wrap n:=by
 simp[mkRoot]
theorem Hk {n:Int} (h0:0≤n) (h1:n<256):IntKind.u8.wrap n=n:=by
 simp only[IntKind.wrap,IntKind.bits,IntKind.signed];simp
 omega
theorem aEW {n:Int} (h0:1≤n) (h1:n≤98):Pr (mkRoot n):=by
 refine⟨fun e=>?_,fun e=>?_⟩
 ·have e1:IntKind.u8.wrap n=dL[0]:=by rw[← tG,e]
  rw[Hk (by omega) (by omega),show dL[0]=0 from rfl] at e1
  omega
 ·have e1:IntKind.u8.wrap n=IntKind.u8.wrap 99:=by rw[← tG,← tG,e]
  rw[Hk (by omega) (by omega),Hk (by omega) (by omega)] at e1
  omega
theorem RG.new {c:Config} {b:List Int} (h:Nw c b):RG (TY c b) (Tv c b):=by
 have hg:Pr c.eC:=by rw[h.gen];exact aEW (by omega) (by omega)
 have z:Rg 0:=YQ
 refine⟨⟨by show (0:Int)≤0;omega,by show (0:Int)≤_;omega⟩,z,z,fun n hn=>?_,(fun o ho=>by cases ho),fun n hn=>?_,⟨by show (0:Int)≤0;omega, ?_⟩, ?_, ?_, ?_⟩
 ·rw[show n=⟨GH c,-1,1⟩ from List.mem_singleton.1 hn];exact⟨⟨z,z,z,z,z⟩,by show (0:Int)≤0;omega⟩
 ·rw[show n=⟨GH c,-1,1⟩ from List.mem_singleton.1 hn];exact hg
 ·show (0:Int)≤IntKind.u64.wrap (Int.tdiv 0 c.qS)
  rw[Int.zero_tdiv];decide
 ·show ([c.eC]:List cK).Nodup
  simp
 ·exact⟨⟨⟨0,c.eC⟩,ov bD (some b)⟩,List.mem_singleton.2 rfl,rfl⟩
 ·exact⟨nofun,nofun,nofun,by simp[Tv],(fun a ha=>by cases ha),fun t ht=>⟨b,by rw[show t=⟨⟨0,c.eC⟩,ov bD (some b)⟩ from List.mem_singleton.1 ht],fun e=>by have:=h.nb.1;rw[e] at this;simp at this⟩⟩
def B7 (c:Config) (b:List Int):State:={ jR with store:=TY c b,cT:=1 }
theorem TI.new {c:Config} {b:List Int} (h:Nw c b):TI (B7 c b) (Tv c b) none none 0 0:=by
 have g:=GI.new h
 have r:=RG.new h
 have hr:=h.oI
 exact⟨⟨⟨g.sd,rfl,rfl,by show ((0:Nat):Int)<_;omega,by show ((0:Nat):Int)<_;omega⟩,g,r,⟨b,h⟩,⟨by show (1:Int)≤1;omega,(fun r hr=>by cases hr),List.Pairwise.nil⟩,⟨(fun r hr=>by cases hr),List.Pairwise.nil⟩,by show (1:Int)≤1+0;omega,by show ((0:Nat):Int)≤0;omega,by show ((0:Nat):Int)≤c.mH.oI;omega,by omega,nofun,nofun⟩,(fun r hr=>by cases hr),(fun r hr=>by cases hr)⟩
theorem aLX {c:Config} {b:List Int} (h:Nw c b):∃r,aC Tryz.prog 144 [.agg (bU c)]=some r∧∃(zH:Bool) (last:Command) (y:AV),r=.eN [.agg (aF { B7 c b with zH:=zH,last:=last }),y,.v (.int .i64 0)]∧Flat y:=by
 have T:=TI.new h
 have fc:Flat (.agg (bU c)):=(yI c).2 (by rw[h.jN];exact dR _)
 have fs:=T.gi.sd.flat
 have k102:=kx (aPI h) (cV fc) (.eN _ (bH fs (.v _)))
 obtain⟨y3,hy3,s,l,y,rfl,fy⟩:=aK0 (B7 c b) T.td.flat T.gi
 have ft3:=(T.emit s l).td.flat
 have aGj:=kx hy3 (cV T.td.flat) (.eN _ (bH ft3 fy))
 have eb:({ jR with store:=TY c b,cT:=1 }:State)=B7 c b:=rfl
 rw[cL Tryz.func144 rfl aLY rfl];simp only[Z8,seval,k102,eB,eb,aGj];exact⟨_,gP rfl (by simp only[bV,Z8,seval]<;>rfl) (by simp only[bV,Z8,seval]<;>rfl) (by simp only[bV,E8,seval]<;>rfl) (dP ft3) (dP fy) (dP (.v _)),s,l,y,rfl,fy⟩
end Go.Ab.Tryz
