/-
  Part 16 of the proof: an evaluator of programs, its soundness, and what functions of this program compute.
-/
import Derived.Test.YtmcjkemalibacaaGreatK15
import Derived.Test.YtmcjkemalibacaaGreatK11
import Derived.Test.YtmcjkemalibacaaGreatK13
import Derived.Test.YtmcjkemalibacaaGreatK10
import Derived.Test.YtmcjkemalibacaaGreatK14
set_option linter.all false
set_option maxRecDepth 20000
set_option maxHeartbeats 40000000
open Go.IntKind (i64 u64)
open List Go.Proofs.Tryz
noncomputable section
namespace Go.Ab.Tryz
open Classical Go.Proofs Go.Ab
def Ff (t:State) (X Y:AV) (tag:Int):State:={ t with jA:=X,rW:=Y,dB:=tag }
def aME:aB 0 3 (some 3)=[]/\aB 1 8 (some 8)=[]/\aB 2 8 (some 14)=[]/\aB 3 5 (some 21)=[]/\aB 4 2 (some 25)=[]:=⟨rfl,rfl,rfl,rfl,rfl⟩
def aG0 (t:State) (Y:AV) (o:Option (List Request)) (tag:Int) (hn:((ol o).length:Int)<1000000) (r:cC) (n:Int) :
 ∃G:St->St,∀st,qH prog 86 [.agg (aP (Ff t (ov aF o) Y tag)),.agg (bC r),.v (.int .i64 n)] st=some (.agg (aP (Ff t (.own 19 (st.aQ 19)) Y (u64.wrap (tag+1)))),G st)/\Gs st (G st)/\(G st).heap 19 (st.aQ 19)=some (.row 63 35 (ol o++[(⟨⟨tag⟩,r,n,0⟩:Request)]).length (aF (ol o++[(⟨⟨tag⟩,r,n,0⟩:Request)])))/\st.aQ 19<(G st).aQ 19:=by
 have one:∀st,∃st',qH prog 86 [.agg (aP (Ff t (ov aF o) Y tag)),.agg (bC r),.v (.int .i64 n)] st=some (.agg (aP (Ff t (.own 19 (st.aQ 19)) Y (u64.wrap (tag+1)))),st')/\Gs st (st')/\(st').heap 19 (st.aQ 19)=some (.row 63 35 (ol o++[(⟨⟨tag⟩,r,n,0⟩:Request)]).length (aF (ol o++[(⟨⟨tag⟩,r,n,0⟩:Request)])))/\st.aQ 19<(st').aQ 19:=by
  intro st;by_cases hy:True
  case neg=>exact⟨st,absurd trivial hy⟩
  suffices h:∃st',qH prog 86 [.agg (aP (Ff t (ov aF o) Y tag)),.agg (bC r),.v (.int .i64 n)] st=some (.agg (aP (Ff t (.own 19 (st.aQ 19)) Y (u64.wrap (tag+1)))),st')/\Gs st (st')/\(st').heap 19 (st.aQ 19)=some (.row 63 35 (ol o++[(⟨⟨tag⟩,r,n,0⟩:Request)]).length (aF (ol o++[(⟨⟨tag⟩,r,n,0⟩:Request)])))/\st.aQ 19<(st').aQ 19 by
   obtain⟨st',h⟩:=h
   exact⟨st',h⟩
  have e1:(Ff t (ov aF o) Y tag).jA=ov aF o:=rfl
  have e2:(Ff t (ov aF o) Y tag).dB=tag:=rfl
  have zR:dA.due=0:=rfl
  rw[Cx prog func86 rfl (by kernel_rfl)]
  simp only[ZG,seval,aME,e1,e2,zR,rS _ hn,uD _ _ _ _ hn];refine⟨_,yB (P:=prog) (fn:=Tryz.f86) (r:=.cell 6 58) (x:=.agg (aP (Ff t (.own 19 (st.aQ 19)) Y (u64.wrap (tag+1))))) (.inl rfl) rfl ?h1,⟨fun x g hg=>?h2,fun x=>?h3⟩, ?h4, ?h5⟩
  case h1 =>
   rw[rV];simp only[bY,Z8,seval];rfl
  case h2 =>
   have n3:(x=3/\g=st.aQ 3)=False:=eq_false (by rintro⟨rfl,rfl⟩;omega)
   have n4:(x=4/\g=st.aQ 4)=False:=eq_false (by rintro⟨rfl,rfl⟩;omega)
   have n6:(x=6/\g=st.aQ 6)=False:=eq_false (by rintro⟨rfl,rfl⟩;omega)
   have n7:(x=7/\g=st.aQ 7)=False:=eq_false (by rintro⟨rfl,rfl⟩;omega)
   have n16:(x=16/\g=st.aQ 16)=False:=eq_false (by rintro⟨rfl,rfl⟩;omega)
   have n18:(x=18/\g=st.aQ 18)=False:=eq_false (by rintro⟨rfl,rfl⟩;omega)
   have n19:(x=19/\g=st.aQ 19)=False:=eq_false (by rintro⟨rfl,rfl⟩;omega)
   simp only[E8,seval,aT,aX,n3,n4,n6,n7,n16,n18,n19,if_false]
  case h3 =>
   simp only[E8,seval,aT,aX];split<;>(try split)<;>(try split)<;>(try split)<;>(try split)<;>(try split)<;>(try split)<;>subst_vars<;>omega
  case h4=>simp only[E8,seval,aT,aX]
  case h5=>simp only[E8,seval,aT,aX]<;>omega
 exact⟨fun st=>Classical.choose (one st),fun st=>Classical.choose_spec (one st)⟩
def aBb (t:State) (Y:AV) (g0:Nat) (L:List Request) (tag:Int) (hn:((L).length:Int)<1000000) (r:cC) (n:Int) :
 ∃G:St->St,∀st,(st.heap 19 g0=some (.row 63 35 L.length (aF L))/\g0<st.aQ 19)->qH prog 86 [.agg (aP (Ff t (.own 19 g0) Y tag)),.agg (bC r),.v (.int .i64 n)] st=some (.agg (aP (Ff t (.own 19 (st.aQ 19)) Y (u64.wrap (tag+1)))),G st)/\Gs st (G st)/\(G st).heap 19 (st.aQ 19)=some (.row 63 35 (L++[(⟨⟨tag⟩,r,n,0⟩:Request)]).length (aF (L++[(⟨⟨tag⟩,r,n,0⟩:Request)])))/\st.aQ 19<(G st).aQ 19:=by
 have one:∀st,∃st',(st.heap 19 g0=some (.row 63 35 L.length (aF L))/\g0<st.aQ 19)->qH prog 86 [.agg (aP (Ff t (.own 19 g0) Y tag)),.agg (bC r),.v (.int .i64 n)] st=some (.agg (aP (Ff t (.own 19 (st.aQ 19)) Y (u64.wrap (tag+1)))),st')/\Gs st (st')/\(st').heap 19 (st.aQ 19)=some (.row 63 35 (L++[(⟨⟨tag⟩,r,n,0⟩:Request)]).length (aF (L++[(⟨⟨tag⟩,r,n,0⟩:Request)])))/\st.aQ 19<(st').aQ 19:=by
  intro st;by_cases hy:(st.heap 19 g0=some (.row 63 35 L.length (aF L))/\g0<st.aQ 19)
  case neg=>exact⟨st,fun h=>absurd h hy⟩
  suffices h:∃st',qH prog 86 [.agg (aP (Ff t (.own 19 g0) Y tag)),.agg (bC r),.v (.int .i64 n)] st=some (.agg (aP (Ff t (.own 19 (st.aQ 19)) Y (u64.wrap (tag+1)))),st')/\Gs st (st')/\(st').heap 19 (st.aQ 19)=some (.row 63 35 (L++[(⟨⟨tag⟩,r,n,0⟩:Request)]).length (aF (L++[(⟨⟨tag⟩,r,n,0⟩:Request)])))/\st.aQ 19<(st').aQ 19 by
   obtain⟨st',h⟩:=h
   exact⟨st',fun _=>h⟩
  have e1:(Ff t (.own 19 g0) Y tag).jA=.own 19 g0:=rfl
  have e2:(Ff t (.own 19 g0) Y tag).dB=tag:=rfl
  have zR:dA.due=0:=rfl
  have vQ:(g0=st.aQ 19)=False:=eq_false (by have:=hy.2;omega)
  rw[Cx prog func86 rfl (by kernel_rfl)]
  simp only[ZG,seval,aME,e1,e2,zR,hy.1,vQ,rS _ hn,uD _ _ _ _ hn];refine⟨_,yB (P:=prog) (fn:=Tryz.f86) (r:=.cell 6 58) (x:=.agg (aP (Ff t (.own 19 (st.aQ 19)) Y (u64.wrap (tag+1))))) (.inl rfl) rfl ?h1,⟨fun x g hg=>?h2,fun x=>?h3⟩, ?h4, ?h5⟩
  case h1 =>
   rw[rV];simp only[bY,Z8,seval];rfl
  case h2 =>
   have n3:(x=3/\g=st.aQ 3)=False:=eq_false (by rintro⟨rfl,rfl⟩;omega)
   have n4:(x=4/\g=st.aQ 4)=False:=eq_false (by rintro⟨rfl,rfl⟩;omega)
   have n6:(x=6/\g=st.aQ 6)=False:=eq_false (by rintro⟨rfl,rfl⟩;omega)
   have n7:(x=7/\g=st.aQ 7)=False:=eq_false (by rintro⟨rfl,rfl⟩;omega)
   have n16:(x=16/\g=st.aQ 16)=False:=eq_false (by rintro⟨rfl,rfl⟩;omega)
   have n18:(x=18/\g=st.aQ 18)=False:=eq_false (by rintro⟨rfl,rfl⟩;omega)
   have n19:(x=19/\g=st.aQ 19)=False:=eq_false (by rintro⟨rfl,rfl⟩;omega)
   simp only[E8,seval,aT,aX,n3,n4,n6,n7,n16,n18,n19,if_false]
  case h3 =>
   simp only[E8,seval,aT,aX];split<;>(try split)<;>(try split)<;>(try split)<;>(try split)<;>(try split)<;>(try split)<;>subst_vars<;>omega
  case h4=>simp only[E8,seval,aT,aX]
  case h5=>simp only[E8,seval,aT,aX]<;>omega
 exact⟨fun st=>Classical.choose (one st),fun st=>Classical.choose_spec (one st)⟩
def Pc (ns:List Node) (now:Int) (a:(Option (List Request) × Int) × List Request) (r:Request):(Option (List Request) × Int) × List Request :=
 if now<r.due then (a.1,a.2++[r]) else if Bf ns r.block then ((some (ol a.1.1++[⟨⟨a.1.2⟩,r.block,r.tries,0⟩]),u64.wrap (a.1.2+1)),a.2) else a
def Bg (ns:List Node) (now:Int) (a:(Option (List Request) × Int) × List Request) (l:List Request):(Option (List Request) × Int) × List Request:=l.foldl (Pc ns now) a
def Q0 (ns:List Node) (now:Int) (a:(Option (List Request) × Int) × List Request) (l:List Request) (k:Nat) (h:k<l.length):Bg ns now a (l.take (k+1))=Pc ns now (Bg ns now a (l.take k)) (gx dA l k):=by
 unfold Bg;rw[take_succ_eq_append_getElem h,foldl_append];simp[gx,h]
def aBc (ns:List Node) (now:Int) (a:(Option (List Request) × Int) × List Request) (r:Request):(ol (Pc ns now a r).1.1).length<=(ol a.1.1).length+1/\(Pc ns now a r).2.length<=a.2.length+1:=by
 unfold Pc;split
 ·refine⟨by dsimp only;omega, ?_⟩
  dsimp only;rw[length_append,length_cons,length_nil];omega
 ·split
  ·refine⟨?_,by dsimp only;omega⟩
   show (ol a.1.1++[_]).length<=_;rw[length_append,length_cons,length_nil];omega
  ·omega
def SC (ns:List Node) (now:Int) (l:List Request):∀(a:(Option (List Request) × Int) × List Request),(ol (Bg ns now a l).1.1).length<=(ol a.1.1).length+l.length/\(Bg ns now a l).2.length<=a.2.length+l.length:=by
 induction l with
 | nil=>intro a;exact⟨Nat.le_refl _,Nat.le_refl _⟩
 | cons r l ih =>
   intro a;have h1:=ih (Pc ns now a r)
   have h2:=aBc ns now a r
   rw[length_cons];show (ol (Bg ns now (Pc ns now a r) l).1.1).length<=_/\(Bg ns now (Pc ns now a r) l).2.length<=_
   omega
def qJ {st:St} (o:Option (List Request)):cN st (ov aF o)=some (ov aF o):=BR (jB o)
def kI {st:St} {a g:Nat} {L:List Request} (h:st.heap a g=some (.row 63 35 L.length (aF L))):cN st (.own a g)=some (ov aF (some L)):=by
 rw[bM,h];exact pZ _ _
def I4 {t:State} {v:SV} {Q R:Option (List Request)} (h:TD t v Q R) (st:St) {X Y X' Y':AV} (hx:cN st X=some X') (hy:cN st Y=some Y') (tag:Int):fS st (.agg (aP (Ff t X Y tag)))=some (.agg (aP (Ff t X' Y' tag))):=by
 have pH:=h.fl
 unfold Ff;simp only[bP,wS,gH,hx,hy,cY,jE,pH,cF]
def TD.rq {t:State} {v:SV} {Q R:Option (List Request)} (h:TD t v Q R) (q z:Option (List Request)) (tag:Int) (hq:((ol q).length:Int)<900000) (hz:((ol z).length:Int)<900000):TD (Ff t (ov aF q) (ov aF z) tag) v q z:=⟨h.sd,rfl,rfl,hq,hz⟩
def SE {t:State} {v:SV} {Q R:Option (List Request)} (h:TD t v Q R) (q z:Option (List Request)) (tag:Int) (hq:((ol q).length:Int)<900000) (hz:((ol z).length:Int)<900000) (r:cC) (st:St) (d:Option Nat) {X Y:AV} (hx:cN st X=some (ov aF q)) (hy:cN st Y=some (ov aF z)) :
 bH (aG prog) 85 [.agg (aP (Ff t X Y tag)),.agg (bC r)] st d=some { dst:=d,val:=.v (.bool (decide (Bf v.ns r)))}:=by
 rw[jY,map_cons,map_cons,map_nil,I4 h st hx hy,Us,bK,bK,fY];exact Uc (c85 (h.rq q z tag hq hz) r)
def aEy {call:Nat->List AV->Option AV} {inl:Nat->List AV->St->Option (AV × St)} {ops:Array Oper} {st:St} {T:Nat} {pos:String} {fB:Array Edge} (x:Array Operand) (y:Array Nat) :
 gT prog true call inl ops ⟨some 50,.call ⟨.value (.func 86),x,y⟩,T,pos,fB,none⟩ st=cT (inl 86 (x.toList.map st.ev) st) fun r=>some ((st.back r.2).put (some 50) r.1):=ZS 86 x y (BY rfl)
def LX (t:State) (ns:List Node) (Q R:Option (List Request)):(Option (List Request) × Int) × List Request:=Bg ns t.store.now ((Q,t.dB),[]) (ol R)
def aEz (t:State) (ns:List Node) (Q R:Option (List Request)):State:=Ff t (ov aF (LX t ns Q R).1.1) (ov aF (nz (LX t ns Q R).2)) (LX t ns Q R).1.2
def Ds (t:State) (X Y:AV) (tag:Int):(Ff t X Y tag).jA=X:=rfl
def Dt (t:State) (X Y:AV) (tag:Int):(Ff t X Y tag).rW=Y:=rfl
def Du (t:State) (X Y:AV) (tag:Int):(Ff t X Y tag).dB=tag:=rfl
def Dv (t:State) (X Y:AV) (tag:Int):(Ff t X Y tag).store=t.store:=rfl
def c74 {t:State} {v:SV} {Q R:Option (List Request)} (h:TD t v Q R) (hn:((ol Q).length:Int)+(ol R).length<800000):aG prog 74 [.agg (aP t)]=some (.agg (aP (aEz t v.ns Q R))):=by
 have pH:=h.fl
 have nR:=h.nR
 have hlen:∀k:Nat,(ol (Bg v.ns t.store.now ((Q,t.dB),[]) ((ol R).take k)).1.1).length<=(ol Q).length+(ol R).length/\(Bg v.ns t.store.now ((Q,t.dB),[]) ((ol R).take k)).2.length<=(ol R).length:=fun k=>by
  have h1:=SC v.ns t.store.now ((ol R).take k) ((Q,t.dB),[])
  have h2:=length_take_le' k (ol R)
  have e:(ol ((Q,t.dB),([]:List Request)).1.1).length=(ol Q).length:=rfl
  have e2:((Q,t.dB),([]:List Request)).2.length=0:=rfl
  rw[e,e2] at h1;omega
 rw[cG func74 rfl rfl]
 refine iA ?_
 simp only[ZG,seval,Mx,h.ret];refine kZ (fun m st=>∃(k:Nat) (X Y:AV) (p:(Option (List Request) × Int) × List Request),(st.env 1=.ptr 1 0 0/\st.heap 1 0=some (.cells (aP (Ff t X Y p.1.2)))/\st.env 2=.ptr 2 0 0/\st.heap 2 0=some (.cells (aP lZ))/\st.env 3=ov aF R/\st.env 4=.v (.int .i64 k)/\0<st.aQ 1/\0<st.aQ 2)/\(X=ov aF p.1.1\/∃g L,p.1.1=some L/\X=.own 19 g/\g<st.aQ 19/\st.heap 19 g=some (.row 63 35 L.length (aF L)))/\((Y=.v (.slice none 0 0)/\p.2=[])\/∃g,p.2≠[]/\Y=.own 30 g/\g<st.aQ 30/\st.heap 30 g=some (.row 63 35 p.2.length (aF p.2)))/\p=Bg v.ns t.store.now ((Q,t.dB),[]) ((ol R).take k)/\k<=(ol R).length/\m=(ol R).length-k)
  (fun e st=>e=.exit 0/\∃(X Y:AV) (p:(Option (List Request) × Int) × List Request),(st.env 1=.ptr 1 0 0/\st.heap 1 0=some (.cells (aP (Ff t X Y p.1.2)))/\st.env 2=.ptr 2 0 0/\st.heap 2 0=some (.cells (aP lZ)))/\(X=ov aF p.1.1\/∃g L,p.1.1=some L/\X=.own 19 g/\st.heap 19 g=some (.row 63 35 L.length (aF L)))/\((Y=.v (.slice none 0 0)/\p.2=[])\/∃g,p.2≠[]/\Y=.own 30 g/\st.heap 30 g=some (.row 63 35 p.2.length (aF p.2)))/\p=LX t v.ns Q R) (ol R).length ?step ?start ?rest
 case step =>
  rintro m st ⟨k,X,Y,p,hI,hX,hY,hp,hk,hm⟩
  by_cases aW:(k:Int)<(ol R).length
  case neg =>
   have Cn:k=(ol R).length:=by omega
   rw[Cn,take_length] at hp;have hX':(X=ov aF p.1.1\/∃g L,p.1.1=some L/\X=.own 19 g/\st.heap 19 g=some (.row 63 35 L.length (aF L))):=hX.imp id fun ⟨g,L,a,b,_,c⟩=>⟨g,L,a,b,c⟩
   have hY':((Y=.v (.slice none 0 0)/\p.2=[])\/∃g,p.2≠[]/\Y=.own 30 g/\st.heap 30 g=some (.row 63 35 p.2.length (aF p.2))):=hY.imp id fun ⟨g,a,b,_,c⟩=>⟨g,a,b,c⟩
   apply IY (.exit 0)
   ·simp only[ZG,seval,Mx,hI,aW];rfl
   ·exact⟨rfl,X,Y,p,by simp only[E8,seval,hI],by simpa only[E8,seval] using hX',by simpa only[E8,seval] using hY',hp⟩
  have q0:(0:Int)<=k:=by omega
  have hw:=wk (k:=k) (by omega)
  have hs:=Q0 v.ns t.store.now ((Q,t.dB),[]) (ol R) k (by omega)
  have hl:=hlen k
  have zL:=hlen (k+1)
  rw[<- hp] at hs hl;obtain⟨r,er⟩:∃r,gx dA (ol R) (k:Int)=r:=⟨_,rfl⟩
  rw[er] at hs;unfold Pc at hs;have Z3:((ol p.1.1).length:Int)<900000:=by omega
  have nZ9:(p.2.length:Int)<900000:=by omega
  have nZ:(p.2.length:Int)<1000000:=by omega
  by_cases g1:t.store.now<r.due
  ·rw[if_pos g1] at hs;rcases hY with ⟨rfl,hz⟩|⟨g,hz,rfl,hg,hh⟩
   ·apply Dr ((ol R).length-(k+1))
    ·simp only[ZG,seval,Mx,hI,aW,q0,er,Ds,Dt,Du,Dv,g1,hw];rfl
    ·exact⟨k+1,X,_,(p.1,p.2++[r]),by and_intros<;>(simp only[E8,seval,hI]<;>rfl),by simpa only[E8,seval] using hX,.inr ⟨_,by simp,rfl,by simp only[E8,seval]<;>omega,by rw[hz];simp only[E8,seval]<;>rfl⟩,hs.symm,by omega,rfl⟩
   ·have vQ:(g=st.aQ 30)=False:=eq_false (by omega)
    apply Dr ((ol R).length-(k+1))
    ·simp only[ZG,seval,Mx,hI,aW,q0,er,Ds,Dt,Du,Dv,hh,vQ,g1,hw,uD _ _ _ _ nZ];rfl
    ·exact⟨k+1,X,_,(p.1,p.2++[r]),by and_intros<;>(simp only[E8,seval,hI]<;>rfl),by simpa only[E8,seval] using hX,.inr ⟨_,by simp,rfl,by simp only[E8,seval]<;>omega,by simp only[E8,seval]<;>rfl⟩,hs.symm,by omega,rfl⟩
  rw[if_neg g1] at hs;by_cases g2:Bf v.ns r.block
  case neg =>
   rw[if_neg g2] at hs;rcases hX with rfl|⟨g,L,hL,rfl,hg,hh⟩
   ·rcases hY with ⟨rfl,hz⟩|⟨g9,hz,rfl,hg9,SF⟩
    ·have Pd:∀(st:St) (d:Option Nat),bH (aG prog) 85 [.agg (aP (Ff t (ov aF p.1.1) (.v (.slice none 0 0)) p.1.2)),.agg (bC r.block)] st d=some { dst:=d,val:=.v (.bool (decide (Bf v.ns r.block)))}:=fun st d=>SE h p.1.1 none p.1.2 Z3 (by show ((0:Nat):Int)<_;omega) r.block st d (qJ _) (show cN st (.v (.slice none 0 0))=some (ov aF none) from qJ none)
     apply Dr ((ol R).length-(k+1))
     ·simp only[ZG,seval,Mx,hI,aW,q0,er,Ds,Dt,Du,Dv,g1,Pd,g2,hw];rfl
     ·exact⟨k+1,_,_,p,by and_intros<;>(simp only[E8,seval,hI]<;>rfl),.inl rfl,.inl ⟨rfl,hz⟩,hs.symm,by omega,rfl⟩
    ·have Pd:∀(st:St) (d:Option Nat),st.heap 30 g9=some (.row 63 35 p.2.length (aF p.2))->bH (aG prog) 85 [.agg (aP (Ff t (ov aF p.1.1) (.own 30 g9) p.1.2)),.agg (bC r.block)] st d=some { dst:=d,val:=.v (.bool (decide (Bf v.ns r.block)))}:=fun st d h2=>SE h p.1.1 (some p.2) p.1.2 Z3 nZ9 r.block st d (qJ _) (show cN st (.own 30 g9)=some (ov aF (some p.2)) from kI h2)
     apply Dr ((ol R).length-(k+1))
     ·simp only[ZG,seval,Mx,hI,aW,q0,er,Ds,Dt,Du,Dv,g1,Pd,SF,g2,hw];rfl
     ·exact⟨k+1,_,_,p,by and_intros<;>(simp only[E8,seval,hI]<;>rfl),.inl rfl,.inr ⟨g9,hz,rfl,by simp only[E8,seval]<;>omega,by simp only[E8,seval,SF]⟩,hs.symm,by omega,rfl⟩
   ·rcases hY with ⟨rfl,hz⟩|⟨g9,hz,rfl,hg9,SF⟩
    ·have Pd:∀(st:St) (d:Option Nat),st.heap 19 g=some (.row 63 35 L.length (aF L))->bH (aG prog) 85 [.agg (aP (Ff t (.own 19 g) (.v (.slice none 0 0)) p.1.2)),.agg (bC r.block)] st d=some { dst:=d,val:=.v (.bool (decide (Bf v.ns r.block)))}:=fun st d h1=>SE h p.1.1 none p.1.2 Z3 (by show ((0:Nat):Int)<_;omega) r.block st d (by rw[hL];exact kI h1) (show cN st (.v (.slice none 0 0))=some (ov aF none) from qJ none)
     apply Dr ((ol R).length-(k+1))
     ·simp only[ZG,seval,Mx,hI,aW,q0,er,Ds,Dt,Du,Dv,g1,Pd,hh,g2,hw];rfl
     ·exact⟨k+1,_,_,p,by and_intros<;>(simp only[E8,seval,hI]<;>rfl),.inr ⟨g,L,hL,rfl,by simp only[E8,seval]<;>omega,by simp only[E8,seval,hh]⟩,.inl ⟨rfl,hz⟩,hs.symm,by omega,rfl⟩
    ·have Pd:∀(st:St) (d:Option Nat),st.heap 19 g=some (.row 63 35 L.length (aF L))->st.heap 30 g9=some (.row 63 35 p.2.length (aF p.2))->bH (aG prog) 85 [.agg (aP (Ff t (.own 19 g) (.own 30 g9) p.1.2)),.agg (bC r.block)] st d=some { dst:=d,val:=.v (.bool (decide (Bf v.ns r.block)))}:=fun st d h1 h2=>SE h p.1.1 (some p.2) p.1.2 Z3 nZ9 r.block st d (by rw[hL];exact kI h1) (show cN st (.own 30 g9)=some (ov aF (some p.2)) from kI h2)
     apply Dr ((ol R).length-(k+1))
     ·simp only[ZG,seval,Mx,hI,aW,q0,er,Ds,Dt,Du,Dv,g1,Pd,hh,SF,g2,hw];rfl
     ·exact⟨k+1,_,_,p,by and_intros<;>(simp only[E8,seval,hI]<;>rfl),.inr ⟨g,L,hL,rfl,by simp only[E8,seval]<;>omega,by simp only[E8,seval,hh]⟩,.inr ⟨g9,hz,rfl,by simp only[E8,seval]<;>omega,by simp only[E8,seval,SF]⟩,hs.symm,by omega,rfl⟩
  rw[if_pos g2] at hs;rcases hX with rfl|⟨g,L,hL,rfl,hg,hh⟩
  ·rcases hY with ⟨rfl,hz⟩|⟨g9,hz,rfl,hg9,SF⟩
   ·have Pd:∀(st:St) (d:Option Nat),bH (aG prog) 85 [.agg (aP (Ff t (ov aF p.1.1) (.v (.slice none 0 0)) p.1.2)),.agg (bC r.block)] st d=some { dst:=d,val:=.v (.bool (decide (Bf v.ns r.block)))}:=fun st d=>SE h p.1.1 none p.1.2 Z3 (by show ((0:Nat):Int)<_;omega) r.block st d (qJ _) (show cN st (.v (.slice none 0 0))=some (ov aF none) from qJ none)
    obtain⟨G,hG⟩:=aG0 t (.v (.slice none 0 0)) p.1.1 p.1.2 (by omega) r.block r.tries
    have kG:=fun st=>(hG st).1
    have f1:∀st:St,0<st.aQ 1->(G st).heap 1 0=st.heap 1 0:=fun st h=>(hG st).2.1.1 1 0 h
    have f2:∀st:St,0<st.aQ 2->(G st).heap 2 0=st.heap 2 0:=fun st h=>(hG st).2.1.1 2 0 h
    have c1:∀st:St,0<st.aQ 1->(0<(G st).aQ 1)=True:=fun st h=>eq_true (Nat.lt_of_lt_of_le h ((hG st).2.1.2 1))
    have c2:∀st:St,0<st.aQ 2->(0<(G st).aQ 2)=True:=fun st h=>eq_true (Nat.lt_of_lt_of_le h ((hG st).2.1.2 2))
    have fn:∀(st:St) (c:Nat),c=st.aQ 19->(G st).heap 19 c=_:=fun st c e=>e ▸ (hG st).2.2.1
    have cn:∀(st:St) (c:Nat),c=st.aQ 19->(c<(G st).aQ 19)=True:=fun st c e=>e ▸ eq_true (hG st).2.2.2
    apply Dr ((ol R).length-(k+1))
    ·simp only[ZG,seval,Mx,hI,aW,q0,er,Ds,Dt,Du,Dv,g1,Pd,g2,aEy,kG,f1,bS,aT,aX,hw];rfl
    ·exact⟨k+1,_,_,((some (ol p.1.1++[(⟨⟨p.1.2⟩,r.block,r.tries,0⟩:Request)]),u64.wrap (p.1.2+1)),p.2),⟨by simp only[E8,seval,hI,bS],by simp only[E8,seval,hI,aT,aX]<;>rfl,by simp only[E8,seval,hI,bS],by simp only[E8,seval,hI,aT,aX,f2],by simp only[E8,seval,hI,bS],by simp only[E8,seval,hI,bS],by simp only[E8,seval,hI,aX,c1],by simp only[E8,seval,hI,aX,c2]⟩,.inr ⟨_,(ol p.1.1++[(⟨⟨p.1.2⟩,r.block,r.tries,0⟩:Request)]),rfl,rfl,by simp only[E8,seval,aX,cn],by simp only[E8,seval,aT,aX,fn]⟩,.inl ⟨rfl,hz⟩,hs.symm,by omega,rfl⟩
   ·have Pd:∀(st:St) (d:Option Nat),st.heap 30 g9=some (.row 63 35 p.2.length (aF p.2))->bH (aG prog) 85 [.agg (aP (Ff t (ov aF p.1.1) (.own 30 g9) p.1.2)),.agg (bC r.block)] st d=some { dst:=d,val:=.v (.bool (decide (Bf v.ns r.block)))}:=fun st d h2=>SE h p.1.1 (some p.2) p.1.2 Z3 nZ9 r.block st d (qJ _) (show cN st (.own 30 g9)=some (ov aF (some p.2)) from kI h2)
    obtain⟨G,hG⟩:=aG0 t (.own 30 g9) p.1.1 p.1.2 (by omega) r.block r.tries
    have kG:=fun st=>(hG st).1
    have f1:∀st:St,0<st.aQ 1->(G st).heap 1 0=st.heap 1 0:=fun st h=>(hG st).2.1.1 1 0 h
    have f2:∀st:St,0<st.aQ 2->(G st).heap 2 0=st.heap 2 0:=fun st h=>(hG st).2.1.1 2 0 h
    have c1:∀st:St,0<st.aQ 1->(0<(G st).aQ 1)=True:=fun st h=>eq_true (Nat.lt_of_lt_of_le h ((hG st).2.1.2 1))
    have c2:∀st:St,0<st.aQ 2->(0<(G st).aQ 2)=True:=fun st h=>eq_true (Nat.lt_of_lt_of_le h ((hG st).2.1.2 2))
    have fn:∀(st:St) (c:Nat),c=st.aQ 19->(G st).heap 19 c=_:=fun st c e=>e ▸ (hG st).2.2.1
    have cn:∀(st:St) (c:Nat),c=st.aQ 19->(c<(G st).aQ 19)=True:=fun st c e=>e ▸ eq_true (hG st).2.2.2
    have f3:∀st:St,g9<st.aQ 30->(G st).heap 30 g9=st.heap 30 g9:=fun st h=>(hG st).2.1.1 30 g9 h
    have c3:∀st:St,g9<st.aQ 30->(g9<(G st).aQ 30)=True:=fun st h=>eq_true (Nat.lt_of_lt_of_le h ((hG st).2.1.2 30))
    apply Dr ((ol R).length-(k+1))
    ·simp only[ZG,seval,Mx,hI,aW,q0,er,Ds,Dt,Du,Dv,g1,Pd,SF,g2,aEy,kG,f1,bS,aT,aX,hw];rfl
    ·exact⟨k+1,_,_,((some (ol p.1.1++[(⟨⟨p.1.2⟩,r.block,r.tries,0⟩:Request)]),u64.wrap (p.1.2+1)),p.2),⟨by simp only[E8,seval,hI,bS],by simp only[E8,seval,hI,aT,aX]<;>rfl,by simp only[E8,seval,hI,bS],by simp only[E8,seval,hI,aT,aX,f2],by simp only[E8,seval,hI,bS],by simp only[E8,seval,hI,bS],by simp only[E8,seval,hI,aX,c1],by simp only[E8,seval,hI,aX,c2]⟩,.inr ⟨_,(ol p.1.1++[(⟨⟨p.1.2⟩,r.block,r.tries,0⟩:Request)]),rfl,rfl,by simp only[E8,seval,aX,cn],by simp only[E8,seval,aT,aX,fn]⟩,.inr ⟨g9,hz,rfl,by simp only[E8,seval,aX,hg9,c3],by simp only[E8,seval,aT,aX,hg9,SF,f3]⟩,hs.symm,by omega,rfl⟩
  ·rcases hY with ⟨rfl,hz⟩|⟨g9,hz,rfl,hg9,SF⟩
   ·have Pd:∀(st:St) (d:Option Nat),st.heap 19 g=some (.row 63 35 L.length (aF L))->bH (aG prog) 85 [.agg (aP (Ff t (.own 19 g) (.v (.slice none 0 0)) p.1.2)),.agg (bC r.block)] st d=some { dst:=d,val:=.v (.bool (decide (Bf v.ns r.block)))}:=fun st d h1=>SE h p.1.1 none p.1.2 Z3 (by show ((0:Nat):Int)<_;omega) r.block st d (by rw[hL];exact kI h1) (show cN st (.v (.slice none 0 0))=some (ov aF none) from qJ none)
    have nL:(L.length:Int)<1000000:=by rw[hL] at Z3;have:(L.length:Int)<900000:=Z3;omega
    obtain⟨G,hG⟩:=aBb t (.v (.slice none 0 0)) g L p.1.2 nL r.block r.tries
    have kG:∀st:St,st.heap 19 g=some (.row 63 35 L.length (aF L))->g<st.aQ 19->_:=fun st a b=>(hG st ⟨a,b⟩).1
    have f1:∀st:St,st.heap 19 g=some (.row 63 35 L.length (aF L))->g<st.aQ 19->0<st.aQ 1->(G st).heap 1 0=st.heap 1 0:=fun st a b h=>(hG st ⟨a,b⟩).2.1.1 1 0 h
    have f2:∀st:St,st.heap 19 g=some (.row 63 35 L.length (aF L))->g<st.aQ 19->0<st.aQ 2->(G st).heap 2 0=st.heap 2 0:=fun st a b h=>(hG st ⟨a,b⟩).2.1.1 2 0 h
    have c1:∀st:St,st.heap 19 g=some (.row 63 35 L.length (aF L))->g<st.aQ 19->0<st.aQ 1->(0<(G st).aQ 1)=True:=fun st a b h=>eq_true (Nat.lt_of_lt_of_le h ((hG st ⟨a,b⟩).2.1.2 1))
    have c2:∀st:St,st.heap 19 g=some (.row 63 35 L.length (aF L))->g<st.aQ 19->0<st.aQ 2->(0<(G st).aQ 2)=True:=fun st a b h=>eq_true (Nat.lt_of_lt_of_le h ((hG st ⟨a,b⟩).2.1.2 2))
    have fn:∀(st:St) (c:Nat),st.heap 19 g=some (.row 63 35 L.length (aF L))->g<st.aQ 19->c=st.aQ 19->(G st).heap 19 c=_:=fun st c a b e=>e ▸ (hG st ⟨a,b⟩).2.2.1
    have cn:∀(st:St) (c:Nat),st.heap 19 g=some (.row 63 35 L.length (aF L))->g<st.aQ 19->c=st.aQ 19->(c<(G st).aQ 19)=True:=fun st c a b e=>e ▸ eq_true (hG st ⟨a,b⟩).2.2.2
    have eL:ol p.1.1=L:=by rw[hL];rfl
    rw[eL] at hs;apply Dr ((ol R).length-(k+1))
    ·simp only[ZG,seval,Mx,hI,aW,q0,er,Ds,Dt,Du,Dv,g1,Pd,hh,hg,g2,aEy,kG,f1,bS,aT,aX,hw];rfl
    ·exact⟨k+1,_,_,((some (L++[(⟨⟨p.1.2⟩,r.block,r.tries,0⟩:Request)]),u64.wrap (p.1.2+1)),p.2),⟨by simp only[E8,seval,hI,bS],by simp only[E8,seval,hI,aT,aX]<;>rfl,by simp only[E8,seval,hI,bS],by simp only[E8,seval,hI,hh,hg,aT,aX,f2],by simp only[E8,seval,hI,bS],by simp only[E8,seval,hI,bS],by simp only[E8,seval,hI,hh,hg,aX,c1],by simp only[E8,seval,hI,hh,hg,aX,c2]⟩,.inr ⟨_,(L++[(⟨⟨p.1.2⟩,r.block,r.tries,0⟩:Request)]),rfl,rfl,by simp only[E8,seval,aX,hh,hg,cn],by simp only[E8,seval,aT,aX,hh,hg,fn]⟩,.inl ⟨rfl,hz⟩,hs.symm,by omega,rfl⟩
   ·have Pd:∀(st:St) (d:Option Nat),st.heap 19 g=some (.row 63 35 L.length (aF L))->st.heap 30 g9=some (.row 63 35 p.2.length (aF p.2))->bH (aG prog) 85 [.agg (aP (Ff t (.own 19 g) (.own 30 g9) p.1.2)),.agg (bC r.block)] st d=some { dst:=d,val:=.v (.bool (decide (Bf v.ns r.block)))}:=fun st d h1 h2=>SE h p.1.1 (some p.2) p.1.2 Z3 nZ9 r.block st d (by rw[hL];exact kI h1) (show cN st (.own 30 g9)=some (ov aF (some p.2)) from kI h2)
    have nL:(L.length:Int)<1000000:=by rw[hL] at Z3;have:(L.length:Int)<900000:=Z3;omega
    obtain⟨G,hG⟩:=aBb t (.own 30 g9) g L p.1.2 nL r.block r.tries
    have kG:∀st:St,st.heap 19 g=some (.row 63 35 L.length (aF L))->g<st.aQ 19->_:=fun st a b=>(hG st ⟨a,b⟩).1
    have f1:∀st:St,st.heap 19 g=some (.row 63 35 L.length (aF L))->g<st.aQ 19->0<st.aQ 1->(G st).heap 1 0=st.heap 1 0:=fun st a b h=>(hG st ⟨a,b⟩).2.1.1 1 0 h
    have f2:∀st:St,st.heap 19 g=some (.row 63 35 L.length (aF L))->g<st.aQ 19->0<st.aQ 2->(G st).heap 2 0=st.heap 2 0:=fun st a b h=>(hG st ⟨a,b⟩).2.1.1 2 0 h
    have c1:∀st:St,st.heap 19 g=some (.row 63 35 L.length (aF L))->g<st.aQ 19->0<st.aQ 1->(0<(G st).aQ 1)=True:=fun st a b h=>eq_true (Nat.lt_of_lt_of_le h ((hG st ⟨a,b⟩).2.1.2 1))
    have c2:∀st:St,st.heap 19 g=some (.row 63 35 L.length (aF L))->g<st.aQ 19->0<st.aQ 2->(0<(G st).aQ 2)=True:=fun st a b h=>eq_true (Nat.lt_of_lt_of_le h ((hG st ⟨a,b⟩).2.1.2 2))
    have fn:∀(st:St) (c:Nat),st.heap 19 g=some (.row 63 35 L.length (aF L))->g<st.aQ 19->c=st.aQ 19->(G st).heap 19 c=_:=fun st c a b e=>e ▸ (hG st ⟨a,b⟩).2.2.1
    have cn:∀(st:St) (c:Nat),st.heap 19 g=some (.row 63 35 L.length (aF L))->g<st.aQ 19->c=st.aQ 19->(c<(G st).aQ 19)=True:=fun st c a b e=>e ▸ eq_true (hG st ⟨a,b⟩).2.2.2
    have f3:∀st:St,st.heap 19 g=some (.row 63 35 L.length (aF L))->g<st.aQ 19->g9<st.aQ 30->(G st).heap 30 g9=st.heap 30 g9:=fun st a b h=>(hG st ⟨a,b⟩).2.1.1 30 g9 h
    have c3:∀st:St,st.heap 19 g=some (.row 63 35 L.length (aF L))->g<st.aQ 19->g9<st.aQ 30->(g9<(G st).aQ 30)=True:=fun st a b h=>eq_true (Nat.lt_of_lt_of_le h ((hG st ⟨a,b⟩).2.1.2 30))
    have eL:ol p.1.1=L:=by rw[hL];rfl
    rw[eL] at hs;apply Dr ((ol R).length-(k+1))
    ·simp only[ZG,seval,Mx,hI,aW,q0,er,Ds,Dt,Du,Dv,g1,Pd,hh,SF,hg,g2,aEy,kG,f1,bS,aT,aX,hw];rfl
    ·exact⟨k+1,_,_,((some (L++[(⟨⟨p.1.2⟩,r.block,r.tries,0⟩:Request)]),u64.wrap (p.1.2+1)),p.2),⟨by simp only[E8,seval,hI,bS],by simp only[E8,seval,hI,aT,aX]<;>rfl,by simp only[E8,seval,hI,bS],by simp only[E8,seval,hI,hh,hg,aT,aX,f2],by simp only[E8,seval,hI,bS],by simp only[E8,seval,hI,bS],by simp only[E8,seval,hI,hh,hg,aX,c1],by simp only[E8,seval,hI,hh,hg,aX,c2]⟩,.inr ⟨_,(L++[(⟨⟨p.1.2⟩,r.block,r.tries,0⟩:Request)]),rfl,rfl,by simp only[E8,seval,aX,hh,hg,cn],by simp only[E8,seval,aT,aX,hh,hg,fn]⟩,.inr ⟨g9,hz,rfl,by simp only[E8,seval,aX,hg9,hh,hg,c3],by simp only[E8,seval,aT,aX,hg9,SF,hh,hg,f3]⟩,hs.symm,by omega,rfl⟩
 case start=>exact⟨0,ov aF Q,.v (.slice none 0 0),((Q,t.dB),[]),⟨by simp only[E8,seval],by simp only[E8,seval,h.Ix]<;>rfl,by simp only[E8,seval],by simp only[E8,seval],by simp only[E8,seval],by simp only[E8,seval]<;>rfl,by simp only[E8,seval]<;>omega,by simp only[E8,seval]<;>omega⟩,.inl rfl,.inl ⟨rfl,rfl⟩,rfl,by omega,by omega⟩
 case rest =>
  rintro e st ⟨rfl,X,Y,p,hI,hX,hY,hp⟩
  have hv:aEz t v.ns Q R=Ff t (ov aF p.1.1) (ov aF (nz p.2)) p.1.2:=by unfold aEz;rw[<- hp]
  have hex:∀st:St,∀X' Y',cN st X=some X'->cN st Y=some Y'->fS st (.agg (aP (Ff t X Y p.1.2)))=some (.agg (aP (Ff t X' Y' p.1.2))):=fun st X' Y' hx hy=>I4 h st hx hy p.1.2
  rcases hX with rfl|⟨g,L,hL,rfl,hh⟩
  ·rcases hY with ⟨rfl,hz⟩|⟨g9,hz,rfl,SF⟩
   ·rw[hz,show nz ([]:List Request)=none from if_pos rfl] at hv
    simp only[ZG,seval,Mx,hI];exact⟨_,eG rfl (by simp only[E8,seval,hI]<;>rfl) (by simp only[ZG,seval,hI]<;>rfl) (hex _ _ _ (qJ _) (qJ none)),by rw[hv]⟩
   ·rw[show nz p.2=some p.2 from if_neg hz] at hv;simp only[ZG,seval,Mx,hI,SF];exact⟨_,eG rfl (by simp only[E8,seval,hI]<;>rfl) (by simp only[ZG,seval,hI]<;>rfl) (hex _ _ _ (qJ _) (kI (by simp only[E8,seval,SF]<;>rfl))),by rw[hv]⟩
  ·rcases hY with ⟨rfl,hz⟩|⟨g9,hz,rfl,SF⟩
   ·rw[hz,show nz ([]:List Request)=none from if_pos rfl,hL] at hv
    simp only[ZG,seval,Mx,hI,hh];exact⟨_,eG rfl (by simp only[E8,seval,hI]<;>rfl) (by simp only[ZG,seval,hI]<;>rfl) (hex _ _ _ (kI (by simp only[E8,seval,hh]<;>rfl)) (qJ none)),by rw[hv]⟩
   ·rw[show nz p.2=some p.2 from if_neg hz,hL] at hv;simp only[ZG,seval,Mx,hI,hh,SF];exact⟨_,eG rfl (by simp only[E8,seval,hI]<;>rfl) (by simp only[ZG,seval,hI]<;>rfl) (hex _ _ _ (kI (by simp only[E8,seval,hh]<;>rfl)) (kI (by simp only[E8,seval,SF]<;>rfl))),by rw[hv]⟩
def aIp (x:Int):i64.wrap x<=9223372036854775807:=by
 rw[IntKind.wrap_i64];omega
def yD (a b:Request):Prop:=a.due<b.due\/(a.due=b.due/\a.tagged.tag<b.tagged.tag)
def Dw:Nat->List Request->List Request
 | 0,l=>l
 | k+1,l=>if yD (gx dA l ((k+1:Nat):Int)) (gx dA l (k:Int)) then Dw k ((l.set (k+1) (gx dA l (k:Int))).set k (gx dA l ((k+1:Nat):Int))) else l
def SG:∀(k:Nat) (l:List Request),(Dw k l).length=l.length
 | 0,l=>rfl
 | k+1,l=>by
   unfold Dw;split
   ·rw[SG k,length_set,length_set]
   ·rfl
def SH (t:State) (r:Request):Request:={ r with tries:=i64.wrap (r.tries+1),due:=u64.wrap (t.store.now+ZR (i64.wrap (r.tries+1)) t.store.cFg.kU.rY)}
def Q1 (t:State) (ns:List Node) (R:List Request) (r:Request):State :=
 if ¬Bf ns r.block then t else if t.store.cFg.kU.oZ<=(R.length:Int) then { t with overflow:=true } else { t with rW:=ov aF (some (Dw R.length (R++[SH t r])))}
def c72 {t:State} {v:SV} {Q R:Option (List Request)} (h:TD t v Q R) (r:Request):aG prog 72 [.agg (aP t),.agg (dF r)]=some (.agg (aP (Q1 t v.ns (ol R) r))):=by
 have hf:=h.flat
 have pH:=h.fl
 have nR:=h.nR
 have nR1:((ol R).length:Int)<1000000:=by omega
 have P8:=k85 h r.block
 have fr:Flat (.agg (dF r)):=.agg _ (jV r)
 rw[cL func72 rfl rfl];refine iA ?_
 by_cases g1:Bf v.ns r.block
 case neg =>
  simp only[Z8,seval,P8,g1];exact⟨_,fM rfl (by simp only[E8,seval,hf]<;>rfl) (by simp only[Z8,seval,hf]<;>rfl) (by simp only[jE,and_self,hf]),by rw[Q1,if_pos g1]⟩
 by_cases g2:t.store.cFg.kU.oZ<=((ol R).length:Int)
 ·have hf2:Flat (.agg (aP { t with overflow:=true })):=(uV _).2 pH
  simp only[Z8,seval,P8,g1,h.ret,g2];exact⟨_,fM rfl (by simp only[E8,seval,pH]<;>rfl) (by simp only[Z8,seval,pH]<;>rfl) (by simp only[jE,and_self,pH]),by rw[Q1,if_neg (fun hh=>hh g1),if_pos g2,<- h.ret]⟩
 have hv:Q1 t v.ns (ol R) r=_:=(if_neg (fun hh=>hh g1)).trans (if_neg g2)
 rw[hv];have k143':=aQ0 (i64.wrap (r.tries+1)) t.store.cFg.kU.rY (aIp _)
 obtain⟨L0,hL0⟩:∃L0,ol R++[SH t r]=L0:=⟨_,rfl⟩
 have hlL:L0.length=(ol R).length+1:=by rw[<- hL0,length_append,length_cons,length_nil]
 have hL0':ol R++[({ tagged:=r.tagged,block:=r.block,tries:=i64.wrap (r.tries+1),due:=u64.wrap (t.store.now+ZR (i64.wrap (r.tries+1)) t.store.cFg.kU.rY)}:Request)]=L0:=hL0
 rw[hL0];have w1:i64.wrap ((L0.length:Int)-1)=((ol R).length:Int):=by rw[Ty _ (by omega) (by omega)];omega
 simp only[Z8,seval,P8,g1,h.ret,g2,k143',mN,mO,rS _ nR1,uD _ _ _ _ nR1,hL0',w1];refine cA (fun m st=>∃(k:Nat) (l:List Request),(st.env 2=.ptr 2 0 0/\st.heap 2 0=some (.cells (aP t))/\st.env 4=.ptr 4 0 0/\st.heap 4 0=some (.cells (aP lZ))/\st.env 5=.own 46 0/\st.heap 46 0=some (.row 63 35 l.length (aF l))/\st.env 6=.v (.int .i64 k))/\Dw k l=Dw (ol R).length L0/\l.length=L0.length/\k<=(ol R).length/\m=k)
  (fun e st=>e=.exit 0/\∃(l:List Request),(st.env 2=.ptr 2 0 0/\st.heap 2 0=some (.cells (aP t))/\st.env 4=.ptr 4 0 0/\st.heap 4 0=some (.cells (aP lZ))/\st.env 5=.own 46 0/\st.heap 46 0=some (.row 63 35 l.length (aF l)))/\l=Dw (ol R).length L0) (ol R).length ?step ?start ?rest
 case step =>
  rintro m st ⟨k,l,hI,hb,hl,hk,hm⟩
  cases k with
  | zero =>
    have z0:¬((0:Int)<((0:Nat):Int)):=by omega
    have hI':=hI
    apply oT (.exit 0)
    ·simp only[Z8,seval,hI,Int.lt_irrefl,mN,mO];rfl
    ·exact⟨rfl,l,by simp only[E8,seval,hI],by rw[<- hb];rfl⟩
  | succ j =>
    obtain⟨i,hi⟩:∃i:Int,i=((j+1:Nat):Int):=⟨_,rfl⟩
    obtain⟨i',Ei⟩:∃i':Int,i'=(j:Int):=⟨_,rfl⟩
    rw[<- hi] at hI;have p0:(0:Int)<i:=by omega
    have p1:(0:Int)<=i:=by omega
    have p2:i<(l.length:Int):=by omega
    have q1:(0:Int)<=i':=by omega
    have q2:i'<(l.length:Int):=by omega
    have hw:i64.wrap (i-1)=i':=by rw[Ty _ (by omega) (by omega)];omega
    have ti:i.toNat=j+1:=by omega
    have ti':i'.toNat=j:=by omega
    obtain⟨a,ea⟩:∃a,gx dA l i=a:=⟨_,rfl⟩
    obtain⟨b,eb⟩:∃b,gx dA l i'=b:=⟨_,rfl⟩
    have d1:=Hg (T:=23) (n:=l.length) (k:=1) (off:=34) p1 p2 YZ (by decide) (by decide)
    have d2:=Hg (T:=23) (n:=l.length) (k:=1) (off:=34) q1 q2 YZ (by decide) (by decide)
    have d3:=Bh (T:=23) (n:=l.length) (k:=1) p1 p2 YZ (by decide) (by decide)
    have d4:=Bh (T:=23) (n:=l.length) (k:=1) q1 q2 YZ (by decide) (by decide)
    have d5:=Bh (T:=63) (n:=l.length) (k:=35) p1 p2 aIq (by decide) (by decide)
    have d6:=Bh (T:=63) (n:=l.length) (k:=35) q1 q2 aIq (by decide) (by decide)
    rw[ea] at d1 d3 d5;rw[eb] at d2 d4 d6;have aEA:∀P:Prop,(yD a b↔P)->Dw (j+1) l=if P then Dw j ((l.set (j+1) b).set j a) else l:=fun P hP=>by
     have e1:gx dA l ((j+1:Nat):Int)=a:=by rw[<- hi];exact ea
     have e2:gx dA l (j:Int)=b:=by rw[<- Ei];exact eb
     have e0:Dw (j+1) l=if yD (gx dA l ((j+1:Nat):Int)) (gx dA l (j:Int)) then Dw j ((l.set (j+1) (gx dA l (j:Int))).set j (gx dA l ((j+1:Nat):Int))) else l:=rfl
     rw[e0,e1,e2];by_cases hh:yD a b
     ·rw[if_pos hh,if_pos (hP.1 hh)]
     ·rw[if_neg hh,if_neg (fun x=>hh (hP.2 x))]
    have x3:i.toNat * 35+35<=l.length * 35:=by omega
    have x4:i'.toNat * 35+35<=(l.set i.toNat b).length * 35:=by rw[length_set];omega
    have x4':i'.toNat * 35+35<=l.length * 35:=by omega
    have u1:=Pe l i b (by omega)
    have u2:=Pe (l.set i.toNat b) i' a (by rw[length_set];omega)
    have swp:(l.set i.toNat b).set i'.toNat a=(l.set (j+1) b).set j a:=by rw[ti,ti']
    by_cases g3:a.due<b.due
    ·have oM:=aEA True (iff_of_true (.inl g3) trivial)
     rw[if_pos trivial] at oM
     apply oN (j)
     ·simp only[Z8,seval,hI,p0,p1,p2,q1,q2,hw,d1,d2,d3,d4,d5,d6,g3,x3,x4,x4',u1,u2,length_set,mN,mO];rfl
     ·exact⟨j,(l.set i.toNat b).set i'.toNat a,⟨by simp only[E8,seval,hI],by simp only[E8,seval,hI],by simp only[E8,seval,hI],by simp only[E8,seval,hI],by simp only[E8,seval,hI],by rw[length_set,length_set];simp only[E8,seval,length_set]<;>rfl,by simp only[E8,seval,Ei]⟩,by rw[swp,<- oM];exact hb,by rw[length_set,length_set];exact hl,by omega,rfl⟩
    by_cases g4:a.due=b.due
    case neg =>
     have oM:=aEA False (iff_of_false (fun x=>x.elim g3 fun y=>g4 y.1) id)
     rw[if_neg id] at oM
     apply oT (.exit 0)
     ·simp only[Z8,seval,hI,p0,p1,p2,q1,q2,hw,d1,d2,d3,d4,d5,d6,g3,bf g4,mN,mO];rfl
     ·exact⟨rfl,l,by simp only[E8,seval,hI],by rw[<- hb,oM]⟩
    by_cases g5:a.tagged.tag<b.tagged.tag
    ·have oM:=aEA True (iff_of_true (.inr ⟨g4,g5⟩) trivial)
     rw[if_pos trivial] at oM
     apply oN (j)
     ·simp only[Z8,seval,hI,p0,p1,p2,q1,q2,hw,d1,d2,d3,d4,d5,d6,g3,bt g4,g5,x3,x4,x4',u1,u2,length_set,mN,mO];rfl
     ·exact⟨j,(l.set i.toNat b).set i'.toNat a,⟨by simp only[E8,seval,hI],by simp only[E8,seval,hI],by simp only[E8,seval,hI],by simp only[E8,seval,hI],by simp only[E8,seval,hI],by rw[length_set,length_set];simp only[E8,seval,length_set]<;>rfl,by simp only[E8,seval,Ei]⟩,by rw[swp,<- oM];exact hb,by rw[length_set,length_set];exact hl,by omega,rfl⟩
    ·have oM:=aEA False (iff_of_false (fun x=>x.elim g3 fun y=>g5 y.2) id)
     rw[if_neg id] at oM
     apply oT (.exit 0)
     ·simp only[Z8,seval,hI,p0,p1,p2,q1,q2,hw,d1,d2,d3,d4,d5,d6,g3,bt g4,g5,mN,mO];rfl
     ·exact⟨rfl,l,by simp only[E8,seval,hI],by rw[<- hb,oM]⟩
 case start=>exact⟨(ol R).length,L0,by simp only[E8,seval]<;>rfl,rfl,rfl,by omega,rfl⟩
 case rest =>
  rintro e st ⟨rfl,l,hI,hl⟩
  have hex:=pZ l.length l
  subst hl;simp only[Z8,seval,hI];exact⟨_,by apply eG;rfl;all_goals simp only[aJ,Z8,seval,hI,hex,pH,bP,wS,gH,bM,cY,pZ,jE]<;>rfl,rfl⟩
def aRc {t:State} {v:SV} {Q R:Option (List Request)} {q:Int} (hT:TD t v Q R) (h:GI t.store v q) (r:RG t.store v) (hB:0<(ol v.B).length/\(ol v.B).length<=64) (hq:∀r∈ol Q,Rg r.tagged.tag) (n k:Int) (hk:0<=k) :
 ∃x,aG prog 146 [.agg (aP t),.v (.int .i64 n),.v (.int .i64 k)]=some x/\∃y:yQ,x=.agg (lD y)/\pX y/\(y.kind=2->y.block.root=mkRoot n\/∃m∈v.ns,y.block.root=m.block.root):=by
 have z:=zOk
 have hm:=Cm hk (min 4 i64.bits)
 have hf:=hT.flat
 have E9:=h.sd.flat
 obtain⟨x1,e1,b,rfl,rb⟩:=x50 h r n (k.fdiv (2 ^ min 4 i64.bits)) hm
 obtain⟨x2,e2,a,V,rfl,hV,nV,ra1,ra2⟩:=x37 h r hB (k.fdiv (2 ^ min 4 i64.bits)) hm
 obtain⟨x3,e3,sl,rfl,c1,c2,s1,s2,s3,s4⟩:=aQT (ol v.B).length (k.fdiv (2 ^ min 4 i64.bits)) (by omega) (by omega)
 obtain⟨x4,e4,tb,bl,rfl,hb,nb,rbl,rt⟩:=aQU h r hB (k.fdiv (2 ^ min 4 i64.bits)) hm
 obtain⟨x5,e5,w,rfl,rw5⟩:=x25 hT h hq (k.fdiv (2 ^ min 4 i64.bits)) hm
 have fA:Flat a.eM:=by rw[hV];exact bQ _
 have fT:Flat tb.iF:=by rw[hb];exact dZ _
 have k50:=kx e1 (mM E9 (.v _) (.v _)) (tW b)
 have k37:=kx e2 (bB E9 (.v _)) ((Ax a).2 fA)
 have k182:=kx e3 (bB (.v _) (.v _)) ((nM sl).2 ⟨(Ay _).1 c1.fl,(Ay _).1 c2.fl⟩)
 have k183:=kx e4 (bB E9 (.v _)) ((gZ tb).2 fT)
 have k25:=kx e5 (bB hf (.v _)) (.agg _ (jW w))
 have y1:pX { Be with kind:=1 }:=⟨z.Il,z.c1,z.c2,z.PN,z.rb,z.ra,z.rs,z.rt,z.rv⟩
 have y2:pX { Be with kind:=2,block:=b }:=⟨z.Il,z.c1,z.c2,z.PN,rb.toRB,z.ra,z.rs,z.rt,z.rv⟩
 have y3:pX { Be with kind:=3,Il:=a }:=⟨⟨some V,hV,nV⟩,z.c1,z.c2,z.PN,z.rb,⟨ra1,ra2⟩,z.rs,z.rt,z.rv⟩
 have y4:pX { Be with kind:=4,pL:=sl }:=⟨z.Il,c1,c2,z.PN,z.rb,z.ra,⟨s1,s2,s3,s4⟩,z.rt,z.rv⟩
 have y5:pX { Be with kind:=5,table:=tb }:=⟨z.Il,z.c1,z.c2,⟨some bl,hb,nb,rbl⟩,z.rb,z.ra,z.rs,rt,z.rv⟩
 have y6:pX { Be with kind:=6,verdict:=w }:=⟨z.Il,z.c1,z.c2,z.PN,z.rb,z.ra,z.rs,z.rt,rw5⟩
 rw[cL func146 rfl rfl];by_cases c0:((k).tmod 16)=0
 ·simp only[Z8,seval,bt c0];exact⟨_,fM rfl (by simp only[E8,seval]<;>rfl) (by simp only[Z8,seval]<;>rfl) y1.flat,_,rfl,y1,fun h=>absurd (show (1:Int)=2 from h) (by decide)⟩
 by_cases c1:((k).tmod 16)=1
 ·simp only[Z8,seval,bf c0,bt c1];exact⟨_,fM rfl (by simp only[E8,seval]<;>rfl) (by simp only[Z8,seval]<;>rfl) y1.flat,_,rfl,y1,fun h=>absurd (show (1:Int)=2 from h) (by decide)⟩
 by_cases c2:((k).tmod 16)=2
 ·simp only[Z8,seval,bf c0,bf c1,bt c2];exact⟨_,fM rfl (by simp only[E8,seval]<;>rfl) (by simp only[Z8,seval]<;>rfl) y1.flat,_,rfl,y1,fun h=>absurd (show (1:Int)=2 from h) (by decide)⟩
 by_cases c3:((k).tmod 16)=3
 ·simp only[Z8,seval,bf c0,bf c1,bf c2,bt c3,k50];exact⟨_,fM rfl (by simp only[E8,seval]<;>rfl) (by simp only[Z8,seval]<;>rfl) y2.flat,_,rfl,y2,fun _=>rb.rt⟩
 by_cases c4:((k).tmod 16)=4
 ·simp only[Z8,seval,bf c0,bf c1,bf c2,bf c3,bt c4,k50];exact⟨_,fM rfl (by simp only[E8,seval]<;>rfl) (by simp only[Z8,seval]<;>rfl) y2.flat,_,rfl,y2,fun _=>rb.rt⟩
 by_cases c5:((k).tmod 16)=5
 ·simp only[Z8,seval,bf c0,bf c1,bf c2,bf c3,bf c4,bt c5,k50];exact⟨_,fM rfl (by simp only[E8,seval]<;>rfl) (by simp only[Z8,seval]<;>rfl) y2.flat,_,rfl,y2,fun _=>rb.rt⟩
 by_cases c6:((k).tmod 16)=6
 ·simp only[Z8,seval,bf c0,bf c1,bf c2,bf c3,bf c4,bf c5,bt c6,k50];exact⟨_,fM rfl (by simp only[E8,seval]<;>rfl) (by simp only[Z8,seval]<;>rfl) y2.flat,_,rfl,y2,fun _=>rb.rt⟩
 by_cases c7:((k).tmod 16)=7
 ·simp only[Z8,seval,bf c0,bf c1,bf c2,bf c3,bf c4,bf c5,bf c6,bt c7,k50];exact⟨_,fM rfl (by simp only[E8,seval]<;>rfl) (by simp only[Z8,seval]<;>rfl) y2.flat,_,rfl,y2,fun _=>rb.rt⟩
 by_cases c8:((k).tmod 16)=8
 ·simp only[Z8,seval,bf c0,bf c1,bf c2,bf c3,bf c4,bf c5,bf c6,bf c7,bt c8,k37];exact⟨_,fM rfl (by simp only[E8,seval]<;>rfl) (by simp only[Z8,seval]<;>rfl) y3.flat,_,rfl,y3,fun h=>absurd (show (3:Int)=2 from h) (by decide)⟩
 by_cases c9:((k).tmod 16)=9
 ·simp only[Z8,seval,bf c0,bf c1,bf c2,bf c3,bf c4,bf c5,bf c6,bf c7,bf c8,bt c9,k37];exact⟨_,fM rfl (by simp only[E8,seval]<;>rfl) (by simp only[Z8,seval]<;>rfl) y3.flat,_,rfl,y3,fun h=>absurd (show (3:Int)=2 from h) (by decide)⟩
 by_cases c10:((k).tmod 16)=10
 ·simp only[Z8,seval,bf c0,bf c1,bf c2,bf c3,bf c4,bf c5,bf c6,bf c7,bf c8,bf c9,bt c10,k37];exact⟨_,fM rfl (by simp only[E8,seval]<;>rfl) (by simp only[Z8,seval]<;>rfl) y3.flat,_,rfl,y3,fun h=>absurd (show (3:Int)=2 from h) (by decide)⟩
 by_cases c11:((k).tmod 16)=11
 ·simp only[Z8,seval,bf c0,bf c1,bf c2,bf c3,bf c4,bf c5,bf c6,bf c7,bf c8,bf c9,bf c10,bt c11,h.sd.iF,k182];exact⟨_,fM rfl (by simp only[E8,seval]<;>rfl) (by simp only[Z8,seval]<;>rfl) y4.flat,_,rfl,y4,fun h=>absurd (show (4:Int)=2 from h) (by decide)⟩
 by_cases c12:((k).tmod 16)=12
 ·simp only[Z8,seval,bf c0,bf c1,bf c2,bf c3,bf c4,bf c5,bf c6,bf c7,bf c8,bf c9,bf c10,bf c11,bt c12,k183];exact⟨_,fM rfl (by simp only[E8,seval]<;>rfl) (by simp only[Z8,seval]<;>rfl) y5.flat,_,rfl,y5,fun h=>absurd (show (5:Int)=2 from h) (by decide)⟩
 simp only[Z8,seval,bf c0,bf c1,bf c2,bf c3,bf c4,bf c5,bf c6,bf c7,bf c8,bf c9,bf c10,bf c11,bf c12,k25];exact⟨_,fM rfl (by simp only[E8,seval]<;>rfl) (by simp only[Z8,seval]<;>rfl) y6.flat,_,rfl,y6,fun h=>absurd (show (6:Int)=2 from h) (by decide)⟩
def aRf (l:List Int) (hl:(l.length:Int)<=9223372036854775807):∃x,aG prog 101 [.sl l.length (aM l)]=some x/\∃(c:Config) (b:List Int),x=.agg (bX c)/\Bb c b:=by
 have k0:=Qt l hl 0 (by omega) (by omega)
 obtain⟨a0,b0⟩:=cU (n:=8) (Je l hl 0 (by omega) (by omega)).2.1 (by omega)
 obtain⟨x0,h0⟩:∃x,(Ms l 0).tmod 8=x:=⟨_,rfl⟩
 rw[h0] at a0 b0;have k1:=Qt l hl 1 (by omega) (by omega)
 obtain⟨a1,b1⟩:=cU (n:=4) (Je l hl 1 (by omega) (by omega)).2.1 (by omega)
 obtain⟨x1,h1⟩:∃x,(Ms l 1).tmod 4=x:=⟨_,rfl⟩
 rw[h1] at a1 b1;have k2:=Qt l hl 2 (by omega) (by omega)
 obtain⟨a2,b2⟩:=cU (n:=4) (Je l hl 2 (by omega) (by omega)).2.1 (by omega)
 obtain⟨x2,h2⟩:∃x,(Ms l 2).tmod 4=x:=⟨_,rfl⟩
 rw[h2] at a2 b2;have k3:=Qt l hl 3 (by omega) (by omega)
 obtain⟨a3,b3⟩:=cU (n:=4) (Je l hl 3 (by omega) (by omega)).2.1 (by omega)
 obtain⟨x3,h3⟩:∃x,(Ms l 3).tmod 4=x:=⟨_,rfl⟩
 rw[h3] at a3 b3;have k4:=Qt l hl 4 (by omega) (by omega)
 obtain⟨a4,b4⟩:=cU (n:=4) (Je l hl 4 (by omega) (by omega)).2.1 (by omega)
 obtain⟨x4,h4⟩:∃x,(Ms l 4).tmod 4=x:=⟨_,rfl⟩
 rw[h4] at a4 b4;have k5:=Qt l hl 5 (by omega) (by omega)
 obtain⟨a5,b5⟩:=cU (n:=5) (Je l hl 5 (by omega) (by omega)).2.1 (by omega)
 obtain⟨x5,h5⟩:∃x,(Ms l 5).tmod 5=x:=⟨_,rfl⟩
 rw[h5] at a5 b5;have k6:=Qt l hl 6 (by omega) (by omega)
 obtain⟨a6,b6⟩:=cU (n:=4) (Je l hl 6 (by omega) (by omega)).2.1 (by omega)
 obtain⟨x6,h6⟩:∃x,(Ms l 6).tmod 4=x:=⟨_,rfl⟩
 rw[h6] at a6 b6;have k7:=Qt l hl 7 (by omega) (by omega)
 obtain⟨a7,b7⟩:=cU (n:=3) (Je l hl 7 (by omega) (by omega)).2.1 (by omega)
 obtain⟨x7,h7⟩:∃x,(Ms l 7).tmod 3=x:=⟨_,rfl⟩
 rw[h7] at a7 b7;have k8:=Qt l hl 8 (by omega) (by omega)
 obtain⟨a8,b8⟩:=cU (n:=2) (Je l hl 8 (by omega) (by omega)).2.1 (by omega)
 obtain⟨x8,h8⟩:∃x,(Ms l 8).tmod 2=x:=⟨_,rfl⟩
 rw[h8] at a8 b8;have k9:=Qt l hl 9 (by omega) (by omega)
 obtain⟨a9,b9⟩:=cU (n:=5) (Je l hl 9 (by omega) (by omega)).2.1 (by omega)
 obtain⟨x9,h9⟩:∃x,(Ms l 9).tmod 5=x:=⟨_,rfl⟩
 rw[h9] at a9 b9;have w0:i64.wrap (6+x0)=6+x0:=Ty _ (by omega) (by omega)
 have w3:i64.wrap (1+x3)=1+x3:=Ty _ (by omega) (by omega)
 have w5:i64.wrap (1+x5)=1+x5:=Ty _ (by omega) (by omega)
 have w5':u64.wrap (1+x5)=1+x5:=wrap_u64 _ (by omega) (by omega)
 have w6:i64.wrap (1+x6)=1+x6:=Ty _ (by omega) (by omega)
 have w6':u64.wrap (1+x6)=1+x6:=wrap_u64 _ (by omega) (by omega)
 have w9:i64.wrap (2+x9)=2+x9:=Ty _ (by omega) (by omega)
 have g7:=oI (l:=[0,40,100]) a7 (by show x7<((3:Nat):Int);omega)
 obtain⟨bp,hbp⟩:∃y,it [0,40,100] x7=y:=⟨_,rfl⟩
 have hbp1:0<=bp/\bp<=100:=by
  rcases (by omega:x7=0\/x7=1\/x7=2) with e|e|e<;>(rw[e] at hbp;rw[<- hbp];decide)
 have w7:u64.wrap bp=bp:=wrap_u64 _ (by omega) (by omega)
 rw[cL func101 rfl rfl];simp only[Z8,seval,mN,mO,k0,k1,k2,k3,k4,k5,k6,k7,k8,h0,h1,h2,h3,h4,h5,h6,h7,h8,w0,w3,w5,w5',w6,w6',a7,b7,g7,hbp,w7,pY,Nat.reduceLT,Tw];have n9:(2+x9).toNat<=6:=by omega
 refine cA (fun m st=>∃(j:Nat) (kU:lH) (sp bq:Int) (tt:rD) (X:AV) (b:List Int),(st.env 0=.sl l.length (aM l)/\st.env 2=.ptr 2 0 0/\st.heap 2 0=some (.cells (bX mX))/\st.env 3=.ptr 3 0 0/\st.heap 3 0=some (.cells (bX ⟨kU,sp,bq,tt,mkRoot 1,X⟩))/\st.env 4=.v (.int .i64 j))/\(kU=⟨6+x0,x1,x2,1+x3,x4,1+x5⟩/\sp=1+x6/\bq=bp)/\((X=.v (.slice none 0 0)/\b=[])\/∃g,X=.own 64 g/\g<st.aQ 64/\st.heap 64 g=some (.row 23 1 b.length (bF b)))/\(∀y∈b,0<=y/\y<=1000)/\b.length=j/\j<=(2+x9).toNat/\m=(2+x9).toNat-j)
  (fun e st=>e=.exit 0/\∃(kU:lH) (sp bq:Int) (tt:rD) (g:Nat) (b:List Int),(st.env 2=.ptr 2 0 0/\st.heap 2 0=some (.cells (bX mX))/\st.env 3=.ptr 3 0 0/\st.heap 3 0=some (.cells (bX ⟨kU,sp,bq,tt,mkRoot 1,.own 64 g⟩))/\st.heap 64 g=some (.row 23 1 b.length (bF b)))/\(kU=⟨6+x0,x1,x2,1+x3,x4,1+x5⟩/\sp=1+x6/\bq=bp)/\(∀y∈b,0<=y/\y<=1000)/\1<=b.length/\b.length<=6) (2+x9).toNat ?step ?start ?rest
 case step =>
  rintro m st ⟨j,kU,sp,bq,tt,X,b,hI,hC,hX,hb,hj,hjn,hm⟩
  by_cases aW:(j:Int)<2+x9
  ·have q0:(0:Int)<=j:=by omega
   have hw:=wk (k:=j) (by omega)
   obtain⟨jj,hjj⟩:∃jj:Int,jj=10+(j:Int):=⟨_,rfl⟩
   have XK:i64.wrap (10+(j:Int))=jj:=by rw[Ty _ (by omega) (by omega),hjj]
   have kj:=Qt l hl jj (by omega) (by omega)
   obtain⟨aj,bj⟩:=cU (n:=40) (Je l hl jj (by omega) (by omega)).2.1 (by omega)
   obtain⟨y,hy⟩:∃y,(Ms l jj).tmod 40=y:=⟨_,rfl⟩
   rw[hy] at aj bj;have wy:u64.wrap y=y:=wrap_u64 _ (by omega) (by omega)
   have nL:(b.length:Int)<1000000:=by omega
   have Zg:∀z∈b++[y],0<=z/\z<=1000:=fun z hz=>(mem_append.1 hz).elim (hb z) fun e=>by rw[mem_singleton] at e;rw[e];omega
   have zL:(b++[y]).length=j+1:=by rw[length_append,length_cons,length_nil];omega
   rcases hX with ⟨rfl,rfl⟩|⟨g,rfl,hg,hh⟩
   ·apply oN ((2+x9).toNat-(j+1))
    ·simp only[Z8,seval,hI,k9,h9,w9,aW,XK,kj,hy,wy,hw];rfl
    ·exact⟨j+1,_,_,_,_,_,[]++[y],⟨by simp only[E8,seval,hI],by simp only[E8,seval,hI],by simp only[E8,seval,hI],by simp only[E8,seval,hI],by simp only[E8,seval,hI]<;>rfl,by simp only[E8,seval]⟩,hC,.inr ⟨_,rfl,by simp only[E8,seval]<;>omega,by simp only[E8,seval]<;>rfl⟩,Zg,zL,by omega,rfl⟩
   ·have vQ:(g=st.aQ 64)=False:=eq_false (by omega)
    apply oN ((2+x9).toNat-(j+1))
    ·simp only[Z8,seval,hI,hh,vQ,k9,h9,w9,aW,XK,kj,hy,wy,hw,xK _ _ _ _ nL];rfl
    ·exact⟨j+1,_,_,_,_,_,b++[y],⟨by simp only[E8,seval,hI],by simp only[E8,seval,hI],by simp only[E8,seval,hI],by simp only[E8,seval,hI],by simp only[E8,seval,hI]<;>rfl,by simp only[E8,seval]⟩,hC,.inr ⟨_,rfl,by simp only[E8,seval]<;>omega,by simp only[E8,seval]<;>rfl⟩,Zg,zL,by omega,rfl⟩
  ·rcases hX with ⟨rfl,rfl⟩|⟨g,rfl,hg,hh⟩
   ·simp at hj;omega
   ·apply oT (.exit 0)
    ·simp only[Z8,seval,hI,k9,h9,w9,aW];rfl
    ·exact⟨rfl,_,_,_,_,g,b,⟨by simp only[E8,seval,hI],by simp only[E8,seval,hI],by simp only[E8,seval,hI],by simp only[E8,seval,hI]<;>rfl,by simp only[E8,seval,hh]⟩,hC,hb,by omega,by omega⟩
 case start=>exact⟨0,_,_,_,_,_,[],by and_intros<;>(simp only[E8,seval]<;>rfl),⟨rfl,rfl,rfl⟩,.inl ⟨rfl,rfl⟩,by simp,rfl,by omega,by omega⟩
 case rest =>
  rintro e st ⟨rfl,kU,sp,bq,tt,g,b,hI,⟨rfl,rfl,rfl⟩,hb,zL,Xz⟩
  simp only[Z8,seval,hI];exact⟨_,by apply eG;rfl;all_goals simp only[aJ,Z8,seval,hI,bP,Pf,bM,vA,jE]<;>rfl,⟨⟨6+x0,x1,x2,1+x3,x4,1+x5⟩,1+x6,bq,tt,mkRoot 1,ov bF (some b)⟩,b,rfl,⟨rfl,by omega,hb,by dsimp only;omega,by dsimp only;omega,by dsimp only;omega,by dsimp only;omega,by dsimp only;omega,by dsimp only;omega,by dsimp only;omega,by dsimp only;omega,rfl,by dsimp only;omega⟩⟩
structure SB (a r:List Node):Prop where
 PT:r.map (·.block)=a.map (·.block)
 up:r.map (·.up)=a.map (·.up)
def SB.refl (a:List Node):SB a a:=⟨rfl,rfl⟩
def SB.trans {a b c:List Node} (h:SB a b) (g:SB b c):SB a c:=⟨g.PT.trans h.PT,g.up.trans h.up⟩
def SB.len {a r:List Node} (h:SB a r):r.length=a.length:=by have:=congrArg List.length h.PT;simpa using this
def SB.block {a r:List Node} (h:SB a r) {j:Int} (j1:j.toNat<a.length):(nd r j).block=(nd a j).block:=by
 have h2:j.toNat<r.length:=by rw[h.len];exact j1
 have:=congrArg (fun l:List Block=>l[j.toNat]?) h.PT
 simpa [nd,j1,h2] using this
def SB.upE {a r:List Node} (h:SB a r) {j:Int} (j1:j.toNat<a.length):(nd r j).up=(nd a j).up:=by
 have h2:j.toNat<r.length:=by rw[h.len];exact j1
 have:=congrArg (fun l:List Int=>l[j.toNat]?) h.up
 simpa [nd,j1,h2] using this
def JL (l:List Node) (x:cC):aC l x=match (l.map (·.block)).findIdx? (fun b=>decide (b.root=x)) with
 | some k=>(k:Int)
 | none=>-1:=by
 unfold aC;rw[findIdx?_map];rfl
def SB.aC {a r:List Node} (h:SB a r) (x:cC):aC r x=aC a x:=by rw[JL,JL,h.PT]
def aBd (ns:List Node) (i to:Int):SB ns (setAt ns i to):=by
 have key:∀ {β:Type} (f:Node->β),(∀n s,f (AP n s)=f n)->(setAt ns i to).map f=ns.map f:=by
  intro β f hf;unfold setAt;rw[map_set];apply ext_getElem (by simp)
  intro j h1 h2;rw[getElem_set];split
  ·rename_i e;have h3:j<ns.length:=by simpa using h2
   subst e;simp[hf,nd,h3]
  ·rfl
 exact⟨key _ fun _ _=>rfl,key _ fun _ _=>rfl⟩
def ZT {to never:Int}:∀(l:List Int) (ns r:List Node),IG to never l ns=some r->SB ns r
 | [],ns,r,h=>by simp only[IG,aAk] at h;rw[h];exact SB.refl _
 | i :: l,ns,r,h=>by
   simp only[IG] at h;split at h
   ·cases h
   ·exact (aBd ns i to).trans (ZT l _ _ h)
def aBe (ns:List Node) (x:AV):Prop:=(∃e:Int,e≠0/\x=.eH [.agg [.v (.slice none 0 0)],.v (.int .i64 e)])\/∃r,SB ns r/\x=.eH [.agg (cH ⟨r⟩),.v (.int .i64 0)]
def aBe.err (ns:List Node) {e:Int} (h:e≠0):aBe ns (AQ e):=.inl ⟨e,h,rfl⟩
def aBe.of {a b:List Node} (h:SB a b) {x:AV} (g:aBe b x):aBe a x:=g.imp id fun ⟨r,h1,h2⟩=>⟨r,h.trans h1,h2⟩
def GI.tree {s:aL} {v:SV} {q:Int} (h:GI s v q) {r:List Node} (hs:SB v.ns r):GI { s with tree:=⟨.sl r.length (bV r)⟩} { v with ns:=r } q:=by
 have hl:=hs.len
 have hp:=h.pos
 refine⟨⟨h.sd.iF,h.sd.dS,h.sd.gA,h.sd.early,h.sd.bN,rfl,h.sd.tables,h.sd.eV,h.sd.tB,h.sd.nB,h.sd.nL,h.sd.nQ,h.sd.nE,h.sd.nO,h.sd.nT,by rw[hl];exact h.sd.nn⟩,fun i i0 i1=>?_, ?_,by show 0<r.length;omega,by rw[hl];exact h.nl,h.PK,h.jS,h.JB,h.nB,h.nO,h.LJ,h.nE,h.PL,h.nT,h.PM,h.nQ,h.O7, ?_⟩
 ·have i1:i<(r.length:Int):=i1
  show 0<=(nd r i).up/\(nd r i).up<i
  rw[hs.upE (by omega)];exact h.up i i0 (by omega)
 ·show (nd r 0).up=-1
  rw[hs.upE (by show (0:Nat)<_;omega)];exact h.Ww
 ·show 0<=aC r s.aI.eI.root
  rw[hs.aC];exact h.eI
structure JP (l:List Int) (a r:List Node):Prop where
 sb:SB a r
 Ca:Tx r
 FH:QA r
 AS:∀n∈r,n.block.gP=cO->n.status=1
 pI:∀k∈l,0<=k->k<a.length->(nd a k).status≠2->(nd r k).status≠2
def aBf (l:List Int) (ns:List Node) (x:AV):Prop:=(∃e:Int,e≠0/\x=.eH [.agg [.v (.slice none 0 0)],.v (.int .i64 e)])\/∃r,JP l ns r/\x=.eH [.agg (cH ⟨r⟩),.v (.int .i64 0)]
def aBf.err (l:List Int) (ns:List Node) {e:Int} (h:e≠0):aBf l ns (AQ e):=.inl ⟨e,h,rfl⟩
def SI {l:List Int} {ns r:List Node} {i:Int} (v:Tx ns) (c:QA ns) (p:∀n∈ns,n.block.gP=cO->n.status=1) (h:raO ns i=some r):JP l ns r:=by
 have R:=IK v.up h
 refine⟨ZT _ _ _ h,R.c.Ca v rfl,R.FH v c,fun n hn hp=>?_,fun k _ k0 k1 hk=>?_⟩
 ·obtain⟨j,hj,rfl⟩:=JD hn
  have j1:j<(ns.length:Int):=by have:=R.c.len;omega
  rw[R.c.st hj.1 j1];split
  ·rfl
  ·exact p _ (tN hj.1 j1) (by rw[<- R.c.block hj.1 j1];exact hp)
 ·rw[R.c.st k0 k1];split
  ·omega
  ·exact hk
def BZ {l:List Int} {ns r:List Node} {i:Int} (v:Tx ns) (c:QA ns) (p:∀n∈ns,n.block.gP=cO->n.status=1) (hk:¬IM ns i l) (h:coO ns i=some r):JP l ns r:=by
 have R:=KZ h
 refine⟨ZT _ _ _ h,R.c.Ca v rfl,R.FH v c,fun n hn hp=>?_,fun k hl k0 k1 hs=>?_⟩
 ·obtain⟨j,hj,rfl⟩:=JD hn
  have j1:j<(ns.length:Int):=by have:=R.c.len;omega
  have e:=p _ (tN hj.1 j1) (by rw[<- R.c.block hj.1 j1];exact hp)
  rw[R.c.st hj.1 j1];split
  ·rename_i hm;exact absurd e (R.ok j hm)
  ·exact e
 ·rw[R.c.st k0 k1];split
  ·rename_i hm;exact absurd ⟨k,hl,((Qw ns i k _).1 hm).2⟩ hk
  ·exact hs
def JP.trans {l:List Int} {a b c:List Node} (h:JP l a b) (g:JP l b c):JP l a c:=⟨h.sb.trans g.sb,g.Ca,g.FH,g.AS,fun k hl k0 k1 hs=>g.pI k hl k0 (by have:=h.sb.len;omega) (h.pI k hl k0 k1 hs)⟩
def aBg {l:List Int} {ns:List Node} {o:Option (List Node)} (h:∀r,o=some r->JP l ns r):aBf l ns (stA o):=by
 unfold stA;split
 ·exact .err _ _ (by decide)
 ·exact .inr ⟨_,h _ rfl,rfl⟩
def aIr {ns:List Node} (v:Tx ns) (c:QA ns) (p:∀n∈ns,n.block.gP=cO->n.status=1) (i:Int) (w:gV) (l:List Int):aBf l ns (YQ ns i w l):=by
 have co:∀ {b:List Node},(b=ns\/JP l ns b)->∀j,¬IM ns j l->aBf l ns (Y6 b j):=by
  intro b hb j hk;unfold Y6;split
  ·refine aBg fun r hr=>?_
   rcases hb with rfl|hb
   ·exact BZ v c p hk hr
   ·have su:Dp ns b:=⟨hb.sb.len.symm,fun x x0 x1=>(hb.sb.upE (by omega)).symm⟩
    refine hb.trans (BZ hb.Ca hb.FH hb.AS (fun ⟨k,h1,h2⟩=>hk ⟨k,h1, ?_⟩) hr)
    rw[su.aPG v.up];exact h2
  ·exact .err _ _ (by decide)
 unfold YQ;split
 ·exact .err _ _ (by decide)
 split
 ·unfold raV;split
  ·exact aBg fun r hr=>SI v c p hr
  ·exact .err _ _ (by decide)
 split
 ·unfold aAt;split
  ·exact .err _ _ (by decide)
  rename_i hk;split
  ·split
   ·exact .err _ _ (by decide)
   ·rename_i r hr;exact co (.inr (SI v c p hr)) _ hk
  ·exact co (.inl rfl) _ hk
 split
 ·exact .inr ⟨ns,⟨SB.refl ns,v,c,p,fun _ _ _ _ h=>h⟩,rfl⟩
 ·exact .err _ _ (by decide)
def VS.tree {s:aL} {v:SV} {q:Int} (g:GI s v q) (h:VS s v) {l:List Int} {r:List Node} (j:JP l v.ns r) (hl:aC v.ns s.aI.eI.root∈l) (x:Eo):VS { s with tree:=x } { v with ns:=r }:=by
 have b0:∀n∈r,∃a∈v.ns,n.block=a.block:=fun n hn=>by
  have:n.block∈r.map (·.block):=mem_map.2 ⟨n,hn,rfl⟩
  rw[j.sb.PT] at this;obtain⟨a,ha,e⟩:=mem_map.1 this
  exact⟨a,ha,e.symm⟩
 have hp:=g.pos
 refine⟨j.Ca,j.FH,j.AS, ?_, ?_, ?_,h.tv,h.ts,h.vo,h.eq, ?_,fun n hn=>?_,h.ea,fun o ho=>?_,h.on⟩
 ·show (nd r (aC r s.aI.eI.root)).status≠2
  rw[j.sb.aC];exact j.pI _ hl g.eI (cS _ _).2 h.js
 ·show (nd r 0).block.root=_
  rw[j.sb.block (by show (0:Nat)<_;omega)];exact h.r0
 ·have:=h.e0
  unfold Jn at this ⊢
  show _\/(nd r 0).block.slot<=_
  rw[j.sb.block (by show (0:Nat)<_;omega)];exact this
 ·show s.dV=cO\/0<=aC r s.dV
  rw[j.sb.aC];exact h.bo
 ·obtain⟨a,ha,e⟩:=b0 n hn
  rw[e];exact h.od a ha
 ·show aC r o.root<0/\_
  rw[j.sb.aC];exact h.oi o ho
def RG.tree {s:aL} {v:SV} {q:Int} (g:GI s v q) (h:RG s v) {l:List Int} {r:List Node} (hj:JP l v.ns r) (hl:aC v.ns s.aI.eI.root∈l) (x:Eo):RG { s with tree:=x } { v with ns:=r } :=
 ⟨⟨h.now,h.j,h.f,fun n hn=>by
  have:n.block∈r.map (·.block):=mem_map.2 ⟨n,hn,rfl⟩
  rw[hj.sb.PT] at this;obtain⟨a,ha,e⟩:=mem_map.1 this
  rw[<- e];exact h.nd a ha,h.or,fun n hn=>by
  have:n.block∈r.map (·.block):=mem_map.2 ⟨n,hn,rfl⟩
  rw[hj.sb.PT] at this;obtain⟨a,ha,e⟩:=mem_map.1 this
  rw[<- e];exact h.rt a ha,h.fe,by
  have e:=congrArg (List.map fun b:Block=>b.root) hj.sb.PT
  rw[map_map,map_map] at e;show (r.map ((fun b:Block=>b.root) ∘ fun n=>n.block)).Nodup
  rw[e];exact h.ds,h.tb,⟨h.ne.q,h.ne.e,h.ne.o,h.ne.t,h.ne.ea,h.ne.tb⟩,h.vs.tree g hj hl x⟩,fun o ho=>by
  show aC r o.parent<0
  rw[hj.sb.aC];exact h.op o ho⟩
structure TQ (Q:List Request) (tag:Int):Prop where
 pos:1<=tag
 all:∀r∈Q,1<=r.tagged.tag/\r.tagged.tag<tag/\r.due=0
 asc:Q.Pairwise fun a b=>a.tagged.tag<b.tagged.tag
structure TR (R:List Request) (tag:Int):Prop where
 all:∀r∈R,r.tagged.tag<tag
 asc:R.Pairwise fun a b=>¬yD b a
def ZU (ns:List Node) (l:List Request):Prop:=∀r∈l,0<=aC ns r.block
def TQ.sub {P Q:List Request} {tag:Int} (h:TQ Q tag) (s:P.Sublist Q):TQ P tag:=⟨h.pos,fun r hr=>h.all r (s.subset hr),h.asc.sublist s⟩
def TR.sub {P Q:List Request} {tag:Int} (h:TR Q tag) (s:P.Sublist Q):TR P tag:=⟨fun r hr=>h.all r (s.subset hr),h.asc.sublist s⟩
def TR.mono {Q:List Request} {t t':Int} (h:TR Q t) (l:t<=t'):TR Q t':=⟨fun r hr=>by have:=h.all r hr;omega,h.asc⟩
def ZU.sub {ns:List Node} {P Q:List Request} (h:ZU ns Q) (s:P.Sublist Q):ZU ns P:=fun r hr=>h r (s.subset hr)
def TQ.app {Q:List Request} {tag:Int} (h:TQ Q tag) (b:cC) (n:Int):TQ (Q++[⟨⟨tag⟩,b,n,0⟩]) (tag+1):=by
 refine⟨by have:=h.pos;omega,fun r hr=>?_,pairwise_append.2 ⟨h.asc,pairwise_singleton ..,fun a ha b hb=>?_⟩⟩
 ·rcases mem_append.1 hr with hr|hr
  ·obtain⟨h1,h2,h3⟩:=h.all r hr;exact⟨h1,by omega,h3⟩
  ·rw[mem_singleton] at hr;subst hr;exact⟨h.pos,by show tag<tag+1;omega,rfl⟩
 ·rw[mem_singleton] at hb;subst hb;exact (h.all a ha).2.1
def ZU.app {ns:List Node} {Q:List Request} (h:ZU ns Q) {x:Request} (hx:0<=aC ns x.block):ZU ns (Q++[x]):=fun r hr=>by
 rcases mem_append.1 hr with hr|hr
 ·exact h r hr
 ·rw[mem_singleton] at hr;subst hr;exact hx
def aMI {x:Int} (h1:1<=x) (h2:x<=1000000):u64.wrap (x+1)=x+1:=wrap_u64 _ (by omega) (by omega)
def Rr (ns:List Node) (now:Int):∀(l:List Request) (a:(Option (List Request) × Int) × List Request),TQ (ol a.1.1) a.1.2->ZU ns (ol a.1.1)->a.1.2+l.length<=1000000 ->
 TQ (ol (Bg ns now a l).1.1) (Bg ns now a l).1.2/\ZU ns (ol (Bg ns now a l).1.1)/\a.1.2<=(Bg ns now a l).1.2/\(Bg ns now a l).1.2<=a.1.2+l.length/\(Bg ns now a l).2=a.2++l.filter fun r=>decide (now<r.due)
 | [],a,h,hi,hb=>⟨h,hi,by show a.1.2<=a.1.2;omega,by show a.1.2<=a.1.2+((0:Nat):Int);omega,(append_nil _).symm⟩
 | r :: l,a,h,hi,hb=>by
   have hp:=h.pos
   rw[length_cons] at hb;have hw:=aMI hp (by omega)
   have e0:Bg ns now a (r :: l)=Bg ns now (Pc ns now a r) l:=rfl
   rw[e0,length_cons];by_cases g1:now<r.due
   ·have e1:Pc ns now a r=(a.1,a.2++[r]):=if_pos g1
    rw[e1];obtain⟨h1,h2,h3,h4,h5⟩:=Rr ns now l (a.1,a.2++[r]) h hi (by dsimp only;omega)
    refine⟨h1,h2,h3,by dsimp only at h4;omega, ?_⟩
    rw[h5,filter_cons,if_pos (decide_eq_true g1)];simp
   ·rw[filter_cons,if_neg (by simpa using g1)]
    by_cases g2:Bf ns r.block
    ·have e1:Pc ns now a r=((some (ol a.1.1++[⟨⟨a.1.2⟩,r.block,r.tries,0⟩]),u64.wrap (a.1.2+1)),a.2):=(if_neg g1).trans (if_pos g2)
     rw[e1,hw];obtain⟨h1,h2,h3,h4,h5⟩:=Rr ns now l ((some (ol a.1.1++[(⟨⟨a.1.2⟩,r.block,r.tries,0⟩:Request)]),a.1.2+1),a.2) (h.app _ _) (hi.app g2.1) (by dsimp only;omega)
     exact⟨h1,h2,by dsimp only at h3;omega,by dsimp only at h4;omega,h5⟩
    ·have e1:Pc ns now a r=a:=(if_neg g1).trans (if_neg g2)
     rw[e1];obtain⟨h1,h2,h3,h4,h5⟩:=Rr ns now l a h hi (by omega)
     exact⟨h1,h2,h3,by omega,h5⟩
def LY (ns:List Node):∀(l:List cC) (a:Option (List Request) × Int),TQ (ol a.1) a.2->ZU ns (ol a.1)->a.2+l.length<=1000000 ->
 TQ (ol (Qj ns a l).1) (Qj ns a l).2/\ZU ns (ol (Qj ns a l).1)/\a.2<=(Qj ns a l).2/\(Qj ns a l).2<=a.2+l.length
 | [],a,h,hi,hb=>⟨h,hi,by show a.2<=a.2;omega,by show a.2<=a.2+((0:Nat):Int);omega⟩
 | r :: l,a,h,hi,hb=>by
   have hp:=h.pos
   rw[length_cons] at hb;have hw:=aMI hp (by omega)
   have e0:Qj ns a (r :: l)=Qj ns (I1 ns a r) l:=rfl
   rw[e0,length_cons];by_cases g2:Bf ns r
   ·have e1:I1 ns a r=(some (ol a.1++[⟨⟨a.2⟩,r,0,0⟩]),u64.wrap (a.2+1)):=if_pos g2
    rw[e1,hw];obtain⟨h1,h2,h3,h4⟩:=LY ns l (some (ol a.1++[(⟨⟨a.2⟩,r,0,0⟩:Request)]),a.2+1) (h.app _ _) (hi.app g2.1) (by dsimp only;omega)
    exact⟨h1,h2,by dsimp only at h3;omega,by dsimp only at h4;omega⟩
   ·have e1:I1 ns a r=a:=if_neg g2
    rw[e1];obtain⟨h1,h2,h3,h4⟩:=LY ns l a h hi (by omega)
    exact⟨h1,h2,h3,by omega⟩
def I5 (ns:List Node) (now:Int):∀(l:List Request) (a:(Option (List Request) × Int) × List Request),a.1.1≠some []->(Bg ns now a l).1.1≠some []
 | [],a,h=>h
 | r :: l,a,h=>by
   have e0:Bg ns now a (r :: l)=Bg ns now (Pc ns now a r) l:=rfl
   rw[e0];refine I5 ns now l _ ?_
   unfold Pc;split
   ·exact h
   split
   ·simp
   ·exact h
def aBh (ns:List Node):∀(l:List cC) (a:Option (List Request) × Int),a.1≠some []->(Qj ns a l).1≠some []
 | [],a,h=>h
 | r :: l,a,h=>by
   have e0:Qj ns a (r :: l)=Qj ns (I1 ns a r) l:=rfl
   rw[e0];refine aBh ns l _ ?_
   unfold I1;split
   ·simp
   ·exact h
def LZ:List Request->Request->List Request->List Request
 | [],x,B=>x :: B
 | y :: A,x,B=>if yD x y then LZ A x (y :: B) else (y :: A).reverse++x :: B
def JM:∀(A:List Request) (x:Request) (B:List Request),Dw A.length (A.reverse++x :: B)=LZ A x B
 | [],x,B=>rfl
 | y :: A,x,B=>by
   have e1:gx dA ((y :: A).reverse++x :: B) ((A.length+1:Nat):Int)=x:=by
    unfold gx;rw[Int.toNat_natCast,reverse_cons,append_assoc,getD_eq_getElem?_getD,getElem?_append_right (by simp),length_reverse]
    simp
   have e2:gx dA ((y :: A).reverse++x :: B) (A.length:Int)=y:=by
    unfold gx;rw[Int.toNat_natCast,reverse_cons,append_assoc,getD_eq_getElem?_getD,getElem?_append_right (by simp),length_reverse]
    simp
   have e3:(((y :: A).reverse++x :: B).set (A.length+1) y).set A.length x=A.reverse++x :: y :: B:=by
    rw[reverse_cons,append_assoc,set_append_right _ _ (by simp),length_reverse,set_append_right _ _ (by simp),length_reverse]
    simp
   rw[length_cons];have e0:∀l,Dw (A.length+1) l=if yD (gx dA l ((A.length+1:Nat):Int)) (gx dA l (A.length:Int)) then Dw A.length ((l.set (A.length+1) (gx dA l (A.length:Int))).set A.length (gx dA l ((A.length+1:Nat):Int))) else l:=fun l=>rfl
   rw[e0,e1,e2,e3];unfold LZ;split
   ·exact JM A x (y :: B)
   ·rfl
def CA {r:Request}:∀(A:List Request) (x:Request) (B:List Request),r∈LZ A x B↔r∈A\/r=x\/r∈B
 | [],x,B=>by simp[LZ]
 | y :: A,x,B=>by
   unfold LZ;split
   ·rw[CA A x (y :: B)];simp only[mem_cons];constructor
    ·rintro (h|h|h|h)
     ·exact .inl (.inr h)
     ·exact .inr (.inl h)
     ·exact .inl (.inl h)
     ·exact .inr (.inr h)
    ·rintro ((h|h)|h|h)
     ·exact .inr (.inr (.inl h))
     ·exact .inl h
     ·exact .inr (.inl h)
     ·exact .inr (.inr (.inr h))
   ·simp[or_assoc,or_left_comm]
def Xe {a b:Request} (h:yD a b):¬yD b a:=by unfold yD at *;omega
def aBi {a b c:Request} (h1:¬yD b a) (h2:¬yD c b):¬yD c a:=by unfold yD at *;omega
def SJ:∀(A:List Request) (x:Request) (B:List Request),(A.reverse++B).Pairwise (fun a b=>¬yD b a)->(∀b∈B,yD x b)->(LZ A x B).Pairwise fun a b=>¬yD b a
 | [],x,B,h,hb=>pairwise_cons.2 ⟨fun b m=>Xe (hb b m),h⟩
 | y :: A,x,B,h,hb=>by
   unfold LZ;have h0:=h
   rw[reverse_cons,append_assoc] at h;split
   ·rename_i g;exact SJ A x (y :: B) h fun b m=>(mem_cons.1 m).elim (fun e=>by rw[e];exact g) (hb b)
   ·rename_i g;obtain⟨p1,p2,p3⟩:=pairwise_append.1 h0
    refine pairwise_append.2 ⟨p1,pairwise_cons.2 ⟨fun b m=>Xe (hb b m),p2⟩,fun a ha b m=>?_⟩
    rcases mem_cons.1 m with rfl|m
    ·rw[reverse_cons,mem_append,mem_singleton] at ha;rcases ha with ha|rfl
     ·have:=(pairwise_append.1 h).2.2 a ha y (by simp)
      exact aBi this g
     ·exact g
    ·exact p3 a ha b m
def aBj (R:List Request) (x:Request):Dw R.length (R++[x])=LZ R.reverse x []:=by
 have:=JM R.reverse x []
 rwa [reverse_reverse,length_reverse] at this
def TR.bub {R:List Request} {tag:Int} (h:TR R tag) {x:Request} (hx:x.tagged.tag<tag):TR (Dw R.length (R++[x])) tag:=by
 rw[aBj];refine⟨fun r hr=>?_,SJ _ _ _ (by rw[reverse_reverse,append_nil];exact h.asc) (by simp)⟩
 rcases (CA _ _ _).1 hr with hr|rfl|hr
 ·exact h.all r (mem_reverse.1 hr)
 ·exact hx
 ·cases hr
def ZU.bub {ns:List Node} {R:List Request} (h:ZU ns R) {x:Request} (hx:0<=aC ns x.block):ZU ns (Dw R.length (R++[x])):=by
 rw[aBj];intro r hr;rcases (CA _ _ _).1 hr with hr|rfl|hr
 ·exact h r (mem_reverse.1 hr)
 ·exact hx
 ·cases hr
structure TI0 (t:State) (v:SV) (Q R:Option (List Request)) (q m:Int):Prop where
 td:TD t v Q R
 gi:GI t.store v q
 rg:RG t.store v
 cfg:∃b,Bb t.store.cFg b
 tq:TQ (ol Q) t.dB
 tr:TR (ol R) t.dB
 nt:t.dB<=1+m
 lq:((ol Q).length:Int)<=m
 lr:((ol R).length:Int)<=t.store.cFg.kU.oZ
 mB:m<=100000
 qn:Q≠some []
 rn:R≠some []
structure TI (t:State) (v:SV) (Q R:Option (List Request)) (q m:Int):Prop extends TI0 t v Q R q m where
 Z4:ZU v.ns (ol Q)
 Z5:ZU v.ns (ol R)
def TI0.mono {t:State} {v:SV} {Q R:Option (List Request)} {q m q' m':Int} (h:TI0 t v Q R q m) (h1:q<=q') (h2:q'<=900000) (h3:m<=m') (h4:m'<=100000):TI0 t v Q R q' m' :=
 ⟨h.td,h.gi.mono h1 h2,h.rg,h.cfg,h.tq,h.tr,by have:=h.nt;omega,by have:=h.lq;omega,h.lr,h4,h.qn,h.rn⟩
def TI.mono {t:State} {v:SV} {Q R:Option (List Request)} {q m q' m':Int} (h:TI t v Q R q m) (h1:q<=q') (h2:q'<=900000) (h3:m<=m') (h4:m'<=100000):TI t v Q R q' m':=⟨h.toTI0.mono h1 h2 h3 h4,h.Z4,h.Z5⟩
def TI0.store {t:State} {v:SV} {Q R:Option (List Request)} {q m:Int} (h:TI0 t v Q R q m) {s':aL} {v':SV} {q':Int} (g:GI s' v' q') (r:RG s' v') (c:s'.cFg=t.store.cFg):TI0 { t with store:=s' } v' Q R q' m :=
 ⟨⟨g.sd,h.td.Ix,h.td.ret,h.td.nQ,h.td.nR⟩,g,r,by show ∃b,Bb s'.cFg b;rw[c];exact h.cfg,h.tq,h.tr,h.nt,h.lq,by show _<=s'.cFg.kU.oZ;rw[c];exact h.lr,h.mB,h.qn,h.rn⟩
def TI.emit {t:State} {v:SV} {Q R:Option (List Request)} {q m:Int} (h:TI t v Q R q m) (b:Bool) (c:Command):TI { t with Ox:=b,last:=c } v Q R q m :=
 ⟨⟨⟨h.td.sd,h.td.Ix,h.td.ret,h.td.nQ,h.td.nR⟩,h.gi,h.rg,h.cfg,h.tq,h.tr,h.nt,h.lq,h.lr,h.mB,h.qn,h.rn⟩,h.Z4,h.Z5⟩
def TI.halt {t:State} {v:SV} {Q R:Option (List Request)} {q m:Int} (h:TI t v Q R q m) (b:Bool):TI { t with halted:=b } v Q R q m :=
 ⟨⟨⟨h.td.sd,h.td.Ix,h.td.ret,h.td.nQ,h.td.nR⟩,h.gi,h.rg,h.cfg,h.tq,h.tr,h.nt,h.lq,h.lr,h.mB,h.qn,h.rn⟩,h.Z4,h.Z5⟩
def TI.over {t:State} {v:SV} {Q R:Option (List Request)} {q m:Int} (h:TI t v Q R q m) (b:Bool):TI { t with overflow:=b } v Q R q m :=
 ⟨⟨⟨h.td.sd,h.td.Ix,h.td.ret,h.td.nQ,h.td.nR⟩,h.gi,h.rg,h.cfg,h.tq,h.tr,h.nt,h.lq,h.lr,h.mB,h.qn,h.rn⟩,h.Z4,h.Z5⟩
def TI0.aEB {t:State} {v:SV} {Q R:Option (List Request)} {q m:Int} (h:TI0 t v Q R q m):t.store.cFg.kU.oZ<=256:=by obtain⟨b,hb⟩:=h.cfg;exact hb.oZ.2
def TI0.iF {t:State} {v:SV} {Q R:Option (List Request)} {q m:Int} (h:TI0 t v Q R q m):0<(ol v.B).length/\(ol v.B).length<=64:=by
 obtain⟨b,hb⟩:=h.cfg
 have e:=h.gi.sd.iF.symm.trans hb.iF
 have n:=hb.nb
 cases hB:v.B with
 | none=>rw[hB] at e;cases e
 | some l =>
   rw[hB] at e;have e:AV.sl l.length (bF l)=AV.sl b.length (bF b):=e
   injection e with e1 e2
   show 0<l.length/\l.length<=64
   omega
def TI0.drop {t:State} {v:SV} {Q R:Option (List Request)} {q m:Int} (h:TI0 t v Q R q m):TI (ZP t v Q R) v (nz (qA v.ns (ol Q))) (nz (qA v.ns (ol R))) q m:=by
 have s1:(qA v.ns (ol Q)).Sublist (ol Q):=filter_sublist
 have s2:(qA v.ns (ol R)).Sublist (ol R):=filter_sublist
 have l1:=s1.length_le
 have l2:=s2.length_le
 have a1:=h.lq
 have a2:=h.lr
 refine⟨⟨h.td.drp,h.gi,h.rg,h.cfg, ?_, ?_,h.nt, ?_, ?_,h.mB,BJ _,BJ _⟩, ?_, ?_⟩
 ·rw[mF];exact h.tq.sub s1
 ·rw[mF];exact h.tr.sub s2
 ·rw[mF];omega
 ·rw[mF];show _<=t.store.cFg.kU.oZ;omega
 ·rw[mF];intro r hr;exact of_decide_eq_true (mem_filter.1 hr).2
 ·rw[mF];intro r hr;exact of_decide_eq_true (mem_filter.1 hr).2
def TI.due {t:State} {v:SV} {Q R:Option (List Request)} {q m:Int} (h:TI t v Q R q m) (hm:m+256<=100000):TI (aEz t v.ns Q R) v (LX t v.ns Q R).1.1 (nz (LX t v.ns Q R).2) q (m+256):=by
 have a1:=h.lq
 have a2:=h.lr
 have a3:=h.aEB
 have a4:=h.nt
 obtain⟨h1,h2,h3,h4,h5⟩:=Rr v.ns t.store.now (ol R) ((Q,t.dB),[]) h.tq h.Z4 (by dsimp only;omega)
 have hl:=SC v.ns t.store.now (ol R) ((Q,t.dB),[])
 rw[nil_append] at h5;have e1:Bg v.ns t.store.now ((Q,t.dB),[]) (ol R)=LX t v.ns Q R:=rfl
 rw[e1] at h1 h2 h3 h4 h5 hl;dsimp only at h3 h4 hl
 have s2:(LX t v.ns Q R).2.Sublist (ol R):=by rw[h5];exact filter_sublist
 have l2:=s2.length_le
 have zL:=hl.1
 have:=h.mB
 refine⟨⟨⟨h.td.sd,rfl,rfl,by omega,by rw[mF];omega⟩,h.gi,h.rg,h.cfg,h1, ?_, ?_,by omega, ?_,hm,I5 v.ns t.store.now (ol R) ((Q,t.dB),[]) h.qn,BJ _⟩,h2, ?_⟩
 ·rw[mF];exact (h.tr.sub s2).mono h3
 ·show (LX t v.ns Q R).1.2<=_;omega
 ·rw[mF];show _<=t.store.cFg.kU.oZ;omega
 ·rw[mF];exact h.Z5.sub s2
def TI.open {t:State} {v:SV} {Q R:Option (List Request)} {q m:Int} (h:TI t v Q R q m) (L:List cC) (hL:(L.length:Int)<=100) (hm:m+256<=100000):TI (ZQ t (Qj v.ns (Q,t.dB) L)) v (Qj v.ns (Q,t.dB) L).1 R q (m+256):=by
 have a1:=h.lq
 have a4:=h.nt
 obtain⟨h1,h2,h3,h4⟩:=LY v.ns L (Q,t.dB) h.tq h.Z4 (by dsimp only;omega)
 have hl:=I2 v.ns (Q,t.dB) L
 dsimp only at h3 h4 hl
 refine⟨⟨h.td.ZQ _ (by omega),h.gi,h.rg,h.cfg,h1,h.tr.mono h3, ?_,by omega,h.lr,hm,aBh v.ns L (Q,t.dB) h.qn,h.rn⟩,h2,h.Z5⟩
 show (Qj v.ns (Q,t.dB) L).2<=_;omega
def TI.JH {t:State} {v:SV} {Q R:Option (List Request)} {q m:Int} (h:TI t v Q R q m) {r:Request} (hr:r.tagged.tag<t.dB):∃R',TI (Q1 t v.ns (ol R) r) v Q R' q m:=by
 unfold Q1;split
 ·exact⟨R,h⟩
 split
 ·exact⟨R,h.over true⟩
 ·rename_i g1 g2;have g1:=Classical.not_not.1 g1
  have hl:(Dw (ol R).length (ol R++[SH t r])).length=(ol R).length+1:=by rw[SG,length_append,length_cons,length_nil]
  have a3:=h.aEB
  refine⟨some (Dw (ol R).length (ol R++[SH t r])),⟨⟨h.td.sd,h.td.Ix,rfl,h.td.nQ, ?_⟩,h.gi,h.rg,h.cfg,h.tq,h.tr.bub (x:=SH t r) hr,h.nt,h.lq, ?_,h.mB,h.qn,fun e=>by injection e with e;rw[e] at hl;simp at hl⟩,h.Z4,h.Z5.bub (x:=SH t r) g1.1⟩
  ·show ((Dw (ol R).length (ol R++[SH t r])).length:Int)<_;omega
  ·show ((Dw (ol R).length (ol R++[SH t r])).length:Int)<=t.store.cFg.kU.oZ;omega
def TI.less {t:State} {v:SV} {Q R:Option (List Request)} {q m:Int} (h:TI t v Q R q m) (k:Nat):TI { t with jA:=ov aF (nz ((ol Q).take k++(ol Q).drop (k+1)))} v (nz ((ol Q).take k++(ol Q).drop (k+1))) R q m:=by
 have s:((ol Q).take k++(ol Q).drop (k+1)).Sublist (ol Q):=by rw[<- eraseIdx_eq_take_drop_succ];exact eraseIdx_sublist ..
 have l1:=s.length_le
 have a1:=h.lq
 have:=h.td.nQ
 exact⟨⟨⟨h.td.sd,rfl,h.td.ret,by rw[mF];omega,h.td.nR⟩,h.gi,h.rg,h.cfg,by rw[mF];exact h.tq.sub s,h.tr,h.nt,by rw[mF];omega,h.lr,h.mB,BJ _,h.rn⟩,by rw[mF];exact h.Z4.sub s,h.Z5⟩
def TI.tree {t:State} {v:SV} {Q R:Option (List Request)} {q m:Int} (h:TI t v Q R q m) {l:List Int} {r:List Node} (hj:JP l v.ns r) (hl:aC v.ns t.store.aI.eI.root∈l) (b:cC) (hb:b=cO\/0<=aC r b):TI { t with store:={ t.store with tree:=⟨.sl r.length (bV r)⟩,dV:=b }} { v with ns:=r } Q R q m:=by
 have hs:=hj.sb
 have g:=(h.gi.tree hs).dV b
 have e:=(h.rg.tree h.gi hj hl ⟨.sl r.length (bV r)⟩).dV b hb
 exact⟨h.toTI0.store g e rfl,fun x hx=>by show 0<=aC r x.block;rw[hs.aC];exact h.Z4 x hx,fun x hx=>by show 0<=aC r x.block;rw[hs.aC];exact h.Z5 x hx⟩
def SK (Q:List Request) (tag:Int) (k:Nat):Prop:=(gx dA Q (k:Int)).tagged.tag=tag
def x27 {t:State} {v:SV} {Q R:Option (List Request)} (h:TD t v Q R) (w:gV):∃x,aG prog 27 [.agg (aP t),.agg (dK w)]=some x /\
 (((∀j:Nat,j<(ol Q).length->¬SK (ol Q) w.tagged.tag j)/\x=.eH [.agg (dF dA),.agg (aP lZ),.v (.int .i64 23)]) \/
  ∃k:Nat,k<(ol Q).length/\SK (ol Q) w.tagged.tag k/\(∀j:Nat,j<k->¬SK (ol Q) w.tagged.tag j)/\x=.eH [.agg (dF (gx dA (ol Q) (k:Int))),.agg (aP { t with jA:=ov aF (nz ((ol Q).take k++(ol Q).drop (k+1)))}),.v (.int .i64 0)]):=by
 have pH:=h.fl
 have nQ:=h.nQ
 have nQ1:((ol Q).length:Int)<1000000:=by omega
 have FF:Flat (.agg (aP lZ)):=by simp only[jE,lZ,gC,mX,Ou,Hc,Uo,and_self]
 rw[cG func27 rfl rfl]
 simp only[ZG,seval,MA];refine kZ (fun m st=>∃k:Nat,(st.env 2=.ptr 2 0 0/\st.heap 2 0=some (.cells (aP t))/\st.env 3=.ptr 3 0 0/\st.heap 3 0=some (.cells (dK w))/\st.env 4=.ptr 4 0 0/\st.heap 4 0=some (.cells (dF dA))/\st.env 5=.ptr 5 0 0/\st.heap 5 0=some (.cells (aP lZ))/\st.env 7=.v (.int .i64 k))/\(∀j:Nat,j<k->¬SK (ol Q) w.tagged.tag j)/\k<=(ol Q).length/\m=(ol Q).length-k)
  (fun e st=>(e=.ret/\∃(k:Nat) (X:AV),(st.env 4=.ptr 4 0 0/\st.heap 4 0=some (.cells (dF (gx dA (ol Q) (k:Int))))/\st.env 5=.ptr 5 0 0/\st.heap 5 0=some (.cells (aP { t with jA:=X }))/\st.env 6=.v (.int .i64 0))/\((X=.v (.slice none 0 0)/\(ol Q).take k++(ol Q).drop (k+1)=[])\/∃g,X=.own 42 g/\(ol Q).take k++(ol Q).drop (k+1)≠[]/\st.heap 42 g=some (.row 63 35 ((ol Q).take k++(ol Q).drop (k+1)).length (aF ((ol Q).take k++(ol Q).drop (k+1)))))/\k<(ol Q).length/\SK (ol Q) w.tagged.tag k/\(∀j:Nat,j<k->¬SK (ol Q) w.tagged.tag j)) \/
   (e=.exit 0/\(st.env 4=.ptr 4 0 0/\st.heap 4 0=some (.cells (dF dA))/\st.env 5=.ptr 5 0 0/\st.heap 5 0=some (.cells (aP lZ)))/\∀j:Nat,j<(ol Q).length->¬SK (ol Q) w.tagged.tag j)) (ol Q).length ?step ?start ?rest
 case step =>
  rintro m st ⟨k,hI,hj,hk,hm⟩
  by_cases aW:(k:Int)<(ol Q).length
  case neg =>
   apply IY (.exit 0)
   ·simp only[ZG,seval,MA,hI,h.Ix,aW];rfl
   ·exact .inr ⟨rfl,by simp only[E8,seval,hI],fun j hj'=>hj j (by omega)⟩
  have q0:(0:Int)<=k:=by omega
  have q2:(k:Int)<=((ol Q).length:Int):=by omega
  have q3:(0:Int)<=((k+1:Nat):Int):=by omega
  have q4:((k+1:Nat):Int)<=((ol Q).length:Int):=by omega
  have hw:=wk (k:=k) (by omega)
  have n1:((((ol Q).take k).length:Nat):Int)<1000000:=by rw[length_take];omega
  have n2:((((ol Q).drop (k+1)).length:Nat):Int)<1000000:=by rw[length_drop];omega
  have e1:ol (Q.map (·.take k))=(ol Q).take k:=by cases Q<;>simp[ol]
  have e2:ol (Q.map (·.drop (k+1)))=(ol Q).drop (k+1):=by cases Q<;>simp[ol]
  by_cases hh:SK (ol Q) w.tagged.tag k
  ·have hh':(gx dA (ol Q) (k:Int)).tagged.tag=w.tagged.tag:=hh
   obtain⟨LL,BT⟩:∃LL,(ol Q).take k++(ol Q).drop (k+1)=LL:=⟨_,rfl⟩
   by_cases hz:LL=[]
   ·have hT:((ol Q).take k).length=0:=by have:=congrArg List.length BT;rw[hz,length_append] at this;simp only[length_nil] at this;omega
    have hD:((ol Q).drop (k+1)).length=0:=by have:=congrArg List.length BT;rw[hz,length_append] at this;simp only[length_nil] at this;omega
    apply IY (.ret)
    ·simp only[ZG,seval,MA,hI,h.Ix,aW,q0,q2,q3,q4,hw,bt hh',Int.toNat_natCast,iN,iO,Ux,Option.isSome_some,aAo,aAk,hT,hD,e1,e2];rfl
    ·exact .inl ⟨rfl,k,.v (.slice none 0 0),by simp only[E8,seval,hI]<;>rfl,.inl ⟨rfl,BT.trans hz⟩,by omega,hh,hj⟩
   have BO:(LL.length=0)=False:=eq_false fun h=>hz (length_eq_zero_iff.1 h)
   have n3:((LL.length:Nat):Int)<1000000:=by rw[<- BT,length_append,length_take,length_drop];omega
   by_cases rC:k=0
   ·have hT:((ol Q).take k).length=0:=by rw[rC];rfl
    have hD:(ol Q).drop (k+1)=LL:=by rw[<- BT,rC];rfl
    apply IY (.ret)
    ·simp only[ZG,seval,MA,hI,h.Ix,aW,q0,q2,q3,q4,hw,bt hh',Int.toNat_natCast,iN,iO,Ux,Option.isSome_some,aAo,aAk,hT,hD,BO,rS _ n3,e1,e2];rfl
    ·exact .inl ⟨rfl,k,_,by simp only[E8,seval,hI]<;>rfl,.inr ⟨_,rfl,by rw[BT];exact hz,by rw[BT];simp only[E8,seval]<;>rfl⟩,by omega,hh,hj⟩
   ·have hT:(((ol Q).take k).length=0)=False:=eq_false (by rw[length_take];omega)
    apply IY (.ret)
    ·simp only[ZG,seval,MA,hI,h.Ix,aW,q0,q2,q3,q4,hw,bt hh',Int.toNat_natCast,iN,iO,Ux,Option.isSome_some,aAo,aAk,hT,rS _ n1,Xf _ _ _ _ n1 n2,e1,e2];rfl
    ·exact .inl ⟨rfl,k,_,by simp only[E8,seval,hI]<;>rfl,.inr ⟨_,rfl,by rw[BT];exact hz,by simp only[E8,seval]<;>rfl⟩,by omega,hh,hj⟩
  ·have hh':¬(gx dA (ol Q) (k:Int)).tagged.tag=w.tagged.tag:=hh
   apply Dr ((ol Q).length-(k+1))
   ·simp only[ZG,seval,MA,hI,h.Ix,aW,q0,hw,bf hh'];rfl
   ·exact⟨k+1,by simp only[E8,seval,hI],fun j hj'=>(Nat.lt_succ_iff_lt_or_eq.1 hj').elim (hj j) fun e=>by subst e;exact hh,by omega,rfl⟩
 case start=>exact⟨0,by simp only[E8,seval]<;>rfl,fun j hj=>by omega,by omega,by omega⟩
 case rest =>
  rintro e st (⟨rfl,k,X,hI,hX,hk,hh,hj⟩|⟨rfl,hI,hj⟩)
  ·rcases hX with ⟨rfl,hz⟩|⟨g,rfl,hz,hg⟩
   ·have hfz:Flat (.agg (aP { t with jA:=.v (.slice none 0 0)})):=(uV _).2 ⟨pH.1,pH.2.1,pH.2.2.1,pH.2.2.2.1,pH.2.2.2.2.1,pH.2.2.2.2.2.1,pH.2.2.2.2.2.2.1,.v _,pH.2.2.2.2.2.2.2.2⟩
    simp only[ZG,seval,MA,hI];exact⟨_,fQ rfl (by simp only[bY,Z8,seval,hI]<;>rfl) (by simp only[bY,Z8,seval,hI]<;>rfl) (by simp only[bY,E8,seval,hI]<;>rfl) (eC (.agg _ (jV _))) (eC hfz) (by simp only[Z8,seval]<;>rfl),.inr ⟨k,hk,hh,hj,by rw[hz,show nz ([]:List Request)=none from if_pos rfl];rfl⟩⟩
   ·simp only[ZG,seval,MA,hI,hg];exact⟨_,fQ rfl (by simp only[bY,Z8,seval,hI]<;>rfl) (by simp only[bY,Z8,seval,hI]<;>rfl) (by simp only[bY,E8,seval,hI]<;>rfl) (eC (.agg _ (jV _))) (by simp only[Z8,seval,hI,hg,bP,wS,gH,bM,pZ,cY,jE,pH]<;>rfl) (by simp only[Z8,seval]<;>rfl),.inr ⟨k,hk,hh,hj,by rw[show nz ((ol Q).take k++(ol Q).drop (k+1))=some _ from if_neg hz];rfl⟩⟩
  ·simp only[ZG,seval,MA,hI];exact⟨_,by apply fQ;rfl;all_goals simp only[aJ,bY,Z8,seval,hI,FF]<;>rfl,.inl ⟨hj,rfl⟩⟩
def aRk (ns:List Node) (hu:fK ns) (hr:(nd ns 0).up=-1) (hn:(ns.length:Int)<1000000) (i:Int) (w:gV) (l:List Int) (hl:(l.length:Int)<1000000) (st:St) (a g:Nat) (d:Option Nat) (hh:st.heap a g=some (.row 3 1 l.length (aM l))) :
 fJ (aG prog) 222 [.agg (cH ⟨ns⟩),.v (.int .i64 i),.agg (dK w),.own a g] st d=some { dst:=d,val:=YQ ns i w l,dP:=some (a,g,none)}:=by
 rw[Ro (s:=a) (k:=g) (by rw[flatMap_cons,flatMap_cons,flatMap_cons,wO (lL _),wO (.v _),wO (.agg _ (jW w))];rfl) (by intro y hy;simp only[mem_cons,not_mem_nil,or_false] at hy;rcases hy with rfl|rfl|rfl|rfl;exact .inl (lL _);exact .inl (.v _);exact .inl (.agg _ (jW w));exact .inr (.inl ⟨a,g,rfl⟩)),
  map_cons,map_cons,map_cons,map_cons,map_nil,eC (lL _),eC (.v _),eC (.agg _ (jW w)),Ut hh,bK,bK,bK,bK,fY]
 exact RM (aPJ ns hu hr hn i w l hl (.inl rfl)) (O1 ns i w l)
def aRl {t:State} {v:SV} {Q R:Option (List Request)} {q m:Int} (h:TI t v Q R q m) (w:gV) :
 ∃x,aG prog 206 [.agg (aP t),.agg (dK w)]=some x/\∃(t':State) (e:Int) (v':SV) (Q' R':Option (List Request)),x=.eH [.agg (aP t'),.v (.int .i64 e)]/\TI t' v' Q' R' q m:=by
 have hf:=h.td.flat
 have pH:=h.td.fl
 have fw:Flat (.agg (dK w)):=.agg _ (jW w)
 have FF:Flat (.agg (aP lZ)):=by simp only[jE,lZ,gC,mX,Ou,Hc,Uo,and_self]
 obtain⟨y,hy,⟨hj,rfl⟩|⟨k,hk,hh,hj,rfl⟩⟩:=x27 h.td w
 ·have k27:=kx hy (bB hf fw) (.eH _ (mM (.agg _ (jV _)) FF (.v _)))
  rw[cL func206 rfl rfl];simp only[Z8,seval,k27,dR];exact⟨_,by apply dN;rfl;all_goals simp only[aJ,bY,Z8,seval,hf]<;>rfl,t,23,v,Q,R,rfl,h⟩
 obtain⟨r,er⟩:∃r,gx dA (ol Q) (k:Int)=r:=⟨_,rfl⟩
 obtain⟨t1,et⟩:∃t1,({ t with jA:=ov aF (nz ((ol Q).take k++(ol Q).drop (k+1)))}:State)=t1:=⟨_,rfl⟩
 have hr:r.tagged.tag<t.dB:=by rw[<- er];exact (h.tq.all _ (nC (by omega) (by omega))).2.1
 have h1:=h.less k
 rw[et] at h1;rw[er,et] at hy;have nt1:t1.dB=t.dB:=by rw[<- et]
 have hf1:=h1.td.flat
 have SL:=h1.td.fl
 have k27:=kx hy (bB hf fw) (.eH _ (mM (.agg _ (jV _)) hf1 (.v _)))
 have hn:=h1.gi.sd.nn
 rw[cL func206 rfl rfl];by_cases g3:w.kind=3
 ·obtain⟨R',hR'⟩:=h1.JH (r:=r) (by rw[nt1];exact hr)
  have ff:=hR'.td.flat
  have k72:=kx (c72 h1.td r) (bB hf1 (.agg _ (jV _))) ff
  simp only[Z8,seval,k27,dR,bt g3,k72];exact⟨_,by apply dN;rfl;all_goals simp only[aJ,bY,Z8,seval,ff]<;>rfl,_,0,v,_,R',rfl,hR'⟩
 by_cases g4:w.kind=4
 ·obtain⟨R',hR'⟩:=h1.JH (r:=r) (by rw[nt1];exact hr)
  have ff:=hR'.td.flat
  have k72:=kx (c72 h1.td r) (bB hf1 (.agg _ (jV _))) ff
  simp only[Z8,seval,k27,dR,bf g3,bt g4,k72];exact⟨_,by apply dN;rfl;all_goals simp only[aJ,bY,Z8,seval,ff]<;>rfl,_,0,v,_,R',rfl,hR'⟩
 have JN:∀(st:St) (a g:Nat) (d:Option Nat),st.heap a g=some (.row 3 1 2 (aM [aC v.ns t1.store.aI.eI.root,aC v.ns t1.store.aI.fin.root]))->_:=fun st a g d hh=>aRk v.ns h1.gi.up h1.gi.Ww hn (aC v.ns r.block) w [aC v.ns t1.store.aI.eI.root,aC v.ns t1.store.aI.fin.root] (by show ((2:Nat):Int)<_;omega) st a g d hh
 rcases aIr h1.rg.vs.Ca h1.rg.vs.FH h1.rg.vs.AS (aC v.ns r.block) w [aC v.ns t1.store.aI.eI.root,aC v.ns t1.store.aI.fin.root] with ⟨e,he,ej⟩|⟨BI,hs,ej⟩
 ·rw[ej] at JN
  have hH:=h.halt true
  have fH:=hH.td.flat
  simp only[Z8,seval,k27,dR,bf g3,bf g4,Gv,h1.gi.sd.tree,lY _ _ hn,JN,bf he];exact⟨_,by apply dN;rfl;all_goals simp only[aJ,bY,Z8,seval,fH]<;>rfl,_,21,v,Q,R,rfl,hH⟩
 rw[ej] at JN
 have Hu:(BI.length:Int)<1000000:=by rw[hs.sb.len];exact hn
 have fr:=cS BI t1.store.dV
 by_cases b0:0<=aC BI t1.store.dV
 case neg =>
  have T:=h1.tree hs (mem_cons_self ..) t1.store.dV (by rw[hs.sb.aC];exact h1.rg.vs.bo)
  have ft:=T.td.flat
  simp only[Z8,seval,k27,dR,bf g3,bf g4,Gv,h1.gi.sd.tree,lY _ _ hn,lY _ _ Hu,JN,b0];exact⟨_,by apply dN;rfl;all_goals simp only[aJ,bY,Z8,seval,ft]<;>rfl,_,0,_,_,R,rfl,T⟩
 by_cases b1:(nd BI (aC BI t1.store.dV)).status=2
 case neg =>
  have T:=h1.tree hs (mem_cons_self ..) t1.store.dV (by rw[hs.sb.aC];exact h1.rg.vs.bo)
  have ft:=T.td.flat
  simp only[Z8,seval,k27,dR,bf g3,bf g4,Gv,h1.gi.sd.tree,lY _ _ hn,lY _ _ Hu,JN,b0,fr.2,bf b1];exact⟨_,by apply dN;rfl;all_goals simp only[aJ,bY,Z8,seval,ft]<;>rfl,_,0,_,_,R,rfl,T⟩
 have T:=h1.tree hs (mem_cons_self ..) cO (.inl rfl)
 have ft:=T.td.flat
 simp only[Z8,seval,k27,dR,bf g3,bf g4,Gv,h1.gi.sd.tree,lY _ _ hn,lY _ _ Hu,JN,b0,fr.2,bt b1];exact⟨_,by apply dN;rfl;all_goals simp only[aJ,bY,Z8,seval,ft]<;>rfl,_,0,_,_,R,rfl,T⟩
def aRn (s:aL) (v:SV) (q:Int) (r:AV):Prop:=∃(s':aL) (R:Option (List cC)) (e:Int),r=.eH [.agg (aA s'),ov gX R,.v (.int .i64 e)]/\Flat (.agg (aA s'))/\((ol R).length:Int)<=70/\e≠21/\(e=0->∃v',GI s' v' q/\RG s' v'/\s'.cFg=s.cFg)
def aEC {s:aL} {v:SV} {b:Block} (hb:Cs s v b=10):aC v.ns b.parent<0:=by
 rcases Int.lt_or_le (aC v.ns b.parent) 0 with h|h
 ·exact h
 have h':¬aC v.ns b.parent<0:=by omega
 unfold Cs at hb;rw[if_neg h'] at hb;repeat (split at hb;omega)
 omega
def aRo {s:aL} {v:SV} {q:Int} (h:GI s v q) (r:RG s v) (b:Block) (rb:RB b/\Pr b.root):∃r,aG prog 203 [.agg (aA s),.agg (aU b)]=some r/\aRn s v q r:=by
 have hf:=h.sd.flat
 have pH:=h.sd.fl
 have hz:=Ln
 have ZV:=k52 h.sd h.up h.sp
 have nO:=h.nO
 have LJ:=h.LJ
 have nn':=h.sd.nO
 rw[cL func203 rfl rfl];by_cases g1:Cs s v b=10
 ·by_cases g2:s.cFg.kU.vU<=((ol v.O).length:Int)
  ·simp only[Z8,seval,ZV,bt g1,h.sd.bN,g2];exact⟨_,by apply fQ;rfl;all_goals simp only[aJ,bY,Z8,seval,hz]<;>rfl,gC,none,11,rfl,hz,by simp[ol],by decide,fun h=>by cases h⟩
  ·have hw:=h.RC (some (ol v.O++[{ b with wM:=false }])) (by show (((ol v.O++[{ b with wM:=false }]).length:Nat):Int)<=s.cFg.kU.vU;rw[length_append,length_cons,length_nil];omega)
   have hwr:=r.wait rb g1 (aEC g1) (ov aH (some (ol v.O++[{ b with wM:=false }])))
   simp only[Z8,seval,ZV,bt g1,h.sd.bN,g2,iW _ nn',JO _ _ _ _ nn'];exact⟨_,by apply fQ;rfl;all_goals simp only[aJ,bY,Z8,seval,bP,gH,bM,uZ,cY,jE,pH]<;>rfl,_,none,0,rfl,hw.sd.flat,by simp[ol],by decide,fun _=>⟨_,hw,hwr,rfl⟩⟩
 by_cases g2:Cs s v b=0
 case neg =>
  simp only[Z8,seval,ZV,bf g1,bf g2];exact⟨_,by apply fQ;rfl;all_goals simp only[aJ,bY,Z8,seval,hz]<;>rfl,gC,none,_,rfl,hz,by simp[ol],aH0 _ _ _,fun h=>absurd h g2⟩
 have I6:=aMA h g2
 have aED:=h.ins g2
 have aEE:=r.toRG0.ins h rb g2
 have hcf:=Cv s v b
 have hO1:=ZD s v b
 cases g3:b.wM
 · -- not timely
  have hG:GI (sT s v b) (kO s v b) q:=aED
  have nU:RG0 (sT s v b) (kO s v b):=aEE
  have hC:((sT s v b)).cFg=s.cFg:=hcf.1
  have qI:=QZ hG.sd
  simp only[Z8,seval,ZV,bf g1,bt g2,I6,g3,qI];refine Rs (a:=Cy) (P9 s v q) (LS (by omega) (m:=(ol (kO s v b).O).length) ⟨(sT s v b),kO s v b,_,[b.root],66,0, ?start,.inl ⟨rfl,rfl⟩,.inl rfl,hG,nU,hC,by simp;omega,rfl⟩) ?rest
  case start =>
   rw[tP hG.sd];simp only[E8,seval,gX,flatMap_cons,flatMap_nil,append_nil]<;>rfl
  case rest =>
   rintro e st ⟨rfl,S0,w,X,R,a,g,hI,ha,hX,hG,nU,hC,hR⟩
   have ha4:(a=4)=False:=eq_false ha
   have aIt:=hG.sd.fl
   have hfo:=hG.sd.bN
   rcases hX with rfl|⟨g',L,hL,rfl,PI⟩
   ·rw[tP hG.sd] at hI;have Xd:=hG.sd.flat
    simp only[Z8,seval,hI];exact⟨_,by apply fQ;rfl;all_goals simp only[aJ,bY,Z8,seval,hI,ha4,Xd,xJ]<;>rfl,S0,some R,0,rfl,Xd,by simp only[ol,Option.getD_some];omega,by decide,fun _=>⟨w,hG,nU,hC⟩⟩
   ·have hex:=fun st' hh=>Az (O:=L) (a:=91) (g:=g') hG.sd st' hh
    have SL:mP S0 (ov aH (some L))=S0:=by rw[<- hL];exact tP hG.sd
    rw[SL] at hex;simp only[Z8,seval,hI];exact⟨_,by apply fQ;rfl;all_goals simp only[aJ,bY,Z8,seval,hI,ha4,PI,hex,xJ]<;>rfl,S0,some R,0,rfl,hG.sd.flat,by simp only[ol,Option.getD_some];omega,by decide,fun _=>⟨w,hG,nU,hC⟩⟩
 by_cases g4:b.slot=s.now
 case neg =>
  have hG:GI (sT s v b) (kO s v b) q:=aED
  have nU:RG0 (sT s v b) (kO s v b):=aEE
  have hC:((sT s v b)).cFg=s.cFg:=hcf.1
  have qI:=QZ hG.sd
  simp only[Z8,seval,ZV,bf g1,bt g2,I6,g3,bf g4,qI];refine Rs (a:=Cy) (P9 s v q) (LS (by omega) (m:=(ol (kO s v b).O).length) ⟨(sT s v b),kO s v b,_,[b.root],66,0, ?start,.inl ⟨rfl,rfl⟩,.inl rfl,hG,nU,hC,by simp;omega,rfl⟩) ?rest
  case start =>
   rw[tP hG.sd];simp only[E8,seval,gX,flatMap_cons,flatMap_nil,append_nil]<;>rfl
  case rest =>
   rintro e st ⟨rfl,S0,w,X,R,a,g,hI,ha,hX,hG,nU,hC,hR⟩
   have ha4:(a=4)=False:=eq_false ha
   have aIt:=hG.sd.fl
   have hfo:=hG.sd.bN
   rcases hX with rfl|⟨g',L,hL,rfl,PI⟩
   ·rw[tP hG.sd] at hI;have Xd:=hG.sd.flat
    simp only[Z8,seval,hI];exact⟨_,by apply fQ;rfl;all_goals simp only[aJ,bY,Z8,seval,hI,ha4,Xd,xJ]<;>rfl,S0,some R,0,rfl,Xd,by simp only[ol,Option.getD_some];omega,by decide,fun _=>⟨w,hG,nU,hC⟩⟩
   ·have hex:=fun st' hh=>Az (O:=L) (a:=91) (g:=g') hG.sd st' hh
    have SL:mP S0 (ov aH (some L))=S0:=by rw[<- hL];exact tP hG.sd
    rw[SL] at hex;simp only[Z8,seval,hI];exact⟨_,by apply fQ;rfl;all_goals simp only[aJ,bY,Z8,seval,hI,ha4,PI,hex,xJ]<;>rfl,S0,some R,0,rfl,hG.sd.flat,by simp only[ol,Option.getD_some];omega,by decide,fun _=>⟨w,hG,nU,hC⟩⟩
 by_cases g5:s.dV=cO
 case neg =>
  have hG:GI (sT s v b) (kO s v b) q:=aED
  have nU:RG0 (sT s v b) (kO s v b):=aEE
  have hC:((sT s v b)).cFg=s.cFg:=hcf.1
  have qI:=QZ hG.sd
  simp only[Z8,seval,ZV,bf g1,bt g2,I6,g3,bt g4,g5,qI];refine Rs (a:=Cy) (P9 s v q) (LS (by omega) (m:=(ol (kO s v b).O).length) ⟨(sT s v b),kO s v b,_,[b.root],66,0, ?start,.inl ⟨rfl,rfl⟩,.inl rfl,hG,nU,hC,by simp;omega,rfl⟩) ?rest
  case start =>
   rw[tP hG.sd];simp only[E8,seval,gX,flatMap_cons,flatMap_nil,append_nil]<;>rfl
  case rest =>
   rintro e st ⟨rfl,S0,w,X,R,a,g,hI,ha,hX,hG,nU,hC,hR⟩
   have ha4:(a=4)=False:=eq_false ha
   have aIt:=hG.sd.fl
   have hfo:=hG.sd.bN
   rcases hX with rfl|⟨g',L,hL,rfl,PI⟩
   ·rw[tP hG.sd] at hI;have Xd:=hG.sd.flat
    simp only[Z8,seval,hI];exact⟨_,by apply fQ;rfl;all_goals simp only[aJ,bY,Z8,seval,hI,ha4,Xd,xJ]<;>rfl,S0,some R,0,rfl,Xd,by simp only[ol,Option.getD_some];omega,by decide,fun _=>⟨w,hG,nU,hC⟩⟩
   ·have hex:=fun st' hh=>Az (O:=L) (a:=91) (g:=g') hG.sd st' hh
    have SL:mP S0 (ov aH (some L))=S0:=by rw[<- hL];exact tP hG.sd
    rw[SL] at hex;simp only[Z8,seval,hI];exact⟨_,by apply fQ;rfl;all_goals simp only[aJ,bY,Z8,seval,hI,ha4,PI,hex,xJ]<;>rfl,S0,some R,0,rfl,hG.sd.flat,by simp only[ol,Option.getD_some];omega,by decide,fun _=>⟨w,hG,nU,hC⟩⟩
 have hG:GI { sT s v b with dV:=b.root } (kO s v b) q:=aED.dV b.root
 have nU:RG0 { sT s v b with dV:=b.root } (kO s v b):=aEE.dV b.root (.inr (aAH h r.vs g2))
 have hC:({ sT s v b with dV:=b.root }).cFg=s.cFg:=hcf.1
 have qI:=QZ hG.sd
 simp only[Z8,seval,ZV,bf g1,bt g2,I6,g3,bt g4,g5,qI];refine Rs (a:=Cy) (P9 s v q) (LS (by omega) (m:=(ol (kO s v b).O).length) ⟨{ sT s v b with dV:=b.root },kO s v b,_,[b.root],66,0, ?start,.inl ⟨rfl,rfl⟩,.inl rfl,hG,nU,hC,by simp;omega,rfl⟩) ?rest
 case start =>
  rw[tP hG.sd];simp only[E8,seval,gX,flatMap_cons,flatMap_nil,append_nil]<;>rfl
 case rest =>
  rintro e st ⟨rfl,S0,w,X,R,a,g,hI,ha,hX,hG,nU,hC,hR⟩
  have ha4:(a=4)=False:=eq_false ha
  have aIt:=hG.sd.fl
  have hfo:=hG.sd.bN
  rcases hX with rfl|⟨g',L,hL,rfl,PI⟩
  ·rw[tP hG.sd] at hI;have Xd:=hG.sd.flat
   simp only[Z8,seval,hI];exact⟨_,by apply fQ;rfl;all_goals simp only[aJ,bY,Z8,seval,hI,ha4,Xd,xJ]<;>rfl,S0,some R,0,rfl,Xd,by simp only[ol,Option.getD_some];omega,by decide,fun _=>⟨w,hG,nU,hC⟩⟩
  ·have hex:=fun st' hh=>Az (O:=L) (a:=91) (g:=g') hG.sd st' hh
   have SL:mP S0 (ov aH (some L))=S0:=by rw[<- hL];exact tP hG.sd
   rw[SL] at hex;simp only[Z8,seval,hI];exact⟨_,by apply fQ;rfl;all_goals simp only[aJ,bY,Z8,seval,hI,ha4,PI,hex,xJ]<;>rfl,S0,some R,0,rfl,hG.sd.flat,by simp only[ol,Option.getD_some];omega,by decide,fun _=>⟨w,hG,nU,hC⟩⟩
def PfR (q m:Int) (r:AV):Prop:=∃(t':State) (e:Int),r=.eH [.agg (aP t'),.v (.int .i64 e)]/\Flat (.agg (aP t'))/\(e=0\/e=21->∃v' Q' R',TI t' v' Q' R' (q+1000) (m+256))
def SM {t:State} (h:Flat (.agg (aP t))) {s':aL} (hs:Flat (.agg (aA s'))):Flat (.agg (aP { t with store:=s' })):=by
 obtain⟨_,_,_,_,_,_,_,h8,h9⟩:=(uV t).1 h
 obtain⟨h1,h2,h3,h4,h5,h6,h7⟩:=(Jj s').1 hs
 exact (uV _).2 ⟨h1,h2,h3,h4,h5,h6,h7,h8,h9⟩
def aRp {t:State} {v:SV} {Q R:Option (List Request)} {q m:Int} (h:TI t v Q R q m) (x:yQ) (hx:pX x) (hp:x.kind=2->Pr x.block.root) (hq:q+1000<=900000) (hm:m+256<=100000) :
 ∃r,aG prog 185 [.agg (aP t),.agg (lD x)]=some r/\PfR q m r:=by
 have hf:=h.td.flat
 have E9:=h.gi.sd.flat
 have LH:=hx.flat
 have aEF:=hx.fl
 have up:∀ {t':State} {v':SV} {Q' R':Option (List Request)} {q' m':Int},TI t' v' Q' R' q' m'->q'<=q+1000->m'<=m+256->∃v' Q' R',TI t' v' Q' R' (q+1000) (m+256):=fun g a b=>⟨_,_,_,g.mono a hq b hm⟩
 have nt:=h.nt
 have mB:=h.mB
 have lq:=h.lq
 have lr:=h.lr
 have rB:=h.aEB
 rw[cL func185 rfl rfl];by_cases k1:x.kind=1
 ·obtain⟨y,hy,s',e,rfl,XO,ne,ho⟩:=aQ8 h.gi h.rg
  have k202:=kx hy (cP E9) (.eH _ (bB XO (.v _)))
  have ft:=SM hf XO
  by_cases e0:e=0
  ·obtain⟨v',g,r,c⟩:=ho e0
   have T0:=h.toTI0.store g r c
   have T1:=T0.drop
   have T2:=T1.due hm
   have k36:=kx (c36 T0.td) (cP ft) T1.td.flat
   have k74:=kx (c74 T1.td (by have:=T1.lq;have:=T1.lr;have:=T1.aEB;omega)) (cP T1.td.flat) T2.td.flat
   have ft2:=T2.td.flat
   simp only[Z8,seval,bt k1,k202,dR,bt e0,k36,k74];exact⟨_,by apply dN;rfl;all_goals simp only[aJ,bY,Z8,seval,ft2]<;>rfl,_,e,rfl,ft2,fun _=>up T2 (by omega) (by omega)⟩
  ·simp only[Z8,seval,bt k1,k202,dR,bf e0];exact⟨_,by apply dN;rfl;all_goals simp only[aJ,bY,Z8,seval,ft]<;>rfl,_,e,rfl,ft,fun h=>absurd h (by omega)⟩
 by_cases k2:x.kind=2
 ·obtain⟨y,hy,s',L,e,rfl,XO,nL,ne,ho⟩:=aRo h.gi h.rg x.block ⟨hx.rb,hp k2⟩
  have k203:=kx hy (bB E9 (tW _)) (.eH _ (mM XO (Jt L) (.v _)))
  have ft:=SM hf XO
  by_cases e0:e=0
  ·obtain⟨v',g,r,c⟩:=ho e0
   have T0:=h.toTI0.store g r c
   have T1:=T0.drop
   have T2:=T1.open (ol L) (by omega) hm
   have k36:=kx (c36 T0.td) (cP ft) T1.td.flat
   have k32:∀(st:St) (d:Option Nat),fJ (aG prog) 32 _ st d=_:=fun st d=>Ju (bB T1.td.flat (Jt L)) (c32 T1.td L (by have:=T1.lq;omega)) T2.td.flat
   have ft2:=T2.td.flat
   simp only[Z8,seval,bf k1,bt k2,k203,dR,bt e0,k36,k32];exact⟨_,by apply dN;rfl;all_goals simp only[aJ,bY,Z8,seval,ft2]<;>rfl,_,e,rfl,ft2,fun _=>up T2 (by omega) (by omega)⟩
  ·simp only[Z8,seval,bf k1,bt k2,k203,dR,bf e0];exact⟨_,by apply dN;rfl;all_goals simp only[aJ,bY,Z8,seval,ft]<;>rfl,_,e,rfl,ft,fun h=>absurd h (by omega)⟩
 by_cases k3:x.kind=3
 ·obtain⟨V,hV,nV⟩:=hx.Il
  obtain⟨y,hy,s',e,rfl,XO,ne,ho⟩:=aQv h.gi h.rg x.Il V hV (by omega)
  have k204:=kx hy (bB E9 ((Ax _).2 aEF.1)) (.eH _ (bB XO (.v _)))
  have ft:=SM hf XO
  have fin:e=0\/e=21->∃v' Q' R',TI { t with store:=s' } v' Q' R' (q+1000) (m+256):=fun he=>by
   obtain⟨v',g,r,c,en⟩:=ho (by omega)
   exact up ⟨h.toTI0.store g r c,by rw[en];exact h.Z4,by rw[en];exact h.Z5⟩ (by omega) (by omega)
  simp only[Z8,seval,bf k1,bf k2,bt k3,k204,dR];exact⟨_,by apply dN;rfl;all_goals simp only[aJ,bY,Z8,seval,ft]<;>rfl,_,e,rfl,ft,fin⟩
 by_cases k4:x.kind=4
 ·obtain⟨V,hV,nV⟩:=hx.c1
  obtain⟨W,hW,nW⟩:=hx.c2
  obtain⟨y,hy,s',e,rfl,XO,ne,ho⟩:=aQu h.gi h.rg x.pL V W hV hW nV nW hq
  have k205:=kx hy (bB E9 ((nM _).2 ⟨aEF.2.1,aEF.2.2.1⟩)) (.eH _ (bB XO (.v _)))
  have ft:=SM hf XO
  have fin:e=0\/e=21->∃v' Q' R',TI { t with store:=s' } v' Q' R' (q+1000) (m+256):=fun he=>by
   obtain⟨v',g,r,c,en⟩:=ho (by omega)
   exact up ⟨h.toTI0.store g r c,by rw[en];exact h.Z4,by rw[en];exact h.Z5⟩ (by omega) (by omega)
  simp only[Z8,seval,bf k1,bf k2,bf k3,bt k4,k205,dR];exact⟨_,by apply dN;rfl;all_goals simp only[aJ,bY,Z8,seval,ft]<;>rfl,_,e,rfl,ft,fin⟩
 by_cases k5:x.kind=5
 ·have nT:=h.gi.nT
  have PM:=h.gi.PM
  obtain⟨y,hy,s',e,rfl,XO,ne,ho⟩:=aLX h.gi.sd (by omega) x.table hx.aA3
  have aEG:=kx hy (bB E9 ((gZ _).2 aEF.2.2.2)) (.eH _ (bB XO (.v _)))
  have ft:=SM hf XO
  have fin:e=0\/e=21->∃v' Q' R',TI { t with store:=s' } v' Q' R' (q+1000) (m+256):=fun he=>by
   obtain⟨o',rfl,nl,tb,sub,⟨ne1,srt⟩,ne2⟩:=ho (by omega)
   have g:GI { t.store with tables:=ov aN o' } { v with T:=o' } q :=
    ⟨⟨h.gi.sd.iF,h.gi.sd.dS,h.gi.sd.gA,h.gi.sd.early,h.gi.sd.bN,h.gi.sd.tree,rfl,h.gi.sd.eV,tb,h.gi.sd.nB,h.gi.sd.nL,h.gi.sd.nQ,h.gi.sd.nE,h.gi.sd.nO,by show ((ol o').length:Int)<_;omega,h.gi.sd.nn⟩,h.gi.up,h.gi.Ww,h.gi.pos,h.gi.nl,h.gi.PK,h.gi.jS,h.gi.JB,h.gi.nB,h.gi.nO,h.gi.LJ,h.gi.nE,h.gi.PL,by show ((ol o').length:Int)<=t.store.cFg.kU.nD;omega,h.gi.PM,h.gi.nQ,h.gi.O7,h.gi.eI⟩
   have r:RG { t.store with tables:=ov aN o' } { v with T:=o' }:=⟨⟨h.rg.now,h.rg.j,h.rg.f,h.rg.nd,h.rg.or,h.rg.rt,h.rg.fe,h.rg.ds,by obtain⟨tb,h1,h2⟩:=h.rg.tb;exact⟨tb,sub h1,h2⟩,⟨h.rg.ne.q,h.rg.ne.e,h.rg.ne.o,ne1,h.rg.ne.ea,fun x hx=>(ne2 x hx).elim (h.rg.ne.tb x) fun ⟨_,B,h1,h2⟩=>⟨B,h1,fun e=>by have h3:=h.iF.1;rw[e] at h2;simp at h2;omega⟩⟩,h.rg.vs.PN o' _ (fun x hx=>(ne2 x hx).elim (h.rg.vs.tv x) fun h3=>h3.1 (by have:=h.iF.1;omega)) (srt h.rg.vs.ts)⟩,h.rg.op⟩
   exact up ⟨h.toTI0.store g r rfl,h.Z4,h.Z5⟩ (by omega) (by omega)
  simp only[Z8,seval,bf k1,bf k2,bf k3,bf k4,bt k5,aEG,dR];exact⟨_,by apply dN;rfl;all_goals simp only[aJ,bY,Z8,seval,ft]<;>rfl,_,e,rfl,ft,fin⟩
 by_cases k6:x.kind=6
 ·obtain⟨y,hy,t',e,v',Q',R',rfl,g⟩:=aRl h x.verdict
  have k206:=kx hy (bB hf (.agg _ (jW _))) (.eH _ (bB g.td.flat (.v _)))
  have ft:=g.td.flat
  simp only[Z8,seval,bf k1,bf k2,bf k3,bf k4,bf k5,bt k6,k206,dR];exact⟨_,by apply dN;rfl;all_goals simp only[aJ,bY,Z8,seval,ft]<;>rfl,_,e,rfl,ft,fun _=>up g (by omega) (by omega)⟩
 simp only[Z8,seval,bf k1,bf k2,bf k3,bf k4,bf k5,bf k6];exact⟨_,by apply dN;rfl;all_goals simp only[aJ,bY,Z8,seval,hf]<;>rfl,t,2,rfl,hf,fun h=>absurd h (by omega)⟩
def aRr {t:State} {v:SV} {Q R:Option (List Request)} {q m:Int} (h:TI t v Q R q m) (x:yQ) (hx:pX x) (hp:x.kind=2->Pr x.block.root) (hq:q+1000<=900000) (hm:m+256<=100000) :
 ∃r,aG prog 147 [.agg (aP t),.agg (lD x)]=some r/\∃(t':State) (y:AV) (e:Int) (v':SV) (Q' R':Option (List Request)),r=.eH [.agg (aP t'),y,.v (.int .i64 e)]/\Flat y/\TI t' v' Q' R' (q+1000) (m+256):=by
 have hf:=h.td.flat
 have LH:=hx.flat
 have h':=h.mono (q':=q+1000) (m':=m+256) (by omega) hq (by omega) hm
 obtain⟨y1,hy1,e1,rfl⟩:=aQP x hx
 have aEH:=kx hy1 (cP LH) (.v _)
 obtain⟨y2,hy2,t2,e2,rfl,ft2,ho⟩:=aRp h x hx hp hq hm
 have aIu:=kx hy2 (bB hf LH) (.eH _ (bB ft2 (.v _)))
 rw[cL func147 rfl rfl];cases g0:t.halted
 case true =>
  simp only[Z8,seval,g0];exact⟨_,by apply fQ;rfl;all_goals simp only[aJ,bY,Z8,seval,hf]<;>rfl,t,_,22,v,Q,R,rfl,.v _,h'⟩
 by_cases g1:e1=0
 case neg =>
  simp only[Z8,seval,g0,aEH,bf g1];exact⟨_,by apply fQ;rfl;all_goals simp only[aJ,bY,Z8,seval,hf]<;>rfl,t,_,e1,v,Q,R,rfl,.v _,h'⟩
 by_cases g2:e2=21
 ·obtain⟨v',Q',R',T⟩:=ho (.inr g2)
  simp only[Z8,seval,g0,aEH,bt g1,aIu,dR,bt g2];exact⟨_,by apply fQ;rfl;all_goals simp only[aJ,bY,Z8,seval,ft2]<;>rfl,t2,_,e2,v',Q',R',rfl,.v _,T⟩
 by_cases g3:e2=0
 case neg =>
  simp only[Z8,seval,g0,aEH,bt g1,aIu,dR,bf g2,bf g3];exact⟨_,by apply fQ;rfl;all_goals simp only[aJ,bY,Z8,seval,hf]<;>rfl,t,_,e2,v,Q,R,rfl,.v _,h'⟩
 obtain⟨v',Q',R',T⟩:=ho (.inl g3)
 obtain⟨y3,hy3,b,c,y,rfl,fy⟩:=aMd t2 ft2 T.gi
 have T':=T.emit b c
 have ft3:=T'.td.flat
 have aIv:=kx hy3 (cP ft2) (.eH _ (bB ft3 fy))
 simp only[Z8,seval,g0,aEH,bt g1,aIu,dR,bf g2,bt g3,aIv];exact⟨_,fQ rfl (by simp only[bY,Z8,seval]<;>rfl) (by simp only[bY,Z8,seval]<;>rfl) (by simp only[bY,E8,seval]<;>rfl) (eC ft3) (eC fy) (eC (.v _)),_,y,0,v',Q',R',rfl,fy,T'⟩
end Go.Ab.Tryz
