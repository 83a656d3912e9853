/-
  Part 13 of the proof: an evaluator of programs, its soundness, and what functions of this program compute.
-/
import Derived.Test.YtmcjkemalibacaaGreatK12
import Derived.Test.YtmcjkemalibacaaGreatK11
set_option linter.all false
set_option maxRecDepth 20000
set_option maxHeartbeats 40000000
namespace Go.Ab.Tryz
open Classical Go.Proofs Go.Ab
theorem Tp {st:St} {a g:Nat} {L:List Int} (hh:st.heap a g=some (.row 3 1 L.length (aI L))):eW st (.own a g)=some (ov aI (some L)):=by
 rw[wA,hh];exact jW L.length L
theorem aNA (o:Option (List Int)) (hn:((ol o).length:Int)<999999) (x:Int) :
 ((∀(st:St) (d:Nat),eY (aC Tryz.prog) 235 [ov aI o,.v (.int .i64 x)] st (some d)=some { dst:=some d,val:=ov aI o }) /\
  ∀(st:St) (d a g:Nat) (L:List Int),o=some L->st.heap a g=some (.row 3 1 L.length (aI L))->eY (aC Tryz.prog) 235 [.own a g,.v (.int .i64 x)] st (some d)=some { dst:=some d,val:=ov aI (some L),dG:=some (a,g,none)}) \/
 ∃M:List Int,M.length=(ol o).length+1/\(∀(st:St) (d:Nat),eY (aC Tryz.prog) 235 [ov aI o,.v (.int .i64 x)] st (some d)=some { dst:=some d,val:=.own d (st.aK d),new:=some (d,[.row 3 1 M.length (aI M)])}) /\
  ∀(st:St) (d a g:Nat) (L:List Int),o=some L->st.heap a g=some (.row 3 1 L.length (aI L))->eY (aC Tryz.prog) 235 [.own a g,.v (.int .i64 x)] st (some d)=some { dst:=some d,val:=.own d (st.aK d),dG:=some (a,g,none),new:=some (d,[.row 3 1 M.length (aI M)])}:=by
 have one:∀(st:St) (d a g:Nat) (L:List Int),o=some L->st.heap a g=some (.row 3 1 L.length (aI L))->eY (aC Tryz.prog) 235 [.own a g,.v (.int .i64 x)] st (some d)=Nx (aC Tryz.prog) 235 (some [ov aI o,.v (.int .i64 x)]) a g st (some d):=by
  rintro st d a g L rfl hh
  rw[Yn (s:=a) (k:=g) rfl (by intro y hy;simp only[List.mem_cons,List.not_mem_nil,or_false] at hy;rcases hy with rfl|rfl;exact .inr (.inl ⟨a,g,rfl⟩);exact .inl (.v _)),
   List.map_cons,List.map_cons,List.map_nil,Tp hh,Iy,bJ,bJ,gB]
  rfl
 obtain⟨r,hr,h⟩:=aSN o hn x
 rcases h with rfl|⟨M,rfl,hM⟩
 ·refine .inl ⟨fun st d=>Jd (bH (bR o) (.v _)) hr (bR o),fun st d a g L ho hh=>?_⟩
  rw[one st d a g L ho hh];subst ho;exact D4 hr (bR _)
 ·refine .inr ⟨M,hM,fun st d=>aAj (bH (bR o) (.v _)) hr,fun st d a g L ho hh=>?_⟩
  rw[one st d a g L ho hh];exact aEc hr (M5 M)
theorem aNB (x:fY) (V W:Option (List Int)) (hV:x.first.eU=ov aI V) (hW:x.second.eU=ov aI W) (nV:((ol V).length:Int)<99999) (nW:((ol W).length:Int)<99999) :
 ∃r,aC Tryz.prog 221 [.agg (bZ x)]=some r/\∃o:Option (List Int),((ol o).length:Int)<=(ol V).length/\(r=ov aI o\/∃L,o=some L/\r=.uniq 3 1 L.length (aI L)):=by
 have f1:Flat x.first.eU:=by rw[hV];exact bR V
 have f2:Flat x.second.eU:=by rw[hW];exact bR W
 rw[cL Tryz.func221 rfl aNC rfl];simp only[Z8,seval];refine cB (fun m st=>∃k:Nat,(st.env 1=.ptr 1 0 0/\st.heap 1 0=some (.cells (bZ x))/\st.env 4=.v (.int .i64 k))/\(∃o:Option (List Int),(ol o).length<=k/\(st.env 3=ov aI o\/∃g L,o=some L/\st.env 3=.own 30 g/\g<st.aK 30/\st.heap 30 g=some (.row 3 1 L.length (aI L))))/\k<=(ol V).length/\m=(ol V).length-k)
  (fun e st=>e=.exit 0/\∃o:Option (List Int),(ol o).length<=(ol V).length/\(st.env 3=ov aI o\/∃g L,o=some L/\st.env 3=.own 30 g/\st.heap 30 g=some (.row 3 1 L.length (aI L)))) (ol V).length ?step ?start ?rest
 case step =>
  rintro m st ⟨k,hI,⟨o,ho,h3⟩,hk,hm⟩
  by_cases aZ:(k:Int)<(ol V).length
  ·have q0:(0:Int)<=k:=by omega
   have hw:IntKind.i64.wrap ((k:Int)+1)=((k+1:Nat):Int):=by rw[pM _ (by omega) (by omega)];omega
   have aAk:=aIf W (by omega) (gx (0:Int) (ol V) (k:Int))
   by_cases h1:gx (0:Int) (ol V) (k:Int)∈ol W
   ·have HH:=eq_true h1
    rcases aNA o (by omega) (gx (0:Int) (ol V) (k:Int)) with ⟨ea,eb⟩|⟨M,hM,ea,eb⟩
    ·rcases h3 with h3|⟨g,L,hL,h3,hg,hh⟩
     ·apply oN ((ol V).length-(k+1))
      ·simp only[Z8,seval,hI,h3,aZ,q0,hV,hW,aAk,HH,ea,hw];rfl
      ·exact⟨k+1,by simp only[E8,seval,hI],⟨o,by omega,.inl (by simp only[E8,seval])⟩,by omega,rfl⟩
     ·have eb':=fun st d a g=>eb st d a g L hL
      have ho':(ol (some L)).length<=k:=by rw[<- hL];exact ho
      apply oN ((ol V).length-(k+1))
      ·simp only[Z8,seval,hI,h3,hh,aZ,q0,hV,hW,aAk,HH,eb',hw];rfl
      ·exact⟨k+1,by simp only[E8,seval,hI],⟨some L,by omega,.inl (by simp only[E8,seval])⟩,by omega,rfl⟩
    ·rcases h3 with h3|⟨g,L,hL,h3,hg,hh⟩
     ·apply oN ((ol V).length-(k+1))
      ·simp only[Z8,seval,hI,h3,aZ,q0,hV,hW,aAk,HH,ea,hw];rfl
      ·exact⟨k+1,by simp only[E8,seval,hI],⟨some M,by show M.length<=_;omega,.inr ⟨_,M,rfl,by simp only[E8,seval]<;>rfl,by simp only[E8,seval]<;>omega,by simp only[E8,seval]<;>rfl⟩⟩,by omega,rfl⟩
     ·have eb':=fun st d a g=>eb st d a g L hL
      have wB:(g=st.aK 30)=False:=eq_false (by omega)
      apply oN ((ol V).length-(k+1))
      ·simp only[Z8,seval,hI,h3,hh,wB,aZ,q0,hV,hW,aAk,HH,eb',hw];rfl
      ·exact⟨k+1,by simp only[E8,seval,hI],⟨some M,by show M.length<=_;omega,.inr ⟨_,M,rfl,by simp only[E8,seval]<;>rfl,by simp only[E8,seval]<;>omega,by simp only[E8,seval]<;>rfl⟩⟩,by omega,rfl⟩
   ·have HH:=eq_false h1
    have h3':st.env 3=ov aI o\/∃g L,o=some L/\st.env 3=.own 30 g/\g<st.aK 30/\st.heap 30 g=some (.row 3 1 L.length (aI L)):=h3
    apply oN ((ol V).length-(k+1))
    ·simp only[Z8,seval,hI,aZ,q0,hV,hW,aAk,HH,hw];rfl
    ·exact⟨k+1,by simp only[E8,seval,hI],⟨o,by omega,by simpa only[E8,seval] using h3'⟩,by omega,rfl⟩
  ·have h3':st.env 3=ov aI o\/∃g L,o=some L/\st.env 3=.own 30 g/\st.heap 30 g=some (.row 3 1 L.length (aI L)):=h3.imp id fun ⟨g,L,a,b,_,c⟩=>⟨g,L,a,b,c⟩
   apply oT (.exit 0)
   ·simp only[Z8,seval,hI,aZ,hV];rfl
   ·exact⟨rfl,o,by omega,by simpa only[E8,seval] using h3'⟩
 case start=>exact⟨0,by simp only[E8,seval]<;>rfl,⟨none,by simp[ol],.inl (by simp only[E8,seval]<;>rfl)⟩,by omega,by omega⟩
 case rest =>
  rintro e st ⟨rfl,o,ho,h3⟩
  rcases h3 with h3|⟨g,L,hL,h3,hh⟩
  ·simp only[Z8,seval,h3];exact⟨_,bT rfl (by simp only[E8,seval,h3]<;>rfl) (bR o),o,by omega,.inl rfl⟩
  ·simp only[Z8,seval,h3];exact⟨_,tH rfl (by simp only[E8,seval,h3]<;>rfl) (by simp only[E8,seval,hh]<;>rfl) (fS _),o,by omega,.inr ⟨L,hL,rfl⟩⟩
theorem aND {o:Option (List Int)} {L:List Int} (h:(ol o).length<=L.length):IntKind.i64.wrap ((L.length:Int)-((ol o).length:Int))≠0->L≠[]:=by
 rintro hn rfl
 have h0:(ol o).length=0:=by simpa using h
 rw[h0] at hn;exact hn (by decide)
theorem aSZ (o V:Option (List Int)) (no:((ol o).length:Int)<900000) (nV:((ol V).length:Int)<99999) :
 ∃r,aC Tryz.prog 220 [ov aI o,ov aI V]=some r/\∃(L:List Int) (n:Int),r=.dX [ov aI (some L),.v (.int .i64 n)]/\L.length<=(ol o).length+(ol V).length/\(n≠0->L≠[]):=by
 rw[cL Tryz.func220 rfl aNE (by cases o<;>cases V<;>rfl)]
 have no':((ol o).length:Int)<1000000:=by omega
 simp only[Z8,seval,Qp _ no'];refine cB (fun m st=>∃k:Nat,(st.env 0=ov aI o/\st.env 1=ov aI V/\st.env 7=.v (.int .i64 k))/\(∃L:List Int,((ol o).length<=L.length/\L.length<=(ol o).length+k)/\(st.env 6=ov aI (some L)\/(∃g,st.env 6=.own 21 g/\g<st.aK 21/\st.heap 21 g=some (.row 3 1 L.length (aI L)))\/(st.env 6=.own 9 0/\st.heap 9 0=some (.row 3 1 L.length (aI L)))))/\k<=(ol V).length/\m=(ol V).length-k)
  (fun e st=>e=.exit 0/\(st.env 0=ov aI o)/\∃L:List Int,((ol o).length<=L.length/\L.length<=(ol o).length+(ol V).length)/\(st.env 6=ov aI (some L)\/∃a g,st.env 6=.own a g/\st.heap a g=some (.row 3 1 L.length (aI L)))) (ol V).length ?step ?start ?rest
 case step =>
  rintro m st ⟨k,hI,⟨L,hL,h3⟩,hk,hm⟩
  by_cases aZ:(k:Int)<(ol V).length
  ·have q0:(0:Int)<=k:=by omega
   have hw:IntKind.i64.wrap ((k:Int)+1)=((k+1:Nat):Int):=by rw[pM _ (by omega) (by omega)];omega
   rcases aNA (some L) (by show (L.length:Int)<_;omega) (gx (0:Int) (ol V) (k:Int)) with ⟨ea,eb⟩|⟨M,hM,ea,eb⟩
   ·rcases h3 with h3|⟨g,h3,hg,hh⟩|⟨h3,hh⟩
    ·apply oN ((ol V).length-(k+1))
     ·simp only[Z8,seval,hI,h3,aZ,q0,ea,hw];rfl
     ·exact⟨k+1,by simp only[E8,seval,hI],⟨L,by omega,.inl (by simp only[E8,seval])⟩,by omega,rfl⟩
    ·have eb':=fun st d a g=>eb st d a g L rfl
     apply oN ((ol V).length-(k+1))
     ·simp only[Z8,seval,hI,h3,hh,aZ,q0,eb',hw];rfl
     ·exact⟨k+1,by simp only[E8,seval,hI],⟨L,by omega,.inl (by simp only[E8,seval])⟩,by omega,rfl⟩
    ·have eb':=fun st d a g=>eb st d a g L rfl
     apply oN ((ol V).length-(k+1))
     ·simp only[Z8,seval,hI,h3,hh,aZ,q0,eb',hw];rfl
     ·exact⟨k+1,by simp only[E8,seval,hI],⟨L,by omega,.inl (by simp only[E8,seval])⟩,by omega,rfl⟩
   ·have hM':M.length=L.length+1:=hM
    rcases h3 with h3|⟨g,h3,hg,hh⟩|⟨h3,hh⟩
    ·apply oN ((ol V).length-(k+1))
     ·simp only[Z8,seval,hI,h3,aZ,q0,ea,hw];rfl
     ·exact⟨k+1,by simp only[E8,seval,hI],⟨M,by omega,.inr (.inl ⟨_,by simp only[E8,seval]<;>rfl,by simp only[E8,seval]<;>omega,by simp only[E8,seval]<;>rfl⟩)⟩,by omega,rfl⟩
    ·have eb':=fun st d a g=>eb st d a g L rfl
     have wB:(g=st.aK 21)=False:=eq_false (by omega)
     apply oN ((ol V).length-(k+1))
     ·simp only[Z8,seval,hI,h3,hh,wB,aZ,q0,eb',hw];rfl
     ·exact⟨k+1,by simp only[E8,seval,hI],⟨M,by omega,.inr (.inl ⟨_,by simp only[E8,seval]<;>rfl,by simp only[E8,seval]<;>omega,by simp only[E8,seval]<;>rfl⟩)⟩,by omega,rfl⟩
    ·have eb':=fun st d a g=>eb st d a g L rfl
     apply oN ((ol V).length-(k+1))
     ·simp only[Z8,seval,hI,h3,hh,aZ,q0,eb',hw];rfl
     ·exact⟨k+1,by simp only[E8,seval,hI],⟨M,by omega,.inr (.inl ⟨_,by simp only[E8,seval]<;>rfl,by simp only[E8,seval]<;>omega,by simp only[E8,seval]<;>rfl⟩)⟩,by omega,rfl⟩
  ·have h3':st.env 6=ov aI (some L)\/∃a g,st.env 6=.own a g/\st.heap a g=some (.row 3 1 L.length (aI L)):=by
    rcases h3 with h3|⟨g,h3,hg,hh⟩|⟨h3,hh⟩
    ·exact .inl h3
    ·exact .inr ⟨21,g,h3,hh⟩
    ·exact .inr ⟨9,0,h3,hh⟩
   apply oT (.exit 0)
   ·simp only[Z8,seval,hI,aZ];rfl
   ·exact⟨rfl,by simp only[E8,seval,hI],L,by omega,by simpa only[E8,seval] using h3'⟩
 case start=>exact⟨0,by simp only[E8,seval]<;>rfl,⟨ol o,by omega,.inr (.inr ⟨by simp only[E8,seval],by simp only[E8,seval]⟩)⟩,by omega,by omega⟩
 case rest =>
  rintro e st ⟨rfl,h0,L,hL,h3⟩
  rcases h3 with h3|⟨a,g,h3,hh⟩
  ·simp only[Z8,seval,h3,h0];exact⟨_,dJ rfl rfl rfl (by simp only[E8,seval,h3,Gi]<;>rfl) (by simp only[E8,seval,h3,Gi]<;>rfl),L,_,rfl,hL.2,aND hL.1⟩
  ·simp only[Z8,seval,h3,hh,h0];exact⟨_,dJ rfl rfl rfl (by simp only[E8,seval,h3,hh,jW]<;>rfl) (by simp only[E8,seval,h3,hh,jW]<;>rfl),L,_,rfl,hL.2,aND hL.1⟩
theorem aS0 (x:fY) (V W:Option (List Int)) (hV:x.first.eU=ov aI V) (hW:x.second.eU=ov aI W) (nV:((ol V).length:Int)<99999) (nW:((ol W).length:Int)<99999) (n:Int) :
 ∃r,aC Tryz.prog 219 [.agg (bZ x),.v (.int .i64 n)]=some r/\∃e:Int,r=.v (.int .i64 e)/\e≠21:=by
 have f1:Flat x.first.eU:=by rw[hV];exact bR V
 have f2:Flat x.second.eU:=by rw[hW];exact bR W
 have fx:Flat (.agg (bZ x)):=(nF x).2 ⟨f1,f2⟩
 have kV:=kx (c40 V (by omega) n) (bH (bR V) (.v _)) (.v _)
 have kW:=kx (c40 W (by omega) n) (bH (bR W) (.v _)) (.v _)
 obtain⟨ev,EL⟩:∃e,EK (ol V) n=e:=⟨_,rfl⟩
 obtain⟨ew,hew⟩:∃e,EK (ol W) n=e:=⟨_,rfl⟩
 rw[EL] at kV;rw[hew] at kW;obtain⟨r1,W8,c,rfl⟩:=aSJ x.first x.second f1 f2
 have aAm:=kx W8 (bH ((Ai _).2 f1) ((Ai _).2 f2)) (.v _)
 obtain⟨r2,hr2,o,ho,hro⟩:=aNB x V W hV hW nV nW
 rw[cL Tryz.func219 rfl aNF rfl];by_cases g1:ev=0
 case neg =>
  simp only[Z8,seval,hV,hW,kV,bf g1];exact⟨_,bT rfl (by simp only[E8,seval]<;>rfl) (by first|exact .v _|simp only[dN]),_,rfl,by rw[<- EL];exact XN _ _⟩
 by_cases g2:ew=0
 case neg =>
  simp only[Z8,seval,hV,hW,kV,kW,bt g1,bf g2];exact⟨_,bT rfl (by simp only[E8,seval]<;>rfl) (by first|exact .v _|simp only[dN]),_,rfl,by rw[<- hew];exact XN _ _⟩
 by_cases g3:x.first.target<x.first.source
 ·simp only[Z8,seval,hV,hW,kV,kW,bt g1,bt g2,g3];exact⟨_,bT rfl (by simp only[E8,seval]<;>rfl) (by first|exact .v _|simp only[dN]),_,rfl,by decide⟩
 by_cases g4:x.second.target<x.second.source
 ·simp only[Z8,seval,hV,hW,kV,kW,bt g1,bt g2,g3,g4];exact⟨_,bT rfl (by simp only[E8,seval]<;>rfl) (by first|exact .v _|simp only[dN]),_,rfl,by decide⟩
 cases c
 ·simp only[Z8,seval,hV,hW,kV,kW,bt g1,bt g2,g3,g4,aAm];exact⟨_,bT rfl (by simp only[E8,seval]<;>rfl) (by first|exact .v _|simp only[dN]),_,rfl,by decide⟩
 rcases hro with rfl|⟨L,hL,rfl⟩
 ·have AO:=kx hr2 (cT fx) (bR o)
  by_cases g5:((ol o).length:Int)=0
  ·simp only[Z8,seval,hV,hW,kV,kW,bt g1,bt g2,g3,g4,aAm,AO,bt g5];exact⟨_,bT rfl (by simp only[E8,seval]<;>rfl) (by first|exact .v _|simp only[dN]),_,rfl,by decide⟩
  ·simp only[Z8,seval,hV,hW,kV,kW,bt g1,bt g2,g3,g4,aAm,AO,bf g5];exact⟨_,bT rfl (by simp only[E8,seval]<;>rfl) (by first|exact .v _|simp only[dN]),_,rfl,by decide⟩
 ·have AO:∀(st:St) (d:Nat),aN (aC Tryz.prog) 221 [.agg (bZ x)] st (some d)=_:=fun st d=>jD (st:=st) (d:=d) (cT fx) hr2
  by_cases g5:(L.length:Int)=0
  ·simp only[Z8,seval,hV,hW,kV,kW,bt g1,bt g2,g3,g4,aAm,AO,bt g5];exact⟨_,bT rfl (by simp only[E8,seval]<;>rfl) (by first|exact .v _|simp only[dN]),_,rfl,by decide⟩
  ·simp only[Z8,seval,hV,hW,kV,kW,bt g1,bt g2,g3,g4,aAm,AO,bf g5];exact⟨_,bT rfl (by simp only[E8,seval]<;>rfl) (by first|exact .v _|simp only[dN]),_,rfl,by decide⟩
theorem aS2 {s:aO} {v:SV} {q:Int} (h:GI s v q) (r:RG s v) (x:fY) (V W:Option (List Int)) (hV:x.first.eU=ov aI V) (hW:x.second.eU=ov aI W) (nV:((ol V).length:Int)<=1000) (nW:((ol W).length:Int)<=1000) (hq:q+1000<=900000) :
 ∃r,aC Tryz.prog 205 [.agg (aB s),.agg (bZ x)]=some r/\StN s v (q+1000) r:=by
 have hf:=h.sd.flat
 have lK:=h.sd.fl
 have hz:=Kq
 have f1:Flat x.first.eU:=by rw[hV];exact bR V
 have f2:Flat x.second.eU:=by rw[hW];exact bR W
 have fx:Flat (.agg (bZ x)):=(nF x).2 ⟨f1,f2⟩
 obtain⟨r1,W8,e1,rfl,he1⟩:=aS0 x V W hV hW (by omega) (by omega) (ol v.B).length
 have aAn:=kx W8 (bH fx (.v _)) (.v _)
 obtain⟨r2,hr2,o,ho,hro⟩:=aNB x V W hV hW (by omega) (by omega)
 have nq:=h.nQ
 obtain⟨r3,hr3,L,n,rfl,hL,FC⟩:=aSZ v.Q o (by omega) (by omega)
 have fr:Flat (.dX [ov aI (some L),.v (.int .i64 n)]):=.dX _ (bH (bR _) (.v _))
 have k220:∀(st:St) (d:Option Nat),eY (aC Tryz.prog) 220 [ov aI v.Q,ov aI o] st d=_:=fun st d=>Jd (st:=st) (d:=d) (bH (bR _) (bR _)) hr3 fr
 rw[cL Tryz.func205 rfl aNG rfl];by_cases g1:e1=0
 case neg =>
  simp only[Z8,seval,AE h.sd,aAn,bf g1];exact⟨_,by apply dJ;rfl;all_goals simp only[aJ,bX,Z8,seval,hz]<;>rfl,gK,e1,rfl,hz,he1,fun h=>absurd h g1⟩
 have hQ:((ol (some L)).length:Int)<=q+1000:=by show (L.length:Int)<=_;omega
 have h':GI { s with gE:={ s.gE with gW:=ov aI (some L)} } { v with Q:=some L } (q+1000) :=
  ⟨⟨h.sd.jQ,h.sd.dO,rfl,h.sd.early,h.sd.bV,h.sd.tree,h.sd.tables,h.sd.eV,h.sd.tB,h.sd.nB,h.sd.nL,by show ((ol (some L)).length:Int)<1000000;omega,h.sd.nE,h.sd.nO,h.sd.nT,h.sd.nn⟩,h.up,h.PI,h.pos,h.nl,h.XS,h.rD,h.QF,h.nB,h.nO,h.QG,h.nE,h.WG,h.nT,h.XT,hQ,hq,h.gX⟩
 have M6:=h'.sd.flat
 rcases hro with rfl|⟨M,hM,rfl⟩
 ·have AO:=kx hr2 (cT fx) (bR o)
  by_cases g2:n=0
  ·simp only[Z8,seval,AE h.sd,aAn,bt g1,h.sd.gW,AO,k220,eC,bt g2];exact⟨_,by apply dJ;rfl;all_goals simp only[aJ,bX,Z8,seval,hz]<;>rfl,gK,9,rfl,hz,by decide,fun h=>by cases h⟩
  ·simp only[Z8,seval,AE h.sd,aAn,bt g1,h.sd.gW,AO,k220,eC,bf g2];exact⟨_,by apply dJ;rfl;all_goals simp only[aJ,bX,Z8,seval,M6]<;>rfl,_,0,rfl,M6,by decide,fun _=>⟨_,h',⟨r.now,r.j,r.f,r.nd,r.or,r.rt,r.fe,r.ds,r.tb,⟨fun e=>FC g2 (by injection e),r.ne.e,r.ne.o,r.ne.t,r.ne.ea,r.ne.tb⟩⟩,rfl,rfl⟩⟩
 ·have AO:∀(st:St) (d:Nat),aN (aC Tryz.prog) 221 [.agg (bZ x)] st (some d)=_:=fun st d=>jD (st:=st) (d:=d) (cT fx) hr2
  have k220':∀(st:St) (a g:Nat) (d:Option Nat),st.heap a g=some (.row 3 1 M.length (aI M))->eY (aC Tryz.prog) 220 [ov aI v.Q,.own a g] st d=some { dst:=d,val:=.dX [ov aI (some L),.v (.int .i64 n)],dG:=some (a,g,none)}:=by
   intro st a g d hh;rw[Yn (s:=a) (k:=g) (by rw[List.flatMap_cons,zJ (bR v.Q)];rfl) (by intro y hy;simp only[List.mem_cons,List.not_mem_nil,or_false] at hy;rcases hy with rfl|rfl;exact .inl (bR _);exact .inr (.inl ⟨a,g,rfl⟩)),
    List.map_cons,List.map_cons,List.map_nil,Gi,Tp hh,bJ,bJ,gB,<- hM]
   exact D4 hr3 fr
  by_cases g2:n=0
  ·simp only[Z8,seval,AE h.sd,aAn,bt g1,h.sd.gW,AO,k220',eC,bt g2];exact⟨_,by apply dJ;rfl;all_goals simp only[aJ,bX,Z8,seval,hz]<;>rfl,gK,9,rfl,hz,by decide,fun h=>by cases h⟩
  ·simp only[Z8,seval,AE h.sd,aAn,bt g1,h.sd.gW,AO,k220',eC,bf g2];exact⟨_,by apply dJ;rfl;all_goals simp only[aJ,bX,Z8,seval,M6]<;>rfl,_,0,rfl,M6,by decide,fun _=>⟨_,h',⟨r.now,r.j,r.f,r.nd,r.or,r.rt,r.fe,r.ds,r.tb,⟨fun e=>FC g2 (by injection e),r.ne.e,r.ne.o,r.ne.t,r.ne.ea,r.ne.tb⟩⟩,rfl,rfl⟩⟩
theorem YA {l:List Int} {n:Int} (h:EK l n=0):∀x∈l,0<=x/\x<n:=by
 intro x hx;unfold EK at h;have gI:l≠[]:=fun e=>by subst e;cases hx
 rw[if_neg gI] at h;by_cases g:Du (Xc l n) l.length<0
 ·rcases Gc (Xc l n) l.length with ⟨_,hj⟩|⟨k,h1,_,_,h3⟩
  ·obtain⟨j,hj1,rfl⟩:=List.getElem_of_mem hx
   have hb:=hj j hj1
   have e:gx (0:Int) l j=l[j]:=by simp[gx,hj1]
   unfold Xc at hb;rw[e] at hb;omega
  ·omega
 ·rw[if_neg g] at h;split at h<;>omega
theorem KK {s:aO} {v:SV} {a:sP} {V:List Int} (h:(Ia s v a V).2=0):EK V (ol v.B).length=0:=by
 unfold Ia at h;by_cases g:EK V (ol v.B).length≠0
 ·rw[if_pos g] at h;exact h
 ·exact Classical.not_not.1 g
theorem GI.cast {s:aO} {v:SV} {q:Int} (h:GI s v q) (a:sP) (V:List Int):GI (Tl s v a V) { v with L:=some (uO (ol v.L) a.target.aL a.root V).1 } q:=by
 have hl:(uO (ol v.L) a.target.aL a.root V).1.length=(ol v.L).length:=Tk _ _ _ _
 exact⟨⟨h.sd.jQ,rfl,h.sd.gW,h.sd.early,h.sd.bV,h.sd.tree,h.sd.tables,h.sd.eV,h.sd.tB,h.sd.nB,by show ((uO (ol v.L) a.target.aL a.root V).1.length:Int)<1000000;rw[hl];exact h.sd.nL,h.sd.nQ,h.sd.nE,h.sd.nO,h.sd.nT,h.sd.nn⟩,h.up,h.PI,h.pos,h.nl,h.XS,h.rD,hl.trans h.QF,h.nB,h.nO,h.QG,h.nE,h.WG,h.nT,h.XT,h.nQ,h.Z6,h.gX⟩
def xK (s:aO) (x:AV):aO:={ s with dR:={ s.dR with early:=x }}
theorem YB {e sz n:Nat} {cs:List AV} (h:¬ ∀c∈cs,Flat c):jE (some (.row e sz n cs))=none:=by
 unfold jE;simp only[if_neg h]
theorem aIj {a:sP} {x g:Nat} (h:a.eU=.own x g) (l:List sP):¬ ∀c∈dE (l++[a]),Flat c:=by
 intro hf;have hm:AV.own x g∈dE (l++[a]):=by
  unfold dE;rw[List.flatMap_append,List.mem_append];refine .inr ?_
  rw[List.flatMap_cons,List.flatMap_nil,List.append_nil];unfold gZ;rw[h];simp
 have:=hf _ hm
 cases this
theorem lL {α:Type} {a b:List (Option α)} {x y:List α} (ha:bK a=some x) (hb:bK b=some y):bK (a++b)=some (x++y):=by
 induction a generalizing x with
 | nil=>simp only[gB,Option.some.injEq] at ha;subst ha;simpa using hb
 | cons c a ih =>
   cases c with
   | none=>simp[bK] at ha
   | some c =>
     rw[bJ] at ha;simp only[Option.map_eq_some_iff] at ha;obtain⟨z,hz,rfl⟩:=ha
     rw[List.cons_append,bJ,ih hz];rfl
theorem Dz {cs:List AV} {f:AV->Option AV} (h:∀c∈cs,f c=some c):bK (cs.map f)=some cs:=by
 induction cs with
 | nil=>rfl
 | cons c cs ih=>rw[List.map_cons,h c (List.mem_cons_self ..),bJ,ih fun x hx=>h x (List.mem_cons_of_mem _ hx)];rfl
theorem AP {st:St} {c:AV} (h:Flat c):cC st c=some c:=by unfold cC;rw[if_pos h]
theorem aAo {st:St} {c:AV} (h:Flat c):Dk st c=some c:=by
 unfold Dk;cases h<;>exact AP (by constructor;try assumption)
theorem M7 {s:aO} {v:SV} (h:SD s v) (st:St) {E:List sP} (hE:∀x∈E,Flat x.eU) {a:sP} {V:List Int} {x g x' g' n:Nat}
 (hh:st.heap x g=some (.row 87 67 n (dE (E++[{ a with eU:=.own x' g' }])))) (vG:st.heap x' g'=some (.row 3 1 V.length (aI V))) :
 Pq st (.agg (aB (xK s (.own x g))))=some (.agg (aB (xK s (.sl n (dE (E++[{ a with eU:=ov aI (some V)}])))))):=by
 obtain⟨h1,h2,h3,h4,h5,h6,h7⟩:=h.fl
 have fl:∀ {cs:List AV},(∀c∈cs,Flat c)->bK (cs.map (Dk st))=some cs:=fun hc=>Dz fun c m=>aAo (hc c m)
 have fl1:∀ {cs:List AV},(∀c∈cs,Flat c)->bK (cs.map (cC st))=some cs:=fun hc=>Dz fun c m=>AP (hc c m)
 have hv:cC st (.own x' g')=some (ov aI (some V)):=by rw[bG,vG];exact jW _ _
 have hatt:bK ((dE (E++[{ a with eU:=.own x' g' }])).map (cC st))=some (dE (E++[{ a with eU:=ov aI (some V)}])):=by
  unfold dE;rw[List.flatMap_append,List.flatMap_append,List.map_append];refine lL (fl1 (tL E hE)) ?_
  simp only[List.flatMap_cons,List.flatMap_nil,List.append_nil];unfold gZ;rw[List.map_append,List.map_append,List.map_append];refine lL (fl1 (dZ _)) (lL (fl1 (dH _)) (lL (fl1 (dB _)) ?_))
  rw[List.map_cons,List.map_nil,hv];rfl
 have hea:Dk st (.own x g)=some (.sl n (dE (E++[{ a with eU:=ov aI (some V)}]))):=by
  unfold Dk;simp only[hh,hatt];rfl
 unfold Pq;simp only
 have:bK ((aB (xK s (.own x g))).map (Dk st))=some (aB (xK s (.sl n (dE (E++[{ a with eU:=ov aI (some V)}]))))):=by
  unfold xK aB jL;simp only[List.map_append];refine lL (fl (uJ _ h1)) (lL (fl (qT _ h2 h3)) (lL (fl (lC _)) (lL (lL ?_ (fl (by simpa using h5))) (lL (fl (xH _ h6)) (lL (fl (dZ _)) (lL (fl (dH _)) (fl (by simpa using h7))))))))
  rw[List.map_cons,List.map_nil,hea];rfl
 rw[this];rfl
theorem aAp {s:aO} {v:SV} (h:SD s v) (st:St) {E:List sP} {a:sP} {x g x' g' n:Nat} (ha:a.eU=.own x' g')
 (hh:st.heap x g=some (.row 87 67 n (dE (E++[a])))):eW st (.agg (aB (xK s (.own x g))))=none:=by
 have lK:=h.fl
 have hn:=YB (e:=87) (sz:=67) (n:=n) (aIj ha E)
 unfold xK;simp only[bQ,gF,bG,hh,hn,cN,dN,lK,cI,Al]
theorem GI.early {s:aO} {v:SV} {q:Int} (h:GI s v q) (E:Option (List sP)) (hE:∀a∈ol E,Dt a) (hn:((ol E).length:Int)<=s.cFg.kF.qJ):GI (xK s (ov dE E)) { v with E:=E } q :=
 ⟨⟨h.sd.jQ,h.sd.dO,h.sd.gW,rfl,h.sd.bV,h.sd.tree,h.sd.tables,hE,h.sd.tB,h.sd.nB,h.sd.nL,h.sd.nQ,by have:=h.WG;show ((ol E).length:Int)<1000000;omega,h.sd.nO,h.sd.nT,h.sd.nn⟩,h.up,h.PI,h.pos,h.nl,h.XS,h.rD,h.QF,h.nB,h.nO,h.QG,hn,h.WG,h.nT,h.XT,h.nQ,h.Z6,h.gX⟩
theorem aIk (s:aO) (v:SV) (a:sP) (V:List Int):(Ia s v a V).2≠21:=by
 unfold Ia;split
 ·exact XN _ _
 repeat (split;simp)
 simp
theorem aS3 {s:aO} {v:SV} {q:Int} (h:GI s v q) (r:RG s v) (a:sP) (V:Option (List Int)) (hV:a.eU=ov aI V) (nV:((ol V).length:Int)<99999) :
 ∃r,aC Tryz.prog 204 [.agg (aB s),.agg (gZ a)]=some r/\StN s v q r:=by
 have hf:=h.sd.flat
 have lK:=h.sd.fl
 have hz:=Kq
 have fa:Flat (.agg (gZ a)):=(Ah a).2 (by rw[hV];exact bR V)
 have k39:=kx (c39 h.sd h.up h.sp a V hV (by omega)) (bH hf fa) (.dX _ (bH (.v _) (.v _)))
 rw[cL Tryz.func204 rfl aNH rfl];by_cases g1:(Ia s v a (ol V)).2=0
 case neg =>
  simp only[Z8,seval,k39,eC,bf g1];exact⟨_,by apply dJ;rfl;all_goals simp only[aJ,bX,Z8,seval,hz]<;>rfl,gK,_,rfl,hz,aIk _ _ _ _,fun h=>absurd h g1⟩
 cases g2:(Ia s v a (ol V)).1
 ·have hr:∀x∈ol V,0<=x/\x<(ol v.L).length:=by rw[h.QF];exact YA (KK g1)
  have h':=h.cast a (ol V)
  have M6:=h'.sd.flat
  have k44:=kx (c44 h.sd a V hV (by omega) hr) (bH hf fa) M6
  simp only[Z8,seval,k39,eC,bt g1,g2,k44];exact⟨_,by apply dJ;rfl;all_goals simp only[aJ,bX,Z8,seval,M6]<;>rfl,_,0,rfl,M6,by decide,fun _=>⟨_,h',⟨r.now,r.j,r.f,r.nd,r.or,r.rt,r.fe,r.ds,r.tb,⟨r.ne.q,r.ne.e,r.ne.o,r.ne.t,r.ne.ea,r.ne.tb⟩⟩,rfl,rfl⟩⟩
 ·by_cases g3:s.cFg.kF.qJ<=((ol v.E).length:Int)
  ·simp only[Z8,seval,k39,eC,bt g1,g2,h.sd.early,g3];exact⟨_,by apply dJ;rfl;all_goals simp only[aJ,bX,Z8,seval,hz]<;>rfl,gK,11,rfl,hz,by decide,fun h=>by cases h⟩
  ·have hE:∀b∈ol (some (ol v.E++[{ a with eU:=ov aI (some (ol V))}])),Dt b:=by
    intro b hb;rcases List.mem_append.1 (show b∈ol v.E++[{ a with eU:=ov aI (some (ol V))}] from hb) with hb|hb
    ·exact h.sd.eV b hb
    ·rw[List.mem_singleton] at hb;subst hb;exact⟨some (ol V),rfl,by show ((ol V).length:Int)<_;omega⟩
   have hVne:ol V≠[]:=fun e=>by have h0:=KK g1;rw[e] at h0;simp[EK] at h0
   have hEa:∀b∈ol (some (ol v.E++[{ a with eU:=ov aI (some (ol V))}])),∃W,b.eU=ov aI (some W)/\W≠[]:=by
    intro b hb;rcases List.mem_append.1 (show b∈ol v.E++[{ a with eU:=ov aI (some (ol V))}] from hb) with hb|hb
    ·exact r.ne.ea b hb
    ·rw[List.mem_singleton] at hb;subst hb;exact⟨ol V,rfl,hVne⟩
   have h':=h.early (some (ol v.E++[{ a with eU:=ov aI (some (ol V))}])) hE (by show (((ol v.E++[{ a with eU:=ov aI (some (ol V))}]).length:Nat):Int)<=_;rw[List.length_append,List.length_cons,List.length_nil];omega)
   have M6:=h'.sd.flat
   have nE:=h.sd.nE
   have hEf:∀x∈ol v.E,Flat x.eU:=fun x m=>(h.sd.eV x m).fl
   simp only[Z8,seval,k39,eC,bt g1,g2,h.sd.early,g3,hV,Qp _ (show ((ol V).length:Int)<1000000 by omega),D5 _ nE,Yo _ _ _ _ nE]
   have hlen:(ol v.E++[{ a with eU:=.own 35 0 }]).length=(ol v.E++[{ a with eU:=ov aI (some (ol V))}]).length:=by rw[List.length_append,List.length_append];rfl
   exact⟨_,aNI rfl (by simp only[bX,Z8,seval]<;>rfl) (by simp only[bX,E8,seval]<;>rfl)
    (aAp h.sd _ rfl (by simp only[E8,seval]<;>rfl)) (M7 (x':=35) (g':=0) h.sd _ hEf (by simp only[E8,seval,hlen]<;>rfl) (by simp only[E8,seval]<;>rfl)) (by simp only[Z8,seval]<;>rfl),_,0,rfl,M6,by decide,fun _=>⟨_,h',⟨r.now,r.j,r.f,r.nd,r.or,r.rt,r.fe,r.ds,r.tb,⟨r.ne.q,by simp,r.ne.o,r.ne.t,hEa,r.ne.tb⟩⟩,rfl,rfl⟩⟩
theorem aS5 (ns:List Node) (hu:iB ns) (hr:(nd ns 0).up=-1) (hn:(ns.length:Int)<1000000) (w:List Int) (hw:w.length=ns.length) (b:List Bool) (hb:b.length=ns.length) (i:Int) :
 ∃r,aC Tryz.prog 225 [.agg (cU ⟨ns⟩),.sl w.length (bD w),.sl b.length (mV b),.v (.int .i64 i)]=some r/\∃k:Int,r=.v (.int .i64 k)/\(k=-1\/(i<k/\0<=k/\k<ns.length)):=by
 rw[cL Tryz.func225 rfl aNJ rfl];by_cases hc:xG ns i=[]
 ·have kc:=fun st d=>aGz ns hu hr hn i hc st d
  simp only[Z8,seval,kc];refine cB (fun m st=>st.env 9=.v (.int .i64 (-1))/\st.env 10=.v (.slice none 0 0)/\st.env 11=.v (.int .i64 0)/\m=0) (fun e st=>e=.exit 0/\st.env 9=.v (.int .i64 (-1))) 0 ?step ?start ?rest
  case step =>
   rintro m st ⟨h9,h10,h11,_⟩
   apply oT (.exit 0)
   ·simp only[Z8,seval,h9,h10,h11,Int.lt_irrefl];rfl
   ·exact⟨rfl,by simp only[E8,seval,h9]⟩
  case start=>exact⟨by simp only[E8,seval]<;>rfl,by simp only[E8,seval]<;>rfl,by simp only[E8,seval]<;>rfl,rfl⟩
  case rest =>
   rintro e st ⟨rfl,h9⟩
   simp only[Z8,seval,h9];exact⟨_,bT rfl (by simp only[E8,seval,h9]<;>rfl) (by first|exact .v _|simp only[dN,h9]),-1,rfl,.inl rfl⟩
 have kc:=fun st d=>aMq ns hu hr hn i hc st d
 have hgt:∀x∈xG ns i,i<x/\0<=x/\x<ns.length:=fun x hx=>KJ hu hr hx
 have C5:((xG ns i).length:Int)<1000000:=by
  have h1:(xG ns i).length<=ns.length:=by
   unfold xG;split
   ·simp
   ·exact Yi ns i ns.length
  omega
 obtain⟨l,el⟩:∃l,xG ns i=l:=⟨_,rfl⟩
 rw[el] at kc hgt C5;simp only[Z8,seval,kc];refine cB (fun m st=>∃(k:Nat) (yA:Int),(st.env 4=.ptr 4 0 0/\st.heap 4 0=some (.cells (cU ⟨ns⟩))/\st.env 1=.sl w.length (bD w)/\st.env 2=.sl b.length (mV b)/\st.env 10=.own 15 0/\st.heap 15 0=some (.row 3 1 l.length (aI l))/\st.env 9=.v (.int .i64 yA)/\st.env 11=.v (.int .i64 k))/\(yA=-1\/(i<yA/\0<=yA/\yA<ns.length))/\k<=l.length/\m=l.length-k)
  (fun e st=>e=.exit 0/\∃yA:Int,st.env 9=.v (.int .i64 yA)/\(yA=-1\/(i<yA/\0<=yA/\yA<ns.length))) l.length ?step ?start ?rest
 case step =>
  rintro m st ⟨k,yA,hI,IG,hk,hm⟩
  by_cases aZ:(k:Int)<l.length
  case neg =>
   apply oT (.exit 0)
   ·simp only[Z8,seval,hI,aZ];rfl
   ·exact⟨rfl,yA,by simp only[E8,seval,hI],IG⟩
  have q0:(0:Int)<=k:=by omega
  have hwr:IntKind.i64.wrap ((k:Int)+1)=((k+1:Nat):Int):=by rw[pM _ (by omega) (by omega)];omega
  have gi:=nU q0 aZ
  obtain⟨c,ec⟩:∃c,it l (k:Int)=c:=⟨_,rfl⟩
  have hc:=hgt c (by rw[<- ec];obtain⟨h1,h2⟩:=xW q0 aZ;rw[h2];exact List.getElem_mem h1)
  obtain⟨c0,c1,c2⟩:=hc
  have c3:c<(w.length:Int):=by rw[hw];exact c2
  have c4:c<(b.length:Int):=by rw[hb];exact c2
  cases g1:gx false b c
  ·apply oN (l.length-(k+1))
   ·simp only[Z8,seval,hI,aZ,q0,gi,ec,c1,c3,c4,g1,hwr,qG,qI];rfl
   ·exact⟨k+1,yA,by simp only[E8,seval,hI],IG,by omega,rfl⟩
  by_cases g2:yA<0
  ·apply oN (l.length-(k+1))
   ·simp only[Z8,seval,hI,aZ,q0,gi,ec,c1,c3,c4,g1,g2,hwr,qG,qI];rfl
   ·exact⟨k+1,c,by simp only[E8,seval,hI],.inr ⟨c0,c1,c2⟩,by omega,rfl⟩
  have b1:0<=yA:=by omega
  have b2:yA<ns.length:=by omega
  have b3:yA<(w.length:Int):=by rw[hw];exact b2
  by_cases g3:gx (0:Int) w yA<gx (0:Int) w c
  ·apply oN (l.length-(k+1))
   ·simp only[Z8,seval,hI,aZ,q0,gi,ec,c1,c3,c4,g1,g2,b1,b3,g3,hwr,qG,qI];rfl
   ·exact⟨k+1,c,by simp only[E8,seval,hI],.inr ⟨c0,c1,c2⟩,by omega,rfl⟩
  by_cases g4:gx (0:Int) w c=gx (0:Int) w yA
  case neg =>
   apply oN (l.length-(k+1))
   ·simp only[Z8,seval,hI,aZ,q0,gi,ec,c1,c3,c4,g1,g2,b1,b3,g3,bf g4,hwr,qG,qI];rfl
   ·exact⟨k+1,yA,by simp only[E8,seval,hI],IG,by omega,rfl⟩
  by_cases g5:0<aMQ (nd ns c).block.root (nd ns yA).block.root
  ·apply oN (l.length-(k+1))
   ·simp only[Z8,seval,hI,aZ,q0,gi,ec,c1,c2,c3,c4,g1,g2,b1,b2,b3,g3,bt g4,aH4,g5,hwr,qG,qI];rfl
   ·exact⟨k+1,c,by simp only[E8,seval,hI],.inr ⟨c0,c1,c2⟩,by omega,rfl⟩
  ·apply oN (l.length-(k+1))
   ·simp only[Z8,seval,hI,aZ,q0,gi,ec,c1,c2,c3,c4,g1,g2,b1,b2,b3,g3,bt g4,aH4,g5,hwr,qG,qI];rfl
   ·exact⟨k+1,yA,by simp only[E8,seval,hI],IG,by omega,rfl⟩
 case start=>exact⟨0,-1,by simp only[E8,seval]<;>rfl,.inl rfl,by omega,by omega⟩
 case rest =>
  rintro e st ⟨rfl,yA,h9,IG⟩
  simp only[Z8,seval,h9];exact⟨_,bT rfl (by simp only[E8,seval,h9]<;>rfl) (by first|exact .v _|simp only[dN,h9]),yA,rfl,IG⟩
theorem aS6 {s:aO} {v:SV} {q:Int} (h:GI s v q):∃r,aC Tryz.prog 208 [.agg (aB s)]=some r/\∃k:Int,r=.v (.int .i64 k)/\0<=k/\k<v.ns.length:=by
 have hf:=h.sd.flat
 have hn:=h.sd.nn
 obtain⟨r1,e1,w,rfl,hw⟩:=aSU h
 obtain⟨r2,e2,b,rfl,hb⟩:=aSY h
 have k223:∀(st:St) (d:Nat),aN (aC Tryz.prog) 223 [.agg (aB s)] st (some d)=_:=fun st d=>jD (st:=st) (d:=d) (cT hf) e1
 have k224:∀(st:St) (d:Nat),aN (aC Tryz.prog) 224 [.agg (aB s)] st (some d)=_:=fun st d=>jD (st:=st) (d:=d) (cT hf) e2
 have hB:∀i:Int,∃k:Int,aC Tryz.prog 225 [.agg (cU ⟨v.ns⟩),.sl w.length (bD w),.sl b.length (mV b),.v (.int .i64 i)]=some (.v (.int .i64 k))/\(k=-1\/(i<k/\0<=k/\k<v.ns.length)):=fun i=>by
  obtain⟨r,hr,k,rfl,hk⟩:=aS5 v.ns h.up h.PI hn w hw b hb i
  exact⟨k,hr,hk⟩
 have kB:∀(i:Int) (k:Int),aC Tryz.prog 225 [.agg (cU ⟨v.ns⟩),.sl w.length (bD w),.sl b.length (mV b),.v (.int .i64 i)]=some (.v (.int .i64 k))->∀(st:St) (g1 g2:Nat) (d:Option Nat),st.heap 8 g1=some (.row 23 1 w.length (bD w))->st.heap 10 g2=some (.row 4 1 b.length (mV b)) ->
  aN (aC Tryz.prog) 225 [.agg (cU ⟨v.ns⟩),.own 8 g1,.own 10 g2,.v (.int .i64 i)] st d=some { dst:=d,val:=.v (.int .i64 k)}:=by
  intro i k hk st g1 g2 d hh1 vG;rw[kJ,List.map_cons,List.map_cons,List.map_cons,List.map_cons,List.map_nil,Kr,wA,hh1,vZ,wA,vG,D6,Iy,bJ,bJ,bJ,bJ,gB];exact Zs hk
 rw[cL Tryz.func208 rfl aNM rfl];simp only[Z8,seval,k223,k224,h.sd.tree,mS _ _ hn];refine cB (fun m st=>∃i:Int,(st.env 1=.ptr 1 0 0/\st.heap 1 0=some (.cells (aB s))/\st.env 3=.own 8 0/\st.heap 8 0=some (.row 23 1 w.length (bD w))/\st.env 4=.own 10 0/\st.heap 10 0=some (.row 4 1 b.length (mV b))/\st.env 5=.v (.int .i64 i))/\0<=i/\i<v.ns.length/\m=v.ns.length-i.toNat)
  (fun e st=>e=.ret/\∃i:Int,st.env 2=.v (.int .i64 i)/\0<=i/\i<v.ns.length) (v.ns.length-(aP v.ns s.bO.gX.root).toNat) ?step ?start ?rest
 case step =>
  rintro m st ⟨i,hI,i0,i1,hm⟩
  obtain⟨k,hk,hkk⟩:=hB i
  have kb:=kB i k hk
  by_cases aZ:k<0
  ·apply oT (.ret)
   ·simp only[Z8,seval,hI,h.sd.tree,kb,aZ];rfl
   ·exact⟨rfl,i,by simp only[E8,seval],i0,i1⟩
  ·apply oN (v.ns.length-k.toNat)
   ·simp only[Z8,seval,hI,h.sd.tree,kb,aZ];rfl
   ·exact⟨k,by simp only[E8,seval,hI],by omega,by omega,rfl⟩
 case start=>exact⟨_,by simp only[E8,seval]<;>rfl,h.gX,(fL _ _).2,rfl⟩
 case rest =>
  rintro e st ⟨rfl,i,h2,i0,i1⟩
  simp only[Z8,seval];exact⟨_,bT rfl (by simp only[E8,seval,h2]<;>rfl) (by first|exact .v _|simp only[dN,h2]),i,rfl,i0,i1⟩
theorem YC (r:Command):Flat (.agg (dV r))=True:=eq_true (.agg _ (kY r))
theorem aS7 {s:aO} {v:SV} {q:Int} (h:GI s v q):∃r,aC Tryz.prog 199 [.agg (aB s)]=some r/\∃c:Command,r=.agg (dV c):=by
 have hf:=h.sd.flat
 obtain⟨r1,e1,k,rfl,k0,k1⟩:=aS6 h
 have k208:=kx e1 (cT hf) (.v _)
 obtain⟨r2,e2,r,rfl⟩:=aSK h.sd
 have k209:=kx e2 (cT hf) (qS r)
 rw[cL Tryz.func199 rfl aNN rfl];simp only[Z8,seval,k208,k209,h.sd.tree,k0,k1];exact⟨_,fK rfl (by simp only[E8,seval,YC]<;>rfl) (by simp only[Z8,seval,YC]<;>rfl) (by simp only[dN,and_self,YC]),_,rfl⟩
theorem aNO (t:State) (hf:Flat (.agg (aF t))) {v:SV} {q:Int} (h:GI t.store v q):∃r,aC Tryz.prog 181 [.agg (aF t)]=some r/\∃(b:Bool) (c:Command) (y:AV),r=.dX [.agg (aF { t with Ny:=b,last:=c }),y]/\Flat y:=by
 have B6:=h.sd.flat
 have lK:=(pP t).1 hf
 obtain⟨r1,e1,c,rfl⟩:=aS7 h
 have aIm:=kx e1 (cT B6) (.agg _ (kY c))
 have hfc:∀x∈dV c,Flat x:=kY c
 have ex:jE (some (.row 56 96 1 (dV c)))=some (.sl 1 (dV c)):=by
  unfold jE;simp only[if_pos hfc]
 rw[cG Tryz.func181 rfl aNP (by kernel_rfl) rfl]
 have M6:Flat (.agg (aF { t with Ny:=true,last:=c })):=(pP _).2 lK
 cases g1:t.Ny
 ·simp only[ZG,seval,aAq,aIm,g1];exact⟨_,by apply dJ;rfl;all_goals simp only[aJ,bX,Z8,seval,M6,ex]<;>rfl,true,c,_,rfl,.sl _ _ hfc⟩
 ·by_cases g2:t.last=c
  ·simp only[ZG,seval,aAq,aIm,g1,g2];exact⟨_,by apply dJ;rfl;all_goals simp only[aJ,bX,Z8,seval,hf]<;>rfl,t.Ny,t.last,_,rfl,.v _⟩
  ·simp only[ZG,seval,aAq,aIm,g1,g2];exact⟨_,by apply dJ;rfl;all_goals simp only[aJ,bX,Z8,seval,M6,ex]<;>rfl,true,c,_,rfl,.sl _ _ hfc⟩
theorem wrap_u64 (x:Int) (h1:0<=x) (h2:x<18446744073709551616):IntKind.u64.wrap x=x:=by
 unfold IntKind.wrap;simp[IntKind.signed,IntKind.bits]
 omega
theorem aNQ (o:Option (List Int)) (hn:((ol o).length:Int)<=1000) (hb:∀x∈ol o,0<=x/\x<=1000):∃a:Int,aC Tryz.prog 175 [ov bD o]=some (.dX [.v (.int .u64 a),.v (.int .i64 0)])/\0<=a/\a<=1000000:=by
 suffices h:∃r,aC Tryz.prog 175 [ov bD o]=some r/\∃a:Int,r=.dX [.v (.int .u64 a),.v (.int .i64 0)]/\0<=a/\a<=1000000 by
  obtain⟨r,h,a,rfl,h1⟩:=h;exact⟨a,h,h1⟩
 have add:∀(a:Int) (k:Nat),0<=a/\a<=1000 * k->k<(ol o).length->EU a (gx (0:Int) (ol o) (k:Int))=(a+gx (0:Int) (ol o) (k:Int),0)/\0<=a+gx (0:Int) (ol o) (k:Int)/\a+gx (0:Int) (ol o) (k:Int)<=1000 * ((k+1:Nat):Int):=by
  intro a k ha hk;have hx:=hb _ (uM (z:=(0:Int)) (show (0:Int)<=k by omega) (show (k:Int)<(ol o).length by omega))
  obtain⟨x,ex⟩:∃x,gx (0:Int) (ol o) (k:Int)=x:=⟨_,rfl⟩
  rw[ex] at hx ⊢;have w1:IntKind.u64.wrap (18446744073709551615-x)=18446744073709551615-x:=wrap_u64 _ (by omega) (by omega)
  have w2:IntKind.u64.wrap (a+x)=a+x:=wrap_u64 _ (by omega) (by omega)
  unfold EU;rw[w1,w2,if_neg (by omega)]
  exact⟨rfl,by omega,by omega⟩
 rw[cL Tryz.func175 rfl aGE (by cases o<;>rfl)]
 simp only[Z8,seval];refine cB (fun m st=>∃(k:Nat) (a:Int),(st.env 0=ov bD o/\st.env 4=.v (.int .u64 a)/\st.env 5=.v (.int .i64 k))/\(0<=a/\a<=1000 * k)/\k<=(ol o).length/\m=(ol o).length-k)
  (fun e st=>e=.exit 0/\∃a:Int,st.env 4=.v (.int .u64 a)/\0<=a/\a<=1000000) (ol o).length ?step ?start ?rest
 case step =>
  rintro m st ⟨k,a,hI,ha,hk,hm⟩
  by_cases aZ:(k:Int)<(ol o).length
  ·have q0:(0:Int)<=k:=by omega
   have hw:IntKind.i64.wrap ((k:Int)+1)=((k+1:Nat):Int):=by rw[pM _ (by omega) (by omega)];omega
   obtain⟨h1,h2⟩:=add a k ha (by omega)
   apply oN ((ol o).length-(k+1))
   ·simp only[Z8,seval,hI,aZ,q0,aHR,eC,h1,hw];rfl
   ·exact⟨k+1,_,by simp only[E8,seval,hI]<;>rfl,h2,by omega,rfl⟩
  ·apply oT (.exit 0)
   ·simp only[Z8,seval,hI,aZ];rfl
   ·exact⟨rfl,a,by simp only[E8,seval,hI],by omega⟩
 case start=>exact⟨0,0,by simp only[E8,seval]<;>exact⟨rfl,rfl⟩,by omega,by omega,by omega⟩
 case rest =>
  rintro e st ⟨rfl,a,h,ha⟩
  simp only[Z8,seval,h];exact⟨_,dJ rfl rfl rfl (by simp only[E8,seval,h]<;>rfl) (by simp only[E8,seval,h]<;>rfl),_,rfl,ha⟩
theorem aNR (t:Table) (b:Option (List Int)) (ht:t.jQ=ov bD b) (hn:((ol b).length:Int)<=1000) (hb:∀x∈ol b,0<=x/\x<=1000):aC Tryz.prog 130 [.agg (cF t),.v (.int .i64 (ol b).length)]=some (.v (.int .i64 0)):=by
 obtain⟨a,hr,a0,a1⟩:=aNQ b hn hb
 have L2:=kx hr (cT (dP b)) (.dX _ (bH (.v _) (.v _)))
 rw[cL Tryz.func130 rfl aGG rfl];refine iX ?_
 have h3:(4611686018427387904<a)=False:=eq_false (by omega)
 simp only[Z8,seval,ht,bt (rfl:((ol b).length:Int)=(ol b).length),L2,eC,h3];exact⟨_,bT rfl (by simp only[E8,seval]<;>rfl) (by first|exact .v _|simp only[dN]),rfl⟩
theorem aEd:mkRoot 1≠dK:=by decide
structure Vy (c:Config) (b:List Int):Prop where
 jQ:c.jQ=ov bD (some b)
 nb:1<=b.length/\b.length<=64
 bv:∀x∈b,0<=x/\x<=1000
 rD:1<=c.rD/\c.rD<=64
 bp:c.Jb<=100
 sU:1<=c.kF.sU/\c.kF.sU<=4096
 xI:0<=c.kF.xI/\c.kF.xI<=64
 qJ:0<=c.kF.qJ/\c.kF.qJ<=256
 rE:1<=c.kF.rE/\c.kF.rE<=64
 lM:0<=c.kF.lM/\c.kF.lM<=256
 back:1<=c.kF.kZ/\c.kF.kZ<=1048576
 gen:c.iA=mkRoot 1
 n6:6<=c.kF.sU
theorem aIn (n:Nat):((List.range n).flatMap fun _=>jR tV)=cP (List.replicate n tV):=by
 induction n with
 | zero=>rfl
 | succ n ih=>rw[List.range_succ,List.flatMap_append,ih,List.replicate_succ',cP,cP,List.flatMap_append];simp
theorem QK (t:Table):aR [t]=cF t:=by simp[aR]
def aEe (c:Config):Block:={ fV with root:=c.iA,gX:=⟨0,c.iA⟩,fin:=⟨0,c.iA⟩,dL:=⟨⟨0,c.iA⟩,⟨0,c.iA⟩⟩}
def M8 (c:Config) (b:List Int):aO:=⟨c,⟨ov cP (some (List.replicate b.length tV)),.v (.slice none 0 0)⟩,⟨⟨0,c.iA⟩,⟨0,c.iA⟩⟩,Gg,⟨.sl 1 (cD [⟨aEe c,-1,1⟩])⟩,0,dK,ov aR (some [⟨⟨0,c.iA⟩,ov bD (some b)⟩])⟩
def aAr (c:Config) (b:List Int):SV:={ B:=some b,L:=some (List.replicate b.length tV),Q:=none,E:=none,O:=none,ns:=[⟨aEe c,-1,1⟩],T:=some [⟨⟨0,c.iA⟩,ov bD (some b)⟩]}
theorem GI.new {c:Config} {b:List Int} (h:Vy c b):GI (M8 c b) (aAr c b) 0:=by
 have hb:=h.nb
 refine⟨⟨h.jQ,rfl,rfl,rfl,rfl,rfl,rfl, ?_, ?_, ?_, ?_, ?_, ?_, ?_, ?_, ?_⟩, ?_, ?_, ?_, ?_,h.sU.2,h.rD, ?_, ?_, ?_,h.xI.2, ?_,h.qJ.2, ?_,h.rE.2, ?_,by omega, ?_⟩
 ·intro a ha;cases ha
 ·intro t ht;rw[show t=⟨⟨0,c.iA⟩,ov bD (some b)⟩ by simpa [aAr,ol] using ht]
  exact⟨some b,rfl,by show (b.length:Int)<_;omega⟩
 ·show (b.length:Int)<_;omega
 ·show ((List.replicate b.length tV).length:Int)<_;rw[List.length_replicate];omega
 ·show ((0:Nat):Int)<_;omega
 ·show ((0:Nat):Int)<_;omega
 ·show ((0:Nat):Int)<_;omega
 ·show ((1:Nat):Int)<_;omega
 ·show ((1:Nat):Int)<_;omega
 ·intro i h0 h1;have:i<((1:Nat):Int):=h1;omega
 ·rfl
 ·show 0<1;omega
 ·show ((1:Nat):Int)<=c.kF.sU;have:=h.sU.1;omega
 ·show (List.replicate b.length tV).length=b.length;rw[List.length_replicate]
 ·show (b.length:Int)<=1024;omega
 ·show ((0:Nat):Int)<=c.kF.xI;have:=h.xI.1;omega
 ·show ((0:Nat):Int)<=c.kF.qJ;have:=h.qJ.1;omega
 ·show ((1:Nat):Int)<=c.kF.rE;have:=h.rE.1;omega
 ·show ((0:Nat):Int)<=0;omega
 ·exact Qm (j:=0) (by omega) (by show (0:Int)<((1:Nat):Int);omega) rfl
theorem aS8 {c:Config} {b:List Int} (h:Vy c b):aC Tryz.prog 102 [.agg (bU c)]=some (.dX [.agg (aB (M8 c b)),.v (.int .i64 0)]):=by
 obtain⟨hbal,hnb,hbv,hspe,hbp,h1,h2,h3,h4,h5,h6,hg0,_⟩:=h
 have hg:c.iA≠dK:=by rw[hg0];exact aEd
 have f1:=hspe.1;have f2:¬64<c.rD:=by omega
 have f1':¬c.rD<1:=by omega
 have f3:¬100<c.Jb:=by omega
 have f4:¬(1024:Int)<(b.length:Int):=by omega
 have f6:¬c.kF.kZ<1:=by omega
 have f7:¬1048576<c.kF.kZ:=by omega
 have n1:((ol (some b)).length:Int)<1000000:=by show (b.length:Int)<_;omega
 have hb0:(0:Int)<=(b.length:Int):=by omega
 have OY:(b.length:Int) * 48<=140737488355328:=by omega
 have OZ:(b.length:Int)<=(maxLen:Int):=by unfold maxLen;omega
 have zE:gY.aL=0:=rfl
 have kt:∀(st:St) (d:Option Nat),aN (aC Tryz.prog) 130 [.agg (cF ⟨⟨0,c.iA⟩,ov bD (some b)⟩),.v (.int .i64 b.length)] st d=some { dst:=d,val:=.v (.int .i64 0)}:=kx (aNR ⟨⟨0,c.iA⟩,ov bD (some b)⟩ (some b) rfl (by show (b.length:Int)<=_;omega) hbv) (bH ((kK ⟨⟨0,c.iA⟩,ov bD (some b)⟩).2 (dP (some b))) (.v _)) (.v _)
 have aIa:=kx (aM6 ⟨⟨0,c.iA⟩,ov bD (some b)⟩ (some b) rfl n1) (cT ((kK ⟨⟨0,c.iA⟩,ov bD (some b)⟩).2 (dP (some b)))) ((kK ⟨⟨0,c.iA⟩,ov bD (some b)⟩).2 (dP (some b)))
 rw[cL Tryz.func102 rfl aNS rfl];refine iX ?_
 simp only[Z8,seval,qG,qI,hbal,f1',f2,f3,f4,f6,f7,aRL,h1.1,h1.2,h2.1,h2.2,h3.1,h3.2,h4.1,h4.2,h5.1,h5.2,hg,zE,kt,hb0,OY,OZ,Int.toNat_natCast,aIn,aIa,aRB,Gf b (show (b.length:Int)<1000000 by omega)]
 have exT:=Ql 1 [⟨⟨0,c.iA⟩,ov bD (some b)⟩] (by intro y hy;rw[List.mem_singleton] at hy;subst hy;exact dP (some b))
 rw[QK] at exT;have hcc:∀x,x=c.jQ->({ kF:=c.kF,rD:=c.rD,Jb:=c.Jb,EX:=c.EX,iA:=c.iA,jQ:=x }:Config)=c:=by rintro _ rfl;rfl
 have zs:gK.gE.gW=.v (.slice none 0 0)/\gK.dR.early=.v (.slice none 0 0)/\gK.dR.bV=.v (.slice none 0 0):=⟨rfl,rfl,rfl⟩
 exact⟨_,by apply dJ;rfl;all_goals simp only[aJ,bX,Z8,seval,bQ,gF,bG,vZ,Yl,exT,cN,dN,zs]<;>rfl,by unfold M8;simp only[ov,List.length_replicate,QK,hcc (.sl b.length (bD b)) hbal.symm]<;>rfl⟩
end Go.Ab.Tryz
section
namespace Go.Ab
open Classical
theorem Qq [Ext] (P:Program) {f:Nat} {fn:Func} {c:Code} (hf:P.funcs[f]? = some fn) (hb:fn.body=some c) (qK:bF fn=true) (e sz m:Nat) (cs xs:List AV) (hx:Ext.ext f (.uniq e sz m cs :: xs)=none) :
 aC P f (.uniq e sz m cs :: xs)=cA (Ac P c (St.oB e sz m cs xs)) (aAs P fn):=by
 simp only[bF,hb,Bool.and_eq_true,Bool.not_eq_true'] at qK;rw[AQ P hf hb qK.1 e sz m cs xs hx,qK.2];rfl
theorem D7 [Ext] (P:Program) {f:Nat} {fn:Func} {c:Code} (hf:P.funcs[f]? = some fn) (hb:fn.body=some c) (qK:sO fn=true) (hc:kI c=true) (e sz m:Nat) (cs xs:List AV) (hx:Ext.ext f (.uniq e sz m cs :: xs)=none) :
 aC P f (.uniq e sz m cs :: xs)=cA (wW P true c (St.oB e sz m cs xs)) (aAs P fn):=by
 rw[AQ P hf hb qK e sz m cs xs hx,hc]
theorem Am [Ext] {P:Program} {fn:Func} {st:St} {e:Ex} {t s g ee sz n:Nat} {cs:List AV} (he:e=.ret\/e=.normal) (hr:fn.results.toList=[.tmp t]) (h1:st.env t=.own s g) (h2:st.heap s g=some (.row ee sz n cs)) (hm:∀c∈cs,eE c) :
 aAs P fn (e,st)=some (.uniq ee sz n cs):=aAt he hr (by unfold jB;simp only[h1]) h2 hm
end Go.Ab
namespace Go.Ab.Tryz
open Classical Go.Proofs Go.Ab
theorem An (l:List Int):∀c∈kH l,eE c:=by
 intro c hc;unfold kH at hc;obtain⟨x,_,hx⟩:=List.mem_flatMap.1 hc
 rw[cU8,List.mem_singleton] at hx;subst hx;exact .v _
def Wr (F:Nat) (rest:List AV) (K:Int):Prop:=∀l:List Int,(l.length:Int)+K<900000->∃m:List Int,aC Tryz.prog F (.uniq 5 1 l.length (kH l) :: rest)=some (.uniq 5 1 m.length (kH m))/\(m.length:Int)<=l.length+K
def WrN (F:Nat) (rest:List AV) (K:Int):Prop:=∃m:List Int,aC Tryz.prog F (.v (.slice none 0 0) :: rest)=some (.uniq 5 1 m.length (kH m))/\(m.length:Int)<=K
theorem Wr.at {F:Nat} {rest:List AV} {K:Int} (h:Wr F rest K) (hr:∀x∈rest,Flat x) {l:List Int} (hl:(l.length:Int)+K<900000) :
 ∃m:List Int,(∀s k d c,mvE (aC Tryz.prog) F rest s k d c (some (.row 5 1 l.length (kH l)))=some { dst:=some d,val:=.own d c,dG:=some (s,k,none),new:=some (d,[.row 5 1 m.length (kH m)])})/\(m.length:Int)<=l.length+K:=by
 obtain⟨m,h1,h2⟩:=h l hl
 exact⟨m,fun s k d c=>aAu (wC l) hr h1,h2⟩
theorem WrN.at {F:Nat} {rest:List AV} {K:Int} (h:WrN F rest K) (hr:∀x∈rest,Flat x) :
 ∃m:List Int,(∀(st:St) (d:Nat),kN (aC Tryz.prog) F (.v (.slice none 0 0) :: rest) st (some d)=some { dst:=some d,val:=.own d (st.aK d),new:=some (d,[.row 5 1 m.length (kH m)])})/\(m.length:Int)<=K:=by
 obtain⟨m,h1,h2⟩:=h
 exact⟨m,fun st d=>YD hr h1,h2⟩
def tb:Nat->Int
 | 0=>18446744073709551616
 | k+1=>tb k / 128+1
theorem tb9:tb 9=3:=by decide
theorem D8 (x:Int):x.fdiv (2 ^ min 7 IntKind.u64.bits)=x / 128:=by
 show x.fdiv 128=x / 128
 exact Int.fdiv_eq_ediv_of_nonneg x (by decide)
theorem aEf (l:List Int):kH l=l.map fun x=>.v (.int .u8 x):=by
 induction l with
 | nil=>rfl
 | cons a l ih=>simp only[kH,List.flatMap_cons,List.map_cons,cU8] at *;rw[ih];rfl
theorem QL (r:cJ):aX r=kH r.toList:=by rw[aEf];rfl
theorem Yp {P:Program} {T:Nat} {k:IntKind} {a b:Int}:fP P .or T (.v (.int k a)) (.v (.int k b))=some (.v (.int k (k.wrap (BitVec.ofInt k.bits a ||| BitVec.ofInt k.bits b).toNat))):=by simp[fP]
theorem aNU:dI Tryz.prog 27=none:=by kernel_rfl
theorem aNV (r:cJ) (st:St) (s g o:Nat) (h:st.heap s g=some (.cells (aX r))):dA Tryz.prog st 27 (.ptr s g o) none none=some (.vw s g o 32):=by
 simp only[dA,aNU,aH3,h]
theorem aAv (st:St) (s g:Nat) (r:cJ) (h:st.heap s g=some (.cells (aX r))):aQ st (.vw s g 0 32)=some (r.toList.length,kH r.toList):=by
 have hl:(aX r).length=32:=aM r
 simp only[aQ,h,Nat.zero_add,List.drop_zero];rw[if_pos (by omega),List.take_of_length_le (by omega),QL]
 simp
theorem AR (n:Int) (hn:Rg n):Wr 215 [.v (.int .u64 n)] 10:=by
 intro l hl;suffices h:∃r,aC Tryz.prog 215 [.uniq 5 1 l.length (kH l),.v (.int .u64 n)]=some r/\∃m:List Int,r=.uniq 5 1 m.length (kH m)/\(m.length:Int)<=l.length+10 by
  obtain⟨r,h,m,rfl,h2⟩:=h;exact⟨m,h,h2⟩
 rw[Qq Tryz.prog Tryz.func215 rfl aGS _ _ _ _ _ (sV _ _)];simp only[Z8,seval,mJ,oJ,mK,mL,oK];refine cB (fun m st=>∃(x:Int) (k:Nat) (l':List Int) (a g:Nat),(st.env 0=.own a g/\st.heap a g=some (.row 5 1 l'.length (kH l'))/\st.env 1=.v (.int .u64 x))/\((a=0/\g=0)\/(a=13/\g<st.aK 13))/\l'.length=l.length+k/\0<=x/\x<tb k/\k<=9/\m=x.toNat)
  (fun e st=>e=.exit 0/\∃(x:Int) (l':List Int) (a g:Nat),(st.env 0=.own a g/\st.heap a g=some (.row 5 1 l'.length (kH l'))/\st.env 1=.v (.int .u64 x))/\a≠19/\(l'.length:Int)<=l.length+9) n.toNat ?step ?start ?rest
 case step =>
  rintro m st ⟨x,k,l',a,g,hI,KL,Hz,x0,hx,hk,hm⟩
  by_cases aZ:127<x
  ·have hk8:k<=8:=by
    rcases Nat.lt_or_ge k 9 with h|h
    ·omega
    ·have:k=9:=by omega
     subst this;rw[tb9] at hx;omega
   have Ta:(l'.length:Int)<1000000:=by omega
   have Ic:x / 128<tb (k+1):=by show x / 128<tb k / 128+1;omega
   have ll:∀b:Int,(l'++[b]).length=l.length+(k+1):=fun b=>by rw[List.length_append,List.length_cons,List.length_nil];omega
   rcases KL with ⟨rfl,rfl⟩|⟨rfl,hg⟩
   ·apply oN ((x / 128).toNat)
    ·simp only[Z8,seval,hI,aZ,Yp,Nz _ _ _ _ Ta,D8];rfl
    ·exact⟨x / 128,k+1,_,13,_,by and_intros<;>(simp only[E8,seval]<;>rfl),.inr ⟨rfl,by simp only[E8,seval]<;>omega⟩,ll _,by omega,Ic,by omega,rfl⟩
   ·have wB:(g=st.aK 13)=False:=eq_false (by omega)
    apply oN ((x / 128).toNat)
    ·simp only[Z8,seval,hI,aZ,wB,Yp,Nz _ _ _ _ Ta,D8];rfl
    ·exact⟨x / 128,k+1,_,13,_,by and_intros<;>(simp only[E8,seval]<;>rfl),.inr ⟨rfl,by simp only[E8,seval]<;>omega⟩,ll _,by omega,Ic,by omega,rfl⟩
  ·apply oT (.exit 0)
   ·simp only[Z8,seval,hI,aZ];rfl
   ·exact⟨rfl,x,l',a,g,by simp only[E8,seval,hI],by omega,by omega⟩
 case start=>exact⟨n,0,l,0,0,by simp only[E8,seval,mJ,oJ,mK,mL,oK]<;>rfl,.inl ⟨rfl,rfl⟩,rfl,hn.1,hn.2,by omega,rfl⟩
 case rest =>
  rintro e st ⟨rfl,x,l',a,g,hI,ha,Hz⟩
  have ha':(a=19)=False:=eq_false ha
  have Ta:(l'.length:Int)<1000000:=by omega
  simp only[Z8,seval,hI,ha',Nz _ _ _ _ Ta];exact⟨_,Am (.inl rfl) rfl (by simp only[E8,seval]<;>rfl) (by simp only[E8,seval]<;>rfl) (An _),_,rfl,by rw[List.length_append,List.length_cons,List.length_nil];omega⟩
theorem M9 (n:Int) (hn:Rg n):WrN 215 [.v (.int .u64 n)] 10:=by
 suffices h:∃r,aC Tryz.prog 215 [.v (.slice none 0 0),.v (.int .u64 n)]=some r/\∃m:List Int,r=.uniq 5 1 m.length (kH m)/\(m.length:Int)<=10 by
  obtain⟨r,h,m,rfl,h2⟩:=h;exact⟨m,h,h2⟩
 rw[cL Tryz.func215 rfl aGS rfl];simp only[Z8,seval];refine cB (fun m st=>∃(x:Int) (k:Nat),st.env 1=.v (.int .u64 x)/\((k=0/\st.env 0=.v (.slice none 0 0))\/∃(l':List Int) (g:Nat),(st.env 0=.own 13 g/\st.heap 13 g=some (.row 5 1 l'.length (kH l')))/\g<st.aK 13/\l'.length=k)/\0<=x/\x<tb k/\k<=9/\m=x.toNat)
  (fun e st=>e=.exit 0/\∃(x:Int),st.env 1=.v (.int .u64 x)/\(st.env 0=.v (.slice none 0 0)\/∃(l':List Int) (g:Nat),(st.env 0=.own 13 g/\st.heap 13 g=some (.row 5 1 l'.length (kH l')))/\(l'.length:Int)<=9)) n.toNat ?step ?start ?rest
 case step =>
  rintro m st ⟨x,k,hI,h0,x0,hx,hk,hm⟩
  by_cases aZ:127<x
  ·have hk8:k<=8:=by
    rcases Nat.lt_or_ge k 9 with h|h
    ·omega
    ·have:k=9:=by omega
     subst this;rw[tb9] at hx;omega
   have Ic:x / 128<tb (k+1):=by show x / 128<tb k / 128+1;omega
   rcases h0 with ⟨xE,h0⟩|⟨l',g,h0,hg,Hz⟩
   ·have ll:∀b:Int,([b]:List Int).length=k+1:=fun b=>by rw[List.length_cons,List.length_nil];omega
    apply oN ((x / 128).toNat)
    ·simp only[Z8,seval,hI,h0,aZ,Yp,YE,D8];rfl
    ·exact⟨x / 128,k+1,by simp only[E8,seval],.inr ⟨_,_,⟨by simp only[E8,seval]<;>rfl,by simp only[E8,seval]<;>rfl⟩,by simp only[E8,seval]<;>omega,ll _⟩,by omega,Ic,by omega,rfl⟩
   ·have Ta:(l'.length:Int)<1000000:=by omega
    have ll:∀b:Int,(l'++[b]).length=k+1:=fun b=>by rw[List.length_append,List.length_cons,List.length_nil];omega
    have wB:(g=st.aK 13)=False:=eq_false (by omega)
    apply oN ((x / 128).toNat)
    ·simp only[Z8,seval,hI,h0,aZ,wB,Yp,Nz _ _ _ _ Ta,D8];rfl
    ·exact⟨x / 128,k+1,by simp only[E8,seval],.inr ⟨_,_,⟨by simp only[E8,seval]<;>rfl,by simp only[E8,seval]<;>rfl⟩,by simp only[E8,seval]<;>omega,ll _⟩,by omega,Ic,by omega,rfl⟩
  ·have h0':st.env 0=.v (.slice none 0 0)\/∃(l':List Int) (g:Nat),(st.env 0=.own 13 g/\st.heap 13 g=some (.row 5 1 l'.length (kH l')))/\(l'.length:Int)<=9:=by
    rcases h0 with ⟨_,h0⟩|⟨l',g,h0,hg,Hz⟩
    ·exact .inl h0
    ·exact .inr ⟨l',g,h0,by omega⟩
   apply oT (.exit 0)
   ·simp only[Z8,seval,hI,aZ];rfl
   ·exact⟨rfl,x,by simp only[E8,seval,hI],by simpa only[E8,seval] using h0'⟩
 case start=>exact⟨n,0,by simp only[E8,seval]<;>rfl,.inl ⟨rfl,by simp only[E8,seval]<;>rfl⟩,hn.1,hn.2,by omega,rfl⟩
 case rest =>
  rintro e st ⟨rfl,x,hI,h0⟩
  rcases h0 with h0|⟨l',g,h0,Hz⟩
  ·simp only[Z8,seval,hI,h0,YE];exact⟨_,Qr (n:=([IntKind.u8.wrap x]:List Int).length) (cs:=kH [IntKind.u8.wrap x]) (aJ (by decide)) (.inl rfl) rfl (by simp only[E8,seval]<;>rfl) (by simp only[E8,seval]<;>rfl) (wC _),_,rfl,by rw[List.length_cons,List.length_nil];omega⟩
  ·have Ta:(l'.length:Int)<1000000:=by omega
   simp only[Z8,seval,hI,h0,Nz _ _ _ _ Ta];exact⟨_,tH rfl (by simp only[E8,seval]<;>rfl) (by simp only[E8,seval]<;>rfl) (wC _),_,rfl,by rw[List.length_append,List.length_cons,List.length_nil];omega⟩
theorem KM (r:cJ):Wr 226 [.agg (aX r)] 32:=by
 intro l hl;suffices h:∃x,aC Tryz.prog 226 [.uniq 5 1 l.length (kH l),.agg (aX r)]=some x/\∃m:List Int,x=.uniq 5 1 m.length (kH m)/\(m.length:Int)<=l.length+32 by
  obtain⟨r,h,m,rfl,h2⟩:=h;exact⟨m,h,h2⟩
 have Ta:(l.length:Int)<1000000:=by omega
 have hc:aX r=kH r.toList:=QL r
 have hr:(r.toList.length:Int)<1000000:=by simp
 rw[Qq Tryz.prog Tryz.func226 rfl aNW _ _ _ _ _ (sV _ _)];simp only[Z8,seval,mJ,oJ,mK,mL,oK,aNV r,aAv _ _ _ r,YF _ _ _ _ Ta hr];exact⟨_,Am (.inl rfl) rfl (by simp only[E8,seval]<;>rfl) (by simp only[E8,seval]<;>rfl) (An _),_,rfl,by rw[List.length_append];simp⟩
theorem aAw (c:fU) (h:Rg c.aL):Wr 228 [.agg (bY c)] 42:=by
 intro l hl;suffices h:∃r,aC Tryz.prog 228 [.uniq 5 1 l.length (kH l),.agg (bY c)]=some r/\∃m:List Int,r=.uniq 5 1 m.length (kH m)/\(m.length:Int)<=l.length+42 by
  obtain⟨r,h,m,rfl,h2⟩:=h;exact⟨m,h,h2⟩
 obtain⟨m1,e1,b1⟩:=(AR c.aL h).at (cT (.v _)) (l:=l) (by omega)
 obtain⟨m2,e2,b2⟩:=(KM c.root).at (cT (qS _)) (l:=m1) (by omega)
 rw[D7 Tryz.prog Tryz.func228 rfl aNX (by kernel_rfl) _ _ _ _ _ (sV _ _)]
 simp only[ZG,seval,aNY,mJ,oJ,mK,mL,oK,e1,e2];exact⟨_,Am (.inl rfl) rfl (by simp only[E8,seval]<;>rfl) (by simp only[E8,seval]<;>rfl) (An _),_,rfl,by omega⟩
end Go.Ab.Tryz
end
namespace Go.Ab.Tryz
open Classical Go.Proofs Go.Ab
theorem aNZ (o p:Option (List Int)) (hn:((ol o).length:Int)<1000000):∃r,aC Tryz.prog 105 [ov aI o,ov aI p]=some r/\∃b:Bool,r=.v (.bool b):=by
 rw[cL Tryz.func105 rfl aGT (by cases o<;>cases p<;>rfl)]
 by_cases g:((ol o).length:Int)=((ol p).length:Int)
 case neg =>
  simp only[Z8,seval,bf g];exact⟨_,bT rfl (by simp only[E8,seval]<;>rfl) (by first|exact .v _|simp only[dN]),_,rfl⟩
 simp only[Z8,seval,bt g];refine cB (fun m st=>∃k:Nat,(st.env 0=ov aI o/\st.env 1=ov aI p/\st.env 5=.v (.int .i64 k))/\k<=(ol o).length/\m=(ol o).length-k)
  (fun e st=>(e=.ret/\st.env 4=.v (.bool false))\/e=.exit 0) (ol o).length ?step ?start ?rest
 case step =>
  rintro m st ⟨k,hI,hk,hm⟩
  by_cases aZ:(k:Int)<(ol o).length
  ·have q0:(0:Int)<=k:=by omega
   have q1:(k:Int)<((ol p).length:Int):=by omega
   have hw:IntKind.i64.wrap ((k:Int)+1)=((k+1:Nat):Int):=by rw[pM _ (by omega) (by omega)];omega
   by_cases hh:gx (0:Int) (ol o) (k:Int)=gx (0:Int) (ol p) (k:Int)
   ·apply oN ((ol o).length-(k+1))
    ·simp only[Z8,seval,hI,aZ,q0,q1,bt hh,hw];rfl
    ·exact⟨k+1,by simp only[E8,seval,hI],by omega,rfl⟩
   ·apply oT (.ret)
    ·simp only[Z8,seval,hI,aZ,q0,q1,bf hh];rfl
    ·exact .inl ⟨rfl,by simp only[E8,seval]⟩
  ·apply oT (.exit 0)
   ·simp only[Z8,seval,hI,aZ];rfl
   ·exact .inr rfl
 case start=>exact⟨0,by simp only[E8,seval]<;>rfl,by omega,by omega⟩
 case rest =>
  rintro e st (⟨rfl,h⟩|rfl)
  ·simp only[Z8,seval,h];exact⟨_,bT rfl (by simp only[E8,seval,h]<;>rfl) (by first|exact .v _|simp only[dN,h]),_,rfl⟩
  ·simp only[Z8,seval];exact⟨_,bT rfl (by simp only[E8,seval]<;>rfl) (by first|exact .v _|simp only[dN]),_,rfl⟩
theorem aS9 (o p:Option (List Int)) (hn:((ol o).length:Int)<1000000):∃r,aC Tryz.prog 103 [ov bD o,ov bD p]=some r/\∃b:Bool,r=.v (.bool b):=by
 rw[cL Tryz.func103 rfl aGU (by cases o<;>cases p<;>rfl)]
 by_cases g:((ol o).length:Int)=((ol p).length:Int)
 case neg =>
  simp only[Z8,seval,bf g];exact⟨_,bT rfl (by simp only[E8,seval]<;>rfl) (by first|exact .v _|simp only[dN]),_,rfl⟩
 simp only[Z8,seval,bt g];refine cB (fun m st=>∃k:Nat,(st.env 0=ov bD o/\st.env 1=ov bD p/\st.env 5=.v (.int .i64 k))/\k<=(ol o).length/\m=(ol o).length-k)
  (fun e st=>(e=.ret/\st.env 4=.v (.bool false))\/e=.exit 0) (ol o).length ?step ?start ?rest
 case step =>
  rintro m st ⟨k,hI,hk,hm⟩
  by_cases aZ:(k:Int)<(ol o).length
  ·have q0:(0:Int)<=k:=by omega
   have q1:(k:Int)<((ol p).length:Int):=by omega
   have hw:IntKind.i64.wrap ((k:Int)+1)=((k+1:Nat):Int):=by rw[pM _ (by omega) (by omega)];omega
   by_cases hh:gx (0:Int) (ol o) (k:Int)=gx (0:Int) (ol p) (k:Int)
   ·apply oN ((ol o).length-(k+1))
    ·simp only[Z8,seval,hI,aZ,q0,q1,bt hh,hw];rfl
    ·exact⟨k+1,by simp only[E8,seval,hI],by omega,rfl⟩
   ·apply oT (.ret)
    ·simp only[Z8,seval,hI,aZ,q0,q1,bf hh];rfl
    ·exact .inl ⟨rfl,by simp only[E8,seval]⟩
  ·apply oT (.exit 0)
   ·simp only[Z8,seval,hI,aZ];rfl
   ·exact .inr rfl
 case start=>exact⟨0,by simp only[E8,seval]<;>rfl,by omega,by omega⟩
 case rest =>
  rintro e st (⟨rfl,h⟩|rfl)
  ·simp only[Z8,seval,h];exact⟨_,bT rfl (by simp only[E8,seval,h]<;>rfl) (by first|exact .v _|simp only[dN,h]),_,rfl⟩
  ·simp only[Z8,seval];exact⟨_,bT rfl (by simp only[E8,seval]<;>rfl) (by first|exact .v _|simp only[dN]),_,rfl⟩
theorem aTa (a b:sP) (ha:Dt a) (hb:Dt b):∃r,aC Tryz.prog 108 [.agg (gZ a),.agg (gZ b)]=some r/\∃b:Bool,r=.v (.bool b):=by
 obtain⟨V,hV,nV⟩:=ha
 obtain⟨W,hW,nW⟩:=hb
 obtain⟨r1,e1,B,rfl⟩:=aNZ V W nV
 have aAx:=kx e1 (bH (bR V) (bR W)) (.v _)
 rw[cL Tryz.func108 rfl aGV rfl];by_cases g1:a.slot=b.slot
 case neg =>
  simp only[Z8,seval,hV,hW,bf g1];exact⟨_,bT rfl (by simp only[E8,seval]<;>rfl) (by first|exact .v _|simp only[dN]),_,rfl⟩
 by_cases g2:a.root=b.root
 case neg =>
  simp only[Z8,seval,hV,hW,bt g1,g2];exact⟨_,bT rfl (by simp only[E8,seval]<;>rfl) (by first|exact .v _|simp only[dN]),_,rfl⟩
 by_cases g3:a.target=b.target
 case neg =>
  simp only[Z8,seval,hV,hW,bt g1,g2,g3];exact⟨_,bT rfl (by simp only[E8,seval]<;>rfl) (by first|exact .v _|simp only[dN]),_,rfl⟩
 simp only[Z8,seval,hV,hW,bt g1,g2,g3,aAx];exact⟨_,bT rfl (by simp only[E8,seval]<;>rfl) (by first|exact .v _|simp only[dN]),_,rfl⟩
theorem aTb (a b:Table) (ha:sS a) (hb:sS b):∃r,aC Tryz.prog 159 [.agg (cF a),.agg (cF b)]=some r/\∃b:Bool,r=.v (.bool b):=by
 obtain⟨V,hV,nV⟩:=ha
 obtain⟨W,hW,nW⟩:=hb
 obtain⟨r1,e1,B,rfl⟩:=aS9 V W nV
 have aEg:=kx e1 (bH (dP V) (dP W)) (.v _)
 rw[cL Tryz.func159 rfl aGW rfl];by_cases g1:a.ck=b.ck
 case neg =>
  simp only[Z8,seval,hV,hW,g1];exact⟨_,bT rfl (by simp only[E8,seval]<;>rfl) (by first|exact .v _|simp only[dN]),_,rfl⟩
 simp only[Z8,seval,hV,hW,g1,aEg];exact⟨_,bT rfl (by simp only[E8,seval]<;>rfl) (by first|exact .v _|simp only[dN]),_,rfl⟩
def xL (a:Claim):Prop:=∃V:Option (List Int),a.eU=ov aI V/\((ol V).length:Int)<=1000
theorem xL.fl {a:Claim} (h:xL a):Flat (.agg (gN a)):=by obtain⟨V,h,_⟩:=h;exact (Ai a).2 (by rw[h];exact bR V)
theorem aN0 (a b:Claim) (ha:xL a) (hb:xL b):∃r,aC Tryz.prog 232 [.agg (gN a),.agg (gN b)]=some r/\∃b:Bool,r=.v (.bool b):=by
 obtain⟨V,hV,nV⟩:=ha
 obtain⟨W,hW,nW⟩:=hb
 obtain⟨r1,e1,B,rfl⟩:=aNZ V W (by omega)
 have aAx:=kx e1 (bH (bR V) (bR W)) (.v _)
 rw[cL Tryz.func232 rfl aN1 rfl];by_cases g1:a.source=b.source
 case neg =>
  simp only[Z8,seval,hV,hW,bf g1];exact⟨_,bT rfl (by simp only[E8,seval]<;>rfl) (by first|exact .v _|simp only[dN]),_,rfl⟩
 by_cases g2:a.target=b.target
 case neg =>
  simp only[Z8,seval,hV,hW,bt g1,bf g2];exact⟨_,bT rfl (by simp only[E8,seval]<;>rfl) (by first|exact .v _|simp only[dN]),_,rfl⟩
 by_cases g3:a.root=b.root
 case neg =>
  simp only[Z8,seval,hV,hW,bt g1,bt g2,g3];exact⟨_,bT rfl (by simp only[E8,seval]<;>rfl) (by first|exact .v _|simp only[dN]),_,rfl⟩
 simp only[Z8,seval,hV,hW,bt g1,bt g2,g3,aAx];exact⟨_,bT rfl (by simp only[E8,seval]<;>rfl) (by first|exact .v _|simp only[dN]),_,rfl⟩
theorem aTc (a b:fY) (h1:xL a.first) (h2:xL a.second) (h3:xL b.first) (h4:xL b.second):∃r,aC Tryz.prog 216 [.agg (bZ a),.agg (bZ b)]=some r/\∃b:Bool,r=.v (.bool b):=by
 obtain⟨r1,e1,B1,rfl⟩:=aN0 a.first b.first h1 h3
 obtain⟨r2,e2,B2,rfl⟩:=aN0 a.second b.second h2 h4
 have k1:=kx e1 (bH h1.fl h3.fl) (.v _)
 have k2:=kx e2 (bH h2.fl h4.fl) (.v _)
 rw[cL Tryz.func216 rfl aN2 rfl];cases B1
 ·simp only[Z8,seval,k1];exact⟨_,bT rfl (by simp only[E8,seval]<;>rfl) (by first|exact .v _|simp only[dN]),_,rfl⟩
 ·simp only[Z8,seval,k1,k2];exact⟨_,bT rfl (by simp only[E8,seval]<;>rfl) (by first|exact .v _|simp only[dN]),_,rfl⟩
structure pH (x:xU):Prop where
 Hp:∃V:Option (List Int),x.Hp.eU=ov aI V/\((ol V).length:Int)<=1000
 c1:xL x.oX.first
 c2:xL x.oX.second
 YG:∃b:Option (List Int),x.table.jQ=ov bD b/\((ol b).length:Int)<=1000/\∀y∈ol b,Rg y
 rb:RB x.block
 ra:Rg x.Hp.slot/\Rg x.Hp.target.aL
 rs:Rg x.oX.first.source/\Rg x.oX.first.target/\Rg x.oX.second.source/\Rg x.oX.second.target
 rt:Rg x.table.ck.aL
 rv:Rg x.verdict.tagged.tag
theorem pH.aGX {x:xU} (h:pH x):Dt x.Hp:=by obtain⟨V,h1,h2⟩:=h.Hp;exact⟨V,h1,by omega⟩
theorem pH.aAy {x:xU} (h:pH x):sS x.table:=by obtain⟨V,h1,h2,_⟩:=h.YG;exact⟨V,h1,by omega⟩
theorem pH.fl {x:xU} (h:pH x):Flat x.Hp.eU/\Flat x.oX.first.eU/\Flat x.oX.second.eU/\Flat x.table.jQ:=by
 obtain⟨V,h1,_⟩:=h.Hp;obtain⟨V2,h2,_⟩:=h.c1;obtain⟨V3,h3,_⟩:=h.c2;obtain⟨V4,h4,_⟩:=h.YG
 rw[h1,h2,h3,h4];exact⟨bR _,bR _,bR _,dP _⟩
theorem pH.flat {x:xU} (h:pH x):Flat (.agg (kX x)):=(XJ x).2 h.fl
theorem YH (a b:xU) (ha:pH a) (hb:pH b):∃r,aC Tryz.prog 201 [.agg (kX a),.agg (kX b)]=some r/\∃b:Bool,r=.v (.bool b):=by
 have fa:=ha.fl
 have fb:=hb.fl
 obtain⟨r1,e1,B1,rfl⟩:=aTa a.Hp b.Hp ha.aGX hb.aGX
 obtain⟨r2,e2,B2,rfl⟩:=aTc a.oX b.oX ha.c1 ha.c2 hb.c1 hb.c2
 obtain⟨r3,e3,B3,rfl⟩:=aTb a.table b.table ha.aAy hb.aAy
 have k1:=kx e1 (bH ((Ah _).2 fa.1) ((Ah _).2 fb.1)) (.v _)
 have k2:=kx e2 (bH ((nF _).2 ⟨fa.2.1,fa.2.2.1⟩) ((nF _).2 ⟨fb.2.1,fb.2.2.1⟩)) (.v _)
 have k3:=kx e3 (bH ((kK _).2 fa.2.2.2) ((kK _).2 fb.2.2.2)) (.v _)
 rw[cL Tryz.func201 rfl aN3 rfl];by_cases g1:a.kind=b.kind
 case neg =>
  simp only[Z8,seval,qG,qI,bf g1];exact⟨_,bT rfl (by simp only[E8,seval]<;>rfl) (by first|exact .v _|simp only[dN]),_,rfl⟩
 by_cases g2:a.block=b.block
 case neg =>
  simp only[Z8,seval,qG,qI,bt g1,g2];exact⟨_,bT rfl (by simp only[E8,seval]<;>rfl) (by first|exact .v _|simp only[dN]),_,rfl⟩
 cases B1
 ·simp only[Z8,seval,qG,qI,bt g1,g2,k1];exact⟨_,bT rfl (by simp only[E8,seval]<;>rfl) (by first|exact .v _|simp only[dN]),_,rfl⟩
 cases B2
 ·simp only[Z8,seval,qG,qI,bt g1,g2,k1,k2];exact⟨_,bT rfl (by simp only[E8,seval]<;>rfl) (by first|exact .v _|simp only[dN]),_,rfl⟩
 cases B3
 ·simp only[Z8,seval,qG,qI,bt g1,g2,k1,k2,k3];exact⟨_,bT rfl (by simp only[E8,seval]<;>rfl) (by first|exact .v _|simp only[dN]),_,rfl⟩
 by_cases g3:a.verdict=b.verdict
 case neg =>
  simp only[Z8,seval,qG,qI,bt g1,g2,k1,k2,k3,g3];exact⟨_,bT rfl (by simp only[E8,seval]<;>rfl) (by first|exact .v _|simp only[dN]),_,rfl⟩
 by_cases g4:a.write=b.write
 case neg =>
  simp only[Z8,seval,qG,qI,bt g1,g2,k1,k2,k3,g3,bf g4];exact⟨_,bT rfl (by simp only[E8,seval]<;>rfl) (by first|exact .v _|simp only[dN]),_,rfl⟩
 simp only[Z8,seval,qG,qI,bt g1,g2,k1,k2,k3,g3,bt g4];exact⟨_,bT rfl (by simp only[E8,seval]<;>rfl) (by first|exact .v _|simp only[dN]),_,rfl⟩
theorem aEh (cs:List AV) (o:Nat) (h:32<=cs.length-o):fC Tryz.prog 26 cs o=some (.agg (rd cs o 32)):=by
 have e:fR Tryz.prog 26=some (true,32):=by kernel_rfl
 unfold fC;simp only[e];rw[if_pos ⟨by omega,h⟩]
theorem aAz:tT Tryz.prog 26=some 32:=by kernel_rfl
theorem aN4:dU Tryz.prog 26=some tW:=by kernel_rfl
theorem aN5:jI Tryz.prog 26=some (32,1):=by kernel_rfl
theorem aN6:dI Tryz.prog 26=none:=by kernel_rfl
theorem aN7 (r:cJ) (st:St) (s g o:Nat) (h:st.heap s g=some (.cells (aX r))):dA Tryz.prog st 26 (.ptr s g o) none none=some (.vw s g o 32):=by
 simp only[dA,aN6,aN5,h]
theorem aIq (st:St) (x:AV) {k:IntKind} {i:Int} (h0:0<=i) (h1:i<32):bE Tryz.prog st 26 x (.v (.int k i))=vR x (i.toNat * 1):=JW aN5 st x h0 h1
theorem yB (x:Int):(IntKind.u64.wrap x<0)=False:=by
 refine eq_false ?_
 unfold IntKind.wrap;simp[IntKind.signed,IntKind.bits]
 omega
theorem aTd (w:rC):∃r:cJ,aC Tryz.prog 246 [.agg (gC w)]=some (.agg (aX r)):=by
 suffices h:∃x,aC Tryz.prog 246 [.agg (gC w)]=some x/\∃r:cJ,x=.agg (aX r) by
  obtain⟨x,h,r,rfl⟩:=h;exact⟨r,h⟩
 rw[cL Tryz.func246 rfl aN8 rfl];simp only[Z8,seval,aN4];refine cB (fun m st=>∃(k:Nat) (r:cJ),(st.env 1=.ptr 1 0 0/\st.heap 1 0=some (.cells (gC w))/\st.env 3=.ptr 3 0 0/\st.heap 3 0=some (.cells (aX r))/\st.env 2=.ptr 2 0 0/\st.heap 2 0=some (.cells (aX dK))/\st.env 4=.v (.int .i64 k))/\k<=32/\m=32-k)
  (fun e st=>e=.exit 0/\∃r:cJ,st.env 3=.ptr 3 0 0/\st.heap 3 0=some (.cells (aX r))/\st.env 2=.ptr 2 0 0/\st.heap 2 0=some (.cells (aX dK))) 32 ?step ?start ?rest
 case step =>
  rintro m st ⟨k,r,hI,hk,hm⟩
  by_cases aZ:(k:Int)<32
  ·have q0:(0:Int)<=k:=by omega
   have hw:IntKind.i64.wrap ((k:Int)+1)=((k+1:Nat):Int):=by rw[pM _ (by omega) (by omega)];omega
   obtain⟨i,hi⟩:∃i:Int,i=31-(k:Int):=⟨_,rfl⟩
   have hi1:IntKind.i64.wrap (31-(k:Int))=i:=by rw[pM _ (by omega) (by omega),hi]
   have i0:0<=i:=by omega
   have i1:i<32:=by omega
   have hj:IntKind.i64.wrap ((k:Int).tdiv 8)=(k:Int) / 8:=by rw[Int.tdiv_eq_ediv_of_nonneg q0,pM _ (by omega) (by omega)]
   have j0:0<=(k:Int) / 8:=by omega
   have j1:(k:Int) / 8<4:=by omega
   have i31:i.toNat<=31:=by omega
   have gw:=Tg w j0 j1
   have Zp:=fun x=>Zk r i.toNat (i.toNat+1) x (by omega) rfl
   apply oN (32-(k+1))
   ·simp only[Z8,seval,hI,aZ,q0,hi1,i0,i1,hj,j0,j1,Iw,aIq,gw,i31,Zp,yB,Nat.mul_one,hw];rfl
   ·exact⟨k+1,_,by simp only[E8,seval,hI]<;>rfl,by omega,rfl⟩
  ·apply oT (.exit 0)
   ·simp only[Z8,seval,hI,aZ];rfl
   ·exact⟨rfl,r,by simp only[E8,seval,hI]⟩
 case start=>exact⟨0,dK,by simp only[E8,seval]<;>rfl,by omega,by omega⟩
 case rest =>
  rintro e st ⟨rfl,r,hI⟩
  simp only[Z8,seval,hI,aEh,aAz];exact⟨_,fK rfl (by simp only[E8,seval,hI,aEh,aAz]<;>rfl) (by simp only[Z8,seval,hI,aEh,aAz]<;>rfl) (by simp only[dN,and_self,hI,aEh,aAz]),r,rfl⟩
theorem aTe (w:rC):∃r:cJ,∀(st:St) (d:Option Nat),aN (aC Tryz.prog) 246 [.agg (gC w)] st d=some { dst:=d,val:=.agg (aX r)}:=by
 obtain⟨r,h⟩:=aTd w
 exact⟨r,kx h (cT (.agg _ (iN w))) (qS r)⟩
theorem aN9 (x:rC):Wr 227 [.agg (gC x)] 32:=by
 intro l hl;suffices h:∃r,aC Tryz.prog 227 [.uniq 5 1 l.length (kH l),.agg (gC x)]=some r/\∃m:List Int,r=.uniq 5 1 m.length (kH m)/\(m.length:Int)<=l.length+32 by
  obtain⟨r,h,m,rfl,h2⟩:=h;exact⟨m,h,h2⟩
 have Ta:(l.length:Int)<1000000:=by omega
 obtain⟨r,kr⟩:=aTe x
 have hr:(r.toList.length:Int)<1000000:=by simp
 rw[Qq Tryz.prog Tryz.func227 rfl aOa _ _ _ _ _ (sV _ _)];simp only[Z8,seval,mJ,oJ,mK,mL,oK,kr,aN4,aAz,aN7 r,aAv _ _ _ r,YF _ _ _ _ Ta hr];exact⟨_,Am (.inl rfl) rfl (by simp only[E8,seval]<;>rfl) (by simp only[E8,seval]<;>rfl) (An _),_,rfl,by rw[List.length_append];simp⟩
theorem aTf (b:Bool):Wr 229 [.v (.bool b)] 1:=by
 intro l hl;suffices h:∃r,aC Tryz.prog 229 [.uniq 5 1 l.length (kH l),.v (.bool b)]=some r/\∃m:List Int,r=.uniq 5 1 m.length (kH m)/\(m.length:Int)<=l.length+1 by
  obtain⟨r,h,m,rfl,h2⟩:=h;exact⟨m,h,h2⟩
 have Ta:(l.length:Int)<1000000:=by omega
 rw[Qq Tryz.prog Tryz.func229 rfl aOb _ _ _ _ _ (sV _ _)];cases b
 all_goals
  simp only[Z8,seval,mJ,oJ,mK,mL,oK,Nz _ _ _ _ Ta];exact⟨_,Am (.inl rfl) rfl (by simp only[E8,seval]<;>rfl) (by simp only[E8,seval]<;>rfl) (An _),_,rfl,by rw[List.length_append,List.length_cons,List.length_nil];omega⟩
theorem jX (x:Int):Rg (IntKind.u64.wrap x):=by
 unfold Rg IntKind.wrap;simp[IntKind.signed,IntKind.bits]
 omega
theorem aIr (V:Option (List Int)) (nV:((ol V).length:Int)<=1000):Wr 230 [ov aI V] 10010:=by
 intro l hl;suffices h:∃r,aC Tryz.prog 230 [.uniq 5 1 l.length (kH l),ov aI V]=some r/\∃m:List Int,r=.uniq 5 1 m.length (kH m)/\(m.length:Int)<=l.length+10010 by
  obtain⟨r,h,m,rfl,h2⟩:=h;exact⟨m,h,h2⟩
 obtain⟨m1,e1,b1⟩:=(AR _ (jX ((ol V).length:Int))).at (cT (.v _)) (l:=l) (by omega)
 rw[Qq Tryz.prog Tryz.func230 rfl aOc _ _ _ _ _ (sV _ _)];simp only[Z8,seval,mJ,oJ,mK,mL,oK,e1];refine cB (fun m st=>∃(k:Nat) (p:List Int) (a g:Nat),(st.env 0=.own a g/\st.heap a g=some (.row 5 1 p.length (kH p))/\st.env 1=ov aI V/\st.env 5=.v (.int .i64 k))/\((a=10/\g<st.aK 10)\/(a=24/\g<st.aK 24)\/(a=38/\g<st.aK 38))/\(p.length:Int)<=l.length+10+10 * k/\k<=(ol V).length/\m=(ol V).length-k)
  (fun e st=>e=.exit 0/\∃(p:List Int) (a g:Nat),(st.env 0=.own a g/\st.heap a g=some (.row 5 1 p.length (kH p)))/\(p.length:Int)<=l.length+10010) (ol V).length ?step ?start ?rest
 case step =>
  rintro m st ⟨k,p,a,g,hI,KL,hp,hk,hm⟩
  by_cases aZ:(k:Int)<(ol V).length
  ·have q0:(0:Int)<=k:=by omega
   have hw:IntKind.i64.wrap ((k:Int)+1)=((k+1:Nat):Int):=by rw[pM _ (by omega) (by omega)];omega
   have fin:∀(p':List Int),(p'.length:Int)<=p.length+10->(p'.length:Int)<=l.length+10+10 * ((k+1:Nat):Int):=fun p' h=>by omega
   by_cases h1:(k:Int)=0
   ·have z0:(0:Int)<((ol V).length:Int):=by omega
    have z1:(0:Int)<=0:=by omega
    obtain⟨p',e2,b2⟩:=(AR _ (jX (gx (0:Int) (ol V) (0:Int)))).at (cT (.v _)) (l:=p) (by omega)
    rcases KL with ⟨rfl,hg⟩|⟨rfl,hg⟩|⟨rfl,hg⟩
    ·apply oN ((ol V).length-(k+1))
     ·simp only[Z8,seval,hI,aZ,q0,bt h1,z0,z1,e2,hw];rfl
     ·exact⟨k+1,p',_,_,⟨by simp only[E8,seval]<;>rfl,by simp only[E8,seval]<;>rfl,by simp only[E8,seval,hI],by simp only[E8,seval]⟩,.inr (.inl ⟨rfl,by simp only[E8,seval]<;>omega⟩),fin p' b2,by omega,rfl⟩
    ·have wB:(g=st.aK 24)=False:=eq_false (by omega)
     apply oN ((ol V).length-(k+1))
     ·simp only[Z8,seval,hI,wB,aZ,q0,bt h1,z0,z1,e2,hw];rfl
     ·exact⟨k+1,p',_,_,⟨by simp only[E8,seval]<;>rfl,by simp only[E8,seval]<;>rfl,by simp only[E8,seval,hI],by simp only[E8,seval]⟩,.inr (.inl ⟨rfl,by simp only[E8,seval]<;>omega⟩),fin p' b2,by omega,rfl⟩
    ·apply oN ((ol V).length-(k+1))
     ·simp only[Z8,seval,hI,aZ,q0,bt h1,z0,z1,e2,hw];rfl
     ·exact⟨k+1,p',_,_,⟨by simp only[E8,seval]<;>rfl,by simp only[E8,seval]<;>rfl,by simp only[E8,seval,hI],by simp only[E8,seval]⟩,.inr (.inl ⟨rfl,by simp only[E8,seval]<;>omega⟩),fin p' b2,by omega,rfl⟩
   ·have K6:IntKind.i64.wrap ((k:Int)-1)=(k:Int)-1:=pM _ (by omega) (by omega)
    have y0:(0:Int)<=(k:Int)-1:=by omega
    have y1:(k:Int)-1<((ol V).length:Int):=by omega
    obtain⟨p',e2,b2⟩:=(AR _ (jX (IntKind.i64.wrap (IntKind.i64.wrap (gx (0:Int) (ol V) (k:Int)-gx (0:Int) (ol V) ((k:Int)-1))-1)))).at (cT (.v _)) (l:=p) (by omega)
    rcases KL with ⟨rfl,hg⟩|⟨rfl,hg⟩|⟨rfl,hg⟩
    ·apply oN ((ol V).length-(k+1))
     ·simp only[Z8,seval,hI,aZ,q0,bf h1,K6,y0,y1,e2,hw];rfl
     ·exact⟨k+1,p',_,_,⟨by simp only[E8,seval]<;>rfl,by simp only[E8,seval]<;>rfl,by simp only[E8,seval,hI],by simp only[E8,seval]⟩,.inr (.inr ⟨rfl,by simp only[E8,seval]<;>omega⟩),fin p' b2,by omega,rfl⟩
    ·apply oN ((ol V).length-(k+1))
     ·simp only[Z8,seval,hI,aZ,q0,bf h1,K6,y0,y1,e2,hw];rfl
     ·exact⟨k+1,p',_,_,⟨by simp only[E8,seval]<;>rfl,by simp only[E8,seval]<;>rfl,by simp only[E8,seval,hI],by simp only[E8,seval]⟩,.inr (.inr ⟨rfl,by simp only[E8,seval]<;>omega⟩),fin p' b2,by omega,rfl⟩
    ·have wB:(g=st.aK 38)=False:=eq_false (by omega)
     apply oN ((ol V).length-(k+1))
     ·simp only[Z8,seval,hI,wB,aZ,q0,bf h1,K6,y0,y1,e2,hw];rfl
     ·exact⟨k+1,p',_,_,⟨by simp only[E8,seval]<;>rfl,by simp only[E8,seval]<;>rfl,by simp only[E8,seval,hI],by simp only[E8,seval]⟩,.inr (.inr ⟨rfl,by simp only[E8,seval]<;>omega⟩),fin p' b2,by omega,rfl⟩
  ·apply oT (.exit 0)
   ·simp only[Z8,seval,hI,aZ];rfl
   ·exact⟨rfl,p,a,g,by simp only[E8,seval,hI],by omega⟩
 case start=>exact⟨0,m1,10,0,by and_intros<;>(simp only[E8,seval,mJ,oJ,mK,mL,oK]<;>rfl),.inl ⟨rfl,by simp only[E8,seval,mJ,oJ,mK,mL,oK]<;>omega⟩,by omega,by omega,by omega⟩
 case rest =>
  rintro e st ⟨rfl,p,a,g,hI,hp⟩
  simp only[Z8,seval,hI];exact⟨_,Am (.inl rfl) rfl (by simp only[E8,seval]<;>rfl) (by simp only[E8,seval,hI]<;>rfl) (An _),_,rfl,hp⟩
theorem aTg (c:Claim) (V:Option (List Int)) (hV:c.eU=ov aI V) (nV:((ol V).length:Int)<=1000) (h1:Rg c.source) (h2:Rg c.target):Wr 231 [.agg (gN c)] 10100:=by
 intro l hl;suffices h:∃r,aC Tryz.prog 231 [.uniq 5 1 l.length (kH l),.agg (gN c)]=some r/\∃m:List Int,r=.uniq 5 1 m.length (kH m)/\(m.length:Int)<=l.length+10100 by
  obtain⟨r,h,m,rfl,h2⟩:=h;exact⟨m,h,h2⟩
 obtain⟨m1,e1,b1⟩:=(AR c.source h1).at (cT (.v _)) (l:=l) (by omega)
 obtain⟨m2,e2,b2⟩:=(AR c.target h2).at (cT (.v _)) (l:=m1) (by omega)
 obtain⟨m3,e3,b3⟩:=(KM c.root).at (cT (qS _)) (l:=m2) (by omega)
 obtain⟨m4,e4,b4⟩:=(aIr V nV).at (cT (bR V)) (l:=m3) (by omega)
 rw[D7 Tryz.prog Tryz.func231 rfl aGY (by kernel_rfl) _ _ _ _ _ (sV _ _)]
 simp only[ZG,seval,aGZ,mJ,oJ,mK,mL,oK,e1,e2,e3,e4,hV,Cb,Cc,Iz,Ja];exact⟨_,Am (.inl rfl) rfl (by simp only[E8,seval]<;>rfl) (by simp only[E8,seval]<;>rfl) (An _),_,rfl,by omega⟩
theorem aTh (c:Claim) (V:Option (List Int)) (hV:c.eU=ov aI V) (nV:((ol V).length:Int)<=1000) (h1:Rg c.source) (h2:Rg c.target):WrN 231 [.agg (gN c)] 10100:=by
 suffices h:∃r,aC Tryz.prog 231 [.v (.slice none 0 0),.agg (gN c)]=some r/\∃m:List Int,r=.uniq 5 1 m.length (kH m)/\(m.length:Int)<=10100 by
  obtain⟨r,h,m,rfl,h2⟩:=h;exact⟨m,h,h2⟩
 obtain⟨m1,e1,b1⟩:=(M9 c.source h1).at (cT (.v _))
 obtain⟨m2,e2,b2⟩:=(AR c.target h2).at (cT (.v _)) (l:=m1) (by omega)
 obtain⟨m3,e3,b3⟩:=(KM c.root).at (cT (qS _)) (l:=m2) (by omega)
 obtain⟨m4,e4,b4⟩:=(aIr V nV).at (cT (bR V)) (l:=m3) (by omega)
 rw[cG Tryz.func231 rfl aGY (by kernel_rfl) rfl]
 simp only[ZG,seval,aGZ,e1,e2,e3,e4,hV,Cb,Cc,Iz,Ja];exact⟨_,tH rfl (by simp only[E8,seval]<;>rfl) (by simp only[E8,seval]<;>rfl) (wC _),_,rfl,by omega⟩
theorem aTi (x:Block) (h:RB x):WrN 210 [.agg (aT x)] 400:=by
 suffices h:∃r,aC Tryz.prog 210 [.v (.slice none 0 0),.agg (aT x)]=some r/\∃m:List Int,r=.uniq 5 1 m.length (kH m)/\(m.length:Int)<=400 by
  obtain⟨r,h,m,rfl,h2⟩:=h;exact⟨m,h,h2⟩
 obtain⟨m1,e1,b1⟩:=(M9 x.slot h.sl).at (cT (.v _))
 obtain⟨m2,e2,b2⟩:=(KM x.root).at (cT (qS _)) (l:=m1) (by omega)
 obtain⟨m3,e3,b3⟩:=(KM x.parent).at (cT (qS _)) (l:=m2) (by omega)
 obtain⟨m4,e4,b4⟩:=(KM x.jK).at (cT (qS _)) (l:=m3) (by omega)
 obtain⟨m5,e5,b5⟩:=(aN9 x.diff).at (cT (.agg _ (iN _))) (l:=m4) (by omega)
 obtain⟨m6,e6,b6⟩:=(aN9 x.IA).at (cT (.agg _ (iN _))) (l:=m5) (by omega)
 obtain⟨m7,e7,b7⟩:=(aAw x.gX h.j).at (cT (.agg _ (dB _))) (l:=m6) (by omega)
 obtain⟨m8,e8,b8⟩:=(aAw x.fin h.f).at (cT (.agg _ (dB _))) (l:=m7) (by omega)
 obtain⟨m9,e9,b9⟩:=(aAw x.dL.pj h.pj).at (cT (.agg _ (dB _))) (l:=m8) (by omega)
 obtain⟨m10,e10,b10⟩:=(aAw x.dL.pf h.pf).at (cT (.agg _ (dB _))) (l:=m9) (by omega)
 obtain⟨m11,e11,b11⟩:=(aTf x.Gj).at (cT (.v _)) (l:=m10) (by omega)
 rw[cG Tryz.func210 rfl aOd (by kernel_rfl) rfl]
 simp only[ZG,seval,aOe,e1,e2,e3,e4,e5,e6,e7,e8,e9,e10,e11];exact⟨_,tH rfl (by simp only[E8,seval]<;>rfl) (by simp only[E8,seval]<;>rfl) (wC _),_,rfl,by omega⟩
def yC (r:AV):Prop:=∃(o:Option (List Int)) (e:Int),r=.dX [ov kH o,.v (.int .i64 e)]
theorem yC.none (e:Int):yC (.dX [.v (.slice none 0 0),.v (.int .i64 e)]):=⟨Option.none,e,rfl⟩
theorem yC.some (l:List Int) (e:Int):yC (.dX [.sl l.length (kH l),.v (.int .i64 e)]):=⟨Option.some l,e,rfl⟩
theorem aTj (a:sP) (V:Option (List Int)) (hV:a.eU=ov aI V) (nV:((ol V).length:Int)<=1000) (h1:Rg a.slot) (h2:Rg a.target.aL):∃r,aC Tryz.prog 211 [.agg (gZ a)]=some r/\yC r:=by
 have OR:=kx (c40 V (by omega) 1024) (bH (bR V) (.v _)) (.v _)
 obtain⟨e,he⟩:∃e,EK (ol V) 1024=e:=⟨_,rfl⟩
 rw[he] at OR;obtain⟨m1,e1,b1⟩:=(M9 a.slot h1).at (cT (.v _))
 obtain⟨m2,e2,b2⟩:=(KM a.root).at (cT (qS _)) (l:=m1) (by omega)
 obtain⟨m3,e3,b3⟩:=(aAw a.target h2).at (cT (.agg _ (dB _))) (l:=m2) (by omega)
 obtain⟨m4,e4,b4⟩:=(aIr V nV).at (cT (bR V)) (l:=m3) (by omega)
 rw[cG Tryz.func211 rfl aOf (by kernel_rfl) rfl]
 by_cases g:e=0
 ·simp only[ZG,seval,aG0,hV,OR,bt g,e1,e2,e3,e4,Cb,Cc,Iz,Ja];exact⟨_,dJ rfl rfl rfl (by simp only[E8,seval,Ea]<;>rfl) (by simp only[E8,seval,Ea]<;>rfl),yC.some _ _⟩
 ·simp only[ZG,seval,aG0,hV,OR,bf g];exact⟨_,dJ rfl rfl rfl (by simp only[E8,seval]<;>rfl) (by simp only[E8,seval]<;>rfl),yC.none _⟩
theorem aTk (a:fY) (h1:xL a.first) (h2:xL a.second) (r1:Rg a.first.source) (r2:Rg a.first.target) (r3:Rg a.second.source) (r4:Rg a.second.target):∃r,aC Tryz.prog 212 [.agg (bZ a)]=some r/\yC r:=by
 obtain⟨V,hV,nV⟩:=id h1
 obtain⟨W,hW,nW⟩:=id h2
 have kV:=kx (c40 V (by omega) 1024) (bH (bR V) (.v _)) (.v _)
 have kW:=kx (c40 W (by omega) 1024) (bH (bR W) (.v _)) (.v _)
 obtain⟨ev,EL⟩:∃e,EK (ol V) 1024=e:=⟨_,rfl⟩
 obtain⟨ew,hew⟩:∃e,EK (ol W) 1024=e:=⟨_,rfl⟩
 rw[EL] at kV;rw[hew] at kW;obtain⟨m1,e1,b1⟩:=(aTh a.first V hV nV r1 r2).at (cT h1.fl)
 obtain⟨m2,e2,b2⟩:=(aTg a.second W hW nW r3 r4).at (cT h2.fl) (l:=m1) (by omega)
 rw[cL Tryz.func212 rfl aOg rfl];by_cases g1:ev=0
 case neg =>
  simp only[Z8,seval,hV,hW,kV,bf g1];exact⟨_,dJ rfl rfl rfl (by simp only[E8,seval]<;>rfl) (by simp only[E8,seval]<;>rfl),yC.none _⟩
 by_cases g2:ew=0
 case neg =>
  simp only[Z8,seval,hV,hW,kV,kW,bt g1,bf g2];exact⟨_,dJ rfl rfl rfl (by simp only[E8,seval]<;>rfl) (by simp only[E8,seval]<;>rfl),yC.none _⟩
 simp only[Z8,seval,hV,hW,kV,kW,bt g1,bt g2,e1,e2];exact⟨_,dJ rfl rfl rfl (by simp only[E8,seval,Ea]<;>rfl) (by simp only[E8,seval,Ea]<;>rfl),yC.some _ _⟩
theorem aTl (t:Table) (b:Option (List Int)) (hb:t.jQ=ov bD b) (nb:((ol b).length:Int)<=1000) (rb:∀y∈ol b,Rg y) (rt:Rg t.ck.aL):∃r,aC Tryz.prog 213 [.agg (cF t)]=some r/\yC r:=by
 have hfT:Flat (.agg (cF t)):=(kK t).2 (by rw[hb];exact dP b)
 obtain⟨m1,e1,b1⟩:=(M9 t.ck.aL rt).at (cT (.v _))
 obtain⟨m2,e2,b2⟩:=(KM t.ck.root).at (cT (qS _)) (l:=m1) (by omega)
 obtain⟨m3,e3,b3⟩:=(AR _ (jX ((ol b).length:Int))).at (cT (.v _)) (l:=m2) (by omega)
 rw[cG Tryz.func213 rfl aOh (by kernel_rfl) rfl]
 have g1:¬(1024:Int)<((ol b).length:Int):=by omega
 simp only[ZG,seval,QM,hb,g1,e1,e2,e3,Cb,Cc,Iz,Ja];refine mD (fun m st=>∃(k:Nat) (p:List Int) (a g:Nat),(st.env 1=.ptr 1 0 0/\st.heap 1 0=some (.cells (cF t))/\st.env 4=.own a g/\st.heap a g=some (.row 5 1 p.length (kH p))/\st.env 5=.v (.int .i64 k))/\((a=22/\g=0)\/(a=36/\g<st.aK 36))/\(p.length:Int)<=100+10 * k/\k<=(ol b).length/\m=(ol b).length-k)
  (fun e st=>e=.exit 0/\∃(p:List Int) (a g:Nat),st.env 4=.own a g/\st.heap a g=some (.row 5 1 p.length (kH p))) (ol b).length ?step ?start ?rest
 case step =>
  rintro m st ⟨k,p,a,g,hI,KL,hp,hk,hm⟩
  by_cases aZ:(k:Int)<(ol b).length
  ·have q0:(0:Int)<=k:=by omega
   have hw:IntKind.i64.wrap ((k:Int)+1)=((k+1:Nat):Int):=by rw[pM _ (by omega) (by omega)];omega
   obtain⟨p',e4,b4⟩:=(AR _ (rb _ (uM (z:=(0:Int)) q0 aZ))).at (cT (.v _)) (l:=p) (by omega)
   rcases KL with ⟨rfl,rfl⟩|⟨rfl,hg⟩
   ·apply Ge ((ol b).length-(k+1))
    ·simp only[ZG,seval,QM,hI,aZ,q0,hb,e4,hw];rfl
    ·exact⟨k+1,p',36,_,⟨by simp only[E8,seval,hI],by simp only[E8,seval,hI],by simp only[E8,seval]<;>rfl,by simp only[E8,seval]<;>rfl,by simp only[E8,seval]⟩,.inr ⟨rfl,by simp only[E8,seval]<;>omega⟩,by omega,by omega,rfl⟩
   ·have wB:(g=st.aK 36)=False:=eq_false (by omega)
    apply Ge ((ol b).length-(k+1))
    ·simp only[ZG,seval,QM,hI,wB,aZ,q0,hb,e4,hw];rfl
    ·exact⟨k+1,p',36,_,⟨by simp only[E8,seval,hI],by simp only[E8,seval,hI],by simp only[E8,seval]<;>rfl,by simp only[E8,seval]<;>rfl,by simp only[E8,seval]⟩,.inr ⟨rfl,by simp only[E8,seval]<;>omega⟩,by omega,by omega,rfl⟩
  ·apply OS (.exit 0)
   ·simp only[ZG,seval,QM,hI,aZ,hb];rfl
   ·exact⟨rfl,p,a,g,by simp only[E8,seval,hI],by simp only[E8,seval,hI]⟩
 case start=>exact⟨0,m3,22,0,by and_intros<;>(simp only[E8,seval]<;>rfl),.inl ⟨rfl,rfl⟩,by omega,by omega,by omega⟩
 case rest =>
  rintro e st ⟨rfl,p,a,g,h4,hh⟩
  simp only[ZG,seval,QM,h4,hh];exact⟨_,dJ rfl rfl rfl (by simp only[E8,seval,h4,hh,Ea]<;>rfl) (by simp only[E8,seval,h4,hh,Ea]<;>rfl),yC.some _ _⟩
theorem aTm (v:gO) (h:Rg v.tagged.tag):∃r,aC Tryz.prog 214 [.agg (dD v)]=some r/\yC r:=by
 obtain⟨m1,e1,b1⟩:=(M9 v.tagged.tag h).at (cT (.v _))
 obtain⟨m2,e2,b2⟩:=(AR _ (jX v.kind)).at (cT (.v _)) (l:=m1) (by omega)
 obtain⟨m3,e3,b3⟩:=(KM v.dO).at (cT (qS _)) (l:=m2) (by omega)
 rw[cG Tryz.func214 rfl aOi (by kernel_rfl) rfl]
 by_cases g1:v.kind<1
 ·simp only[ZG,seval,aAA,g1];exact⟨_,dJ rfl rfl rfl (by simp only[E8,seval]<;>rfl) (by simp only[E8,seval]<;>rfl),yC.none _⟩
 by_cases g2:4<v.kind
 ·simp only[ZG,seval,aAA,g1,g2];exact⟨_,dJ rfl rfl rfl (by simp only[E8,seval]<;>rfl) (by simp only[E8,seval]<;>rfl),yC.none _⟩
 simp only[ZG,seval,aAA,g1,g2,e1,e2,e3];exact⟨_,dJ rfl rfl rfl (by simp only[E8,seval,Ea]<;>rfl) (by simp only[E8,seval,Ea]<;>rfl),yC.some _ _⟩
theorem aTn (x:xU) (h:pH x):∃r,aC Tryz.prog 200 [.agg (kX x)]=some r/\yC r:=by
 have lK:=h.fl
 obtain⟨V,hV,nV⟩:=h.Hp
 obtain⟨b,hb,nb,rb⟩:=h.YG
 obtain⟨m1,e1,b1⟩:=(aTi x.block h.rb).at (cT (vJ _))
 obtain⟨r2,e2,o2,f2,rfl⟩:=aTj x.Hp V hV nV h.ra.1 h.ra.2
 obtain⟨r3,e3,o3,f3,rfl⟩:=aTk x.oX h.c1 h.c2 h.rs.1 h.rs.2.1 h.rs.2.2.1 h.rs.2.2.2
 obtain⟨r4,e4,o4,f4,rfl⟩:=aTl x.table b hb nb rb h.rt
 obtain⟨r5,e5,o5,f5,rfl⟩:=aTm x.verdict h.rv
 have k2:=kx e2 (cT ((Ah _).2 lK.1)) (.dX _ (bH (zK _) (.v _)))
 have k3:=kx e3 (cT ((nF _).2 ⟨lK.2.1,lK.2.2.1⟩)) (.dX _ (bH (zK _) (.v _)))
 have k4:=kx e4 (cT ((kK _).2 lK.2.2.2)) (.dX _ (bH (zK _) (.v _)))
 have k5:=kx e5 (cT (.agg _ (jT _))) (.dX _ (bH (zK _) (.v _)))
 obtain⟨m6,e6,b6⟩:=(M9 _ (jX x.write)).at (cT (.v _))
 obtain⟨m7,e7,b7⟩:=(AR _ (jX x.pY)).at (cT (.v _)) (l:=m6) (by omega)
 rw[cL Tryz.func200 rfl aOj rfl];by_cases g2:x.kind=2
 ·simp only[Z8,seval,bt g2,e1];exact⟨_,dJ rfl rfl rfl (by simp only[E8,seval,Ea]<;>rfl) (by simp only[E8,seval,Ea]<;>rfl),yC.some _ _⟩
 by_cases g3:x.kind=3
 ·simp only[Z8,seval,bf g2,bt g3,k2,eC];exact⟨_,dJ rfl rfl rfl (by simp only[E8,seval,rX]<;>rfl) (by simp only[E8,seval,rX]<;>rfl),_,_,rfl⟩
 by_cases g4:x.kind=4
 ·simp only[Z8,seval,bf g2,bf g3,bt g4,k3,eC];exact⟨_,dJ rfl rfl rfl (by simp only[E8,seval,rX]<;>rfl) (by simp only[E8,seval,rX]<;>rfl),_,_,rfl⟩
 by_cases g5:x.kind=5
 ·simp only[Z8,seval,bf g2,bf g3,bf g4,bt g5,k4,eC];exact⟨_,dJ rfl rfl rfl (by simp only[E8,seval,rX]<;>rfl) (by simp only[E8,seval,rX]<;>rfl),_,_,rfl⟩
 by_cases g6:x.kind=6
 ·simp only[Z8,seval,bf g2,bf g3,bf g4,bf g5,bt g6,k5,eC];exact⟨_,dJ rfl rfl rfl (by simp only[E8,seval,rX]<;>rfl) (by simp only[E8,seval,rX]<;>rfl),_,_,rfl⟩
 by_cases g8:x.kind=8
 case neg =>
  simp only[Z8,seval,bf g2,bf g3,bf g4,bf g5,bf g6,bf g8];exact⟨_,dJ rfl rfl rfl (by simp only[E8,seval]<;>rfl) (by simp only[E8,seval]<;>rfl),yC.none _⟩
 by_cases w1:x.write<0
 ·simp only[Z8,seval,bf g2,bf g3,bf g4,bf g5,bf g6,bt g8,w1];exact⟨_,dJ rfl rfl rfl (by simp only[E8,seval]<;>rfl) (by simp only[E8,seval]<;>rfl),yC.none _⟩
 by_cases w2:32768<x.write
 ·simp only[Z8,seval,bf g2,bf g3,bf g4,bf g5,bf g6,bt g8,w1,w2];exact⟨_,dJ rfl rfl rfl (by simp only[E8,seval]<;>rfl) (by simp only[E8,seval]<;>rfl),yC.none _⟩
 by_cases w3:x.pY<0
 ·simp only[Z8,seval,bf g2,bf g3,bf g4,bf g5,bf g6,bt g8,w1,w2,w3];exact⟨_,dJ rfl rfl rfl (by simp only[E8,seval]<;>rfl) (by simp only[E8,seval]<;>rfl),yC.none _⟩
 by_cases w4:32768<x.pY
 ·simp only[Z8,seval,bf g2,bf g3,bf g4,bf g5,bf g6,bt g8,w1,w2,w3,w4];exact⟨_,dJ rfl rfl rfl (by simp only[E8,seval]<;>rfl) (by simp only[E8,seval]<;>rfl),yC.none _⟩
 simp only[Z8,seval,bf g2,bf g3,bf g4,bf g5,bf g6,bt g8,w1,w2,w3,w4,e6,e7];exact⟨_,dJ rfl rfl rfl (by simp only[E8,seval,Ea]<;>rfl) (by simp only[E8,seval,Ea]<;>rfl),yC.some _ _⟩
theorem D9:Rg 0:=⟨by omega,by omega⟩
theorem zOk:pH Ao:=⟨⟨none,rfl,by simp[ol]⟩,⟨none,rfl,by simp[ol]⟩,⟨none,rfl,by simp[ol]⟩,⟨none,rfl,by simp[ol],by simp[ol]⟩,⟨D9,D9,D9,D9,D9⟩,⟨D9,D9⟩,⟨D9,D9,D9,D9⟩,D9,D9⟩
theorem aTo (x:xU) (h:pH x):∃r,aC Tryz.prog 184 [.agg (kX x)]=some r/\∃e:Int,r=.v (.int .i64 e):=by
 have z:=zOk
 have hf:=h.flat
 obtain⟨r1,e1,o1,e,rfl⟩:=aTn x h
 have QN:=kx e1 (cT hf) (.dX _ (bH (zK _) (.v _)))
 rw[cG Tryz.func184 rfl aOk (by kernel_rfl) rfl]
 by_cases g1:x.kind<1
 ·simp only[ZG,seval,Mr,g1];exact⟨_,bT rfl (by simp only[E8,seval]<;>rfl) (by first|exact .v _|simp only[dN]),_,rfl⟩
 by_cases g9:8<x.kind
 ·simp only[ZG,seval,Mr,g1,g9];exact⟨_,bT rfl (by simp only[E8,seval]<;>rfl) (by first|exact .v _|simp only[dN]),_,rfl⟩
 by_cases g0:e=0
 case neg =>
  simp only[ZG,seval,Mr,g1,g9,QN,eC,bf g0];exact⟨_,bT rfl (by simp only[E8,seval]<;>rfl) (by first|exact .v _|simp only[dN]),_,rfl⟩
 by_cases k2:x.kind=2
 ·have hy:pH { Ao with kind:=x.kind,block:=x.block }:=⟨z.Hp,z.c1,z.c2,z.YG,h.rb,z.ra,z.rs,z.rt,z.rv⟩
  obtain⟨r2,e2,B,rfl⟩:=YH x { Ao with kind:=x.kind,block:=x.block } h hy
  have Tq:=kx e2 (bH hf hy.flat) (.v _)
  have KE:=h.fl
  cases B
  all_goals
   simp only[ZG,seval,Mr,g1,g9,QN,eC,bt g0,bt k2,Tq,Cb,Cc,Iz,Ja];exact⟨_,bT rfl (by simp only[E8,seval]<;>rfl) (by first|exact .v _|simp only[dN]),_,rfl⟩
 by_cases k3:x.kind=3
 ·have hy:pH { Ao with kind:=x.kind,Hp:=x.Hp }:=⟨h.Hp,z.c1,z.c2,z.YG,z.rb,h.ra,z.rs,z.rt,z.rv⟩
  obtain⟨r2,e2,B,rfl⟩:=YH x { Ao with kind:=x.kind,Hp:=x.Hp } h hy
  have Tq:=kx e2 (bH hf hy.flat) (.v _)
  have KE:=h.fl
  cases B
  all_goals
   simp only[ZG,seval,Mr,g1,g9,QN,eC,bt g0,bf k2,bt k3,Tq,Cb,Cc,Iz,Ja];exact⟨_,bT rfl (by simp only[E8,seval]<;>rfl) (by first|exact .v _|simp only[dN]),_,rfl⟩
 by_cases k4:x.kind=4
 ·have hy:pH { Ao with kind:=x.kind,oX:=x.oX }:=⟨z.Hp,h.c1,h.c2,z.YG,z.rb,z.ra,h.rs,z.rt,z.rv⟩
  obtain⟨r2,e2,B,rfl⟩:=YH x { Ao with kind:=x.kind,oX:=x.oX } h hy
  have Tq:=kx e2 (bH hf hy.flat) (.v _)
  have KE:=h.fl
  cases B
  all_goals
   simp only[ZG,seval,Mr,g1,g9,QN,eC,bt g0,bf k2,bf k3,bt k4,Tq,Cb,Cc,Iz,Ja];exact⟨_,bT rfl (by simp only[E8,seval]<;>rfl) (by first|exact .v _|simp only[dN]),_,rfl⟩
 by_cases k5:x.kind=5
 ·have hy:pH { Ao with kind:=x.kind,table:=x.table }:=⟨z.Hp,z.c1,z.c2,h.YG,z.rb,z.ra,z.rs,h.rt,z.rv⟩
  obtain⟨r2,e2,B,rfl⟩:=YH x { Ao with kind:=x.kind,table:=x.table } h hy
  have Tq:=kx e2 (bH hf hy.flat) (.v _)
  have KE:=h.fl
  cases B
  all_goals
   simp only[ZG,seval,Mr,g1,g9,QN,eC,bt g0,bf k2,bf k3,bf k4,bt k5,Tq,Cb,Cc,Iz,Ja];exact⟨_,bT rfl (by simp only[E8,seval]<;>rfl) (by first|exact .v _|simp only[dN]),_,rfl⟩
 by_cases k6:x.kind=6
 ·have hy:pH { Ao with kind:=x.kind,verdict:=x.verdict }:=⟨z.Hp,z.c1,z.c2,z.YG,z.rb,z.ra,z.rs,z.rt,h.rv⟩
  obtain⟨r2,e2,B,rfl⟩:=YH x { Ao with kind:=x.kind,verdict:=x.verdict } h hy
  have Tq:=kx e2 (bH hf hy.flat) (.v _)
  have KE:=h.fl
  cases B
  all_goals
   simp only[ZG,seval,Mr,g1,g9,QN,eC,bt g0,bf k2,bf k3,bf k4,bf k5,bt k6,Tq,Cb,Cc,Iz,Ja];exact⟨_,bT rfl (by simp only[E8,seval]<;>rfl) (by first|exact .v _|simp only[dN]),_,rfl⟩
 by_cases k8:x.kind=8
 ·have hy:pH { Ao with kind:=x.kind,write:=x.write,pY:=x.pY }:=⟨z.Hp,z.c1,z.c2,z.YG,z.rb,z.ra,z.rs,z.rt,z.rv⟩
  obtain⟨r2,e2,B,rfl⟩:=YH x { Ao with kind:=x.kind,write:=x.write,pY:=x.pY } h hy
  have Tq:=kx e2 (bH hf hy.flat) (.v _)
  have KE:=h.fl
  cases B
  all_goals
   simp only[ZG,seval,Mr,g1,g9,QN,eC,bt g0,bf k2,bf k3,bf k4,bf k5,bf k6,bt k8,Tq,Cb,Cc,Iz,Ja];exact⟨_,bT rfl (by simp only[E8,seval]<;>rfl) (by first|exact .v _|simp only[dN]),_,rfl⟩
 have hy:pH { Ao with kind:=x.kind }:=⟨z.Hp,z.c1,z.c2,z.YG,z.rb,z.ra,z.rs,z.rt,z.rv⟩
 obtain⟨r2,e2,B,rfl⟩:=YH x { Ao with kind:=x.kind } h hy
 have Tq:=kx e2 (bH hf hy.flat) (.v _)
 have KE:=h.fl
 cases B
 all_goals
  simp only[ZG,seval,Mr,g1,g9,QN,eC,bt g0,bf k2,bf k3,bf k4,bf k5,bf k6,bf k8,Tq,Cb,Cc,Iz,Ja];exact⟨_,bT rfl (by simp only[E8,seval]<;>rfl) (by first|exact .v _|simp only[dN]),_,rfl⟩
theorem x45 (n bits:Int) (h0:0<n) (h1:n<=1000):∃r,aC Tryz.prog 45 [.v (.int .i64 n),.v (.int .i64 bits)]=some r/\∃l:List Int,r=.uniq 3 1 l.length (aI l)/\(l.length:Int)<=n:=by
 rw[cL Tryz.func45 rfl aTp rfl];simp only[Z8,seval];refine cB (fun m st=>∃k:Nat,(st.env 0=.v (.int .i64 n)/\st.env 1=.v (.int .i64 bits)/\st.env 6=.v (.int .i64 k))/\(st.env 5=.v (.slice none 0 0)\/∃(l:List Int) (g:Nat),(st.env 5=.own 21 g/\st.heap 21 g=some (.row 3 1 l.length (aI l)))/\g<st.aK 21/\0<l.length/\l.length<=k)/\(k:Int)<=n/\m=(n-k).toNat)
  (fun e st=>e=.exit 0/\st.env 0=.v (.int .i64 n)/\(st.env 5=.v (.slice none 0 0)\/∃(l:List Int) (g:Nat),(st.env 5=.own 21 g/\st.heap 21 g=some (.row 3 1 l.length (aI l)))/\0<l.length/\(l.length:Int)<=n)) n.toNat ?step ?start ?rest
 case step =>
  rintro m st ⟨k,hI,h5,hk,hm⟩
  by_cases aZ:(k:Int)<n
  ·have q0:(0:Int)<=k:=by omega
   have hw:IntKind.i64.wrap ((k:Int)+1)=((k+1:Nat):Int):=by rw[pM _ (by omega) (by omega)];omega
   by_cases hh:IntKind.i64.wrap ((BitVec.ofInt IntKind.i64.bits (bits.fdiv (2 ^ min (IntKind.u64.wrap (k:Int)).toNat IntKind.i64.bits)) &&& BitVec.ofInt IntKind.i64.bits 1).toNat:Int)=1
   ·rcases h5 with h5|⟨l,g,h5,hg,hl0,hl⟩
    ·apply oN ((n-((k+1:Nat):Int)).toNat)
     ·simp only[Z8,seval,hI,h5,aZ,q0,yB,bt hh,hw];rfl
     ·exact⟨k+1,by simp only[E8,seval,hI],.inr ⟨[(k:Int)],_,⟨by simp only[E8,seval]<;>rfl,by simp only[E8,seval]<;>rfl⟩,by simp only[E8,seval]<;>omega,by simp,by simp⟩,by omega,rfl⟩
    ·have wB:(g=st.aK 21)=False:=eq_false (by omega)
     have nl:(l.length:Int)<1000000:=by omega
     apply oN ((n-((k+1:Nat):Int)).toNat)
     ·simp only[Z8,seval,hI,h5,wB,aZ,q0,yB,bt hh,hw,Gh _ _ _ _ nl];rfl
     ·exact⟨k+1,by simp only[E8,seval,hI],.inr ⟨l++[(k:Int)],_,⟨by simp only[E8,seval]<;>rfl,by simp only[E8,seval]<;>rfl⟩,by simp only[E8,seval]<;>omega,by simp,by rw[List.length_append,List.length_cons,List.length_nil];omega⟩,by omega,rfl⟩
   ·have h5':st.env 5=.v (.slice none 0 0)\/∃(l:List Int) (g:Nat),(st.env 5=.own 21 g/\st.heap 21 g=some (.row 3 1 l.length (aI l)))/\g<st.aK 21/\0<l.length/\l.length<=k+1:=h5.imp id fun ⟨l,g,a,b,c,d⟩=>⟨l,g,a,b,c,by omega⟩
    apply oN ((n-((k+1:Nat):Int)).toNat)
    ·simp only[Z8,seval,hI,aZ,q0,yB,bf hh,hw];rfl
    ·exact⟨k+1,by simp only[E8,seval,hI],by simpa only[E8,seval] using h5',by omega,rfl⟩
  ·have h5':st.env 5=.v (.slice none 0 0)\/∃(l:List Int) (g:Nat),(st.env 5=.own 21 g/\st.heap 21 g=some (.row 3 1 l.length (aI l)))/\0<l.length/\(l.length:Int)<=n:=h5.imp id fun ⟨l,g,a,b,c,d⟩=>⟨l,g,a,c,by omega⟩
   apply oT (.exit 0)
   ·simp only[Z8,seval,hI,aZ];rfl
   ·exact⟨rfl,by simp only[E8,seval,hI],by simpa only[E8,seval] using h5'⟩
 case start=>exact⟨0,by simp only[E8,seval]<;>rfl,.inl (by simp only[E8,seval]),by omega,by simp⟩
 case rest =>
  rintro e st ⟨rfl,h0',h5|⟨l,g,h5,hl0,hl⟩⟩
  ·simp only[Z8,seval,h0',h5,h0];exact⟨_,Qr (n:=([0]:List Int).length) (cs:=aI [0]) (aJ (by decide)) (.inl rfl) rfl (by simp only[E8,seval]<;>rfl) (by simp only[E8,seval]<;>rfl) (fS _),_,rfl,by simp;omega⟩
  ·have hn0:¬((l.length:Int)=0):=by omega
   simp only[Z8,seval,h0',h5,bf hn0];exact⟨_,tH rfl (by simp only[E8,seval,h5]<;>rfl) (by simp only[E8,seval,h5]<;>rfl) (fS _),l,rfl,hl⟩
theorem k45 (n bits:Int) (h0:0<n) (h1:n<=1000):∃l:List Int,(∀(st:St) (d:Nat),aN (aC Tryz.prog) 45 [.v (.int .i64 n),.v (.int .i64 bits)] st (some d)=some { dst:=some d,val:=.own d (st.aK d),new:=some (d,[.row 3 1 l.length (aI l)])})/\(l.length:Int)<=n:=by
 obtain⟨r,hr,l,rfl,hl⟩:=x45 n bits h0 h1
 exact⟨l,fun st d=>jD (bH (.v _) (.v _)) hr,hl⟩
theorem x92 {s:aO} {v:SV} {q:Int} (h:GI s v q) (r:RG s v) (i e:Int) (he:Rg e):∃x,aC Tryz.prog 92 [.agg (aB s),.v (.int .i64 i),.v (.int .u64 e)]=some x/\∃c:fU,x=.agg (bY c)/\Rg c.aL:=by
 have aAB:=PD v.ns h.up h.sd.nn i (IntKind.u64.wrap (e * s.cFg.rD))
 have hr:=IB h.up (i:=i) (s:=IntKind.u64.wrap (e * s.cFg.rD))
 obtain⟨k,hk⟩:∃k,JS v.ns i (IntKind.u64.wrap (e * s.cFg.rD))=k:=⟨_,rfl⟩
 rw[hk] at aAB hr
 rw[cL Tryz.func92 rfl aTs rfl];by_cases g1:k<0
 ·simp only[Z8,seval,h.sd.tree,aAB,g1];exact⟨_,fK rfl (by simp only[E8,seval,Bz]<;>rfl) (by simp only[Z8,seval,Bz]<;>rfl) (by simp only[dN,and_self,Bz]),_,rfl,r.f⟩
 ·have k0:0<=k:=by omega
  have k1:k<v.ns.length:=by omega
  simp only[Z8,seval,h.sd.tree,aAB,g1,k0,k1];exact⟨_,fK rfl (by simp only[E8,seval,Bz]<;>rfl) (by simp only[Z8,seval,Bz]<;>rfl) (by simp only[dN,and_self,Bz]),_,rfl,he⟩
end Go.Ab.Tryz
