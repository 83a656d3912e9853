/-
  Part 13 of the proof: an evaluator of programs, its soundness, and what functions of this program compute.
-/
import Derived.Test.YtmcjkemalibacaaGreatK12
import Derived.Test.YtmcjkemalibacaaGreatK11
set_option linter.all false
set_option maxRecDepth 20000
set_option maxHeartbeats 40000000
namespace Go.Ab.Tryz
open Classical Go.Proofs Go.Ab
theorem Kc {st:St} {a g:Nat} {L:List Int} (hh:st.heap a g=some (.row 3 1 L.length (aJ L))):fG st (.own a g)=some (ov aJ (some L)):=by
 rw[vW,hh];exact jU L.length L
theorem aKG (o:Option (List Int)) (hn:((ol o).length:Int)<999999) (x:Int) :
 ((∀(st:St) (d:Nat),eI (aC Tryz.prog) 235 [ov aJ o,.v (.int .i64 x)] st (some d)=some { dst:=some d,val:=ov aJ o }) ∧
  ∀(st:St) (d a g:Nat) (L:List Int),o=some L→st.heap a g=some (.row 3 1 L.length (aJ L))→eI (aC Tryz.prog) 235 [.own a g,.v (.int .i64 x)] st (some d)=some { dst:=some d,val:=ov aJ (some L),dJ:=some (a,g,none)}) ∨
 ∃M:List Int,M.length=(ol o).length+1∧(∀(st:St) (d:Nat),eI (aC Tryz.prog) 235 [ov aJ o,.v (.int .i64 x)] st (some d)=some { dst:=some d,val:=.own d (st.aP d),new:=some (d,[.row 3 1 M.length (aJ M)])}) ∧
  ∀(st:St) (d a g:Nat) (L:List Int),o=some L→st.heap a g=some (.row 3 1 L.length (aJ L))→eI (aC Tryz.prog) 235 [.own a g,.v (.int .i64 x)] st (some d)=some { dst:=some d,val:=.own d (st.aP d),dJ:=some (a,g,none),new:=some (d,[.row 3 1 M.length (aJ M)])}:=by
 have one:∀(st:St) (d a g:Nat) (L:List Int),o=some L→st.heap a g=some (.row 3 1 L.length (aJ L))→eI (aC Tryz.prog) 235 [.own a g,.v (.int .i64 x)] st (some d)=Ni (aC Tryz.prog) 235 (some [ov aJ o,.v (.int .i64 x)]) a g st (some d):=by
  rintro st d a g L rfl hh
  rw[Gd (s:=a) (k:=g) rfl (by intro y hy;simp only[List.mem_cons,List.not_mem_nil,or_false] at hy;rcases hy with rfl|rfl;exact .inr (.inl ⟨a,g,rfl⟩);exact .inl (.v _)),
   List.map_cons,List.map_cons,List.map_nil,Kc hh,Sr,bL,bL,gK]
  rfl
 obtain⟨r,hr,h⟩:=aPw o hn x
 rcases h with rfl|⟨M,rfl,hM⟩
 ·refine .inl ⟨fun st d=>Ir (bG (bO o) (.v _)) hr (bO o),fun st d a g L ho hh=>?_⟩
  rw[one st d a g L ho hh];subst ho;exact Zi hr (bO _)
 ·refine .inr ⟨M,hM,fun st d=>R9 (bG (bO o) (.v _)) hr,fun st d a g L ho hh=>?_⟩
  rw[one st d a g L ho hh];exact aCd hr (F1 M)
theorem aKH (x:fY) (V W:Option (List Int)) (hV:x.first.eU=ov aJ V) (hW:x.second.eU=ov aJ W) (nV:((ol V).length:Int)<99999) (nW:((ol W).length:Int)<99999) :
 ∃r,aC Tryz.prog 221 [.agg (bZ x)]=some r∧∃o:Option (List Int),((ol o).length:Int)≤(ol V).length∧(r=ov aJ o∨∃L,o=some L∧r=.uniq 3 1 L.length (aJ L)):=by
 have f1:Flat x.first.eU:=by rw[hV];exact bO V
 have f2:Flat x.second.eU:=by rw[hW];exact bO W
 rw[cL Tryz.func221 rfl aKI rfl];simp only[Z8,seval];refine cE (fun m st=>∃k:Nat,(st.env 1=.ptr 1 0 0∧st.heap 1 0=some (.cells (bZ x))∧st.env 4=.v (.int .i64 k))∧(∃o:Option (List Int),(ol o).length≤k∧(st.env 3=ov aJ o∨∃g L,o=some L∧st.env 3=.own 30 g∧g<st.aP 30∧st.heap 30 g=some (.row 3 1 L.length (aJ L))))∧k≤(ol V).length∧m=(ol V).length-k)
  (fun e st=>e=.exit 0∧∃o:Option (List Int),(ol o).length≤(ol V).length∧(st.env 3=ov aJ o∨∃g L,o=some L∧st.env 3=.own 30 g∧st.heap 30 g=some (.row 3 1 L.length (aJ L)))) (ol V).length ?step ?start ?rest
 case step =>
  rintro m st ⟨k,hI,⟨o,ho,h3⟩,hk,hm⟩
  by_cases aY:(k:Int)<(ol V).length
  ·have q0:(0:Int)≤k:=by omega
   have hw:IntKind.i64.wrap ((k:Int)+1)=((k+1:Nat):Int):=by rw[pZ _ (by omega) (by omega)];omega
   have S3:=aFN W (by omega) (gx (0:Int) (ol V) (k:Int))
   by_cases h1:gx (0:Int) (ol V) (k:Int)∈ol W
   ·have FR:=eq_true h1
    rcases aKG o (by omega) (gx (0:Int) (ol V) (k:Int)) with ⟨ea,eb⟩|⟨M,hM,ea,eb⟩
    ·rcases h3 with h3|⟨g,L,hL,h3,hg,hh⟩
     ·apply oN ((ol V).length-(k+1))
      ·simp only[Z8,seval,hI,h3,aY,q0,hV,hW,S3,FR,ea,hw];rfl
      ·exact⟨k+1,by simp only[E8,seval,hI],⟨o,by omega,.inl (by simp only[E8,seval])⟩,by omega,rfl⟩
     ·have S4:=fun st d a g=>eb st d a g L hL
      have ho':(ol (some L)).length≤k:=by rw[← hL];exact ho
      apply oN ((ol V).length-(k+1))
      ·simp only[Z8,seval,hI,h3,hh,aY,q0,hV,hW,S3,FR,S4,hw];rfl
      ·exact⟨k+1,by simp only[E8,seval,hI],⟨some L,by omega,.inl (by simp only[E8,seval])⟩,by omega,rfl⟩
    ·rcases h3 with h3|⟨g,L,hL,h3,hg,hh⟩
     ·apply oN ((ol V).length-(k+1))
      ·simp only[Z8,seval,hI,h3,aY,q0,hV,hW,S3,FR,ea,hw];rfl
      ·exact⟨k+1,by simp only[E8,seval,hI],⟨some M,by show M.length≤_;omega,.inr ⟨_,M,rfl,by simp only[E8,seval]<;>rfl,by simp only[E8,seval]<;>omega,by simp only[E8,seval]<;>rfl⟩⟩,by omega,rfl⟩
     ·have S4:=fun st d a g=>eb st d a g L hL
      have uY:(g=st.aP 30)=False:=eq_false (by omega)
      apply oN ((ol V).length-(k+1))
      ·simp only[Z8,seval,hI,h3,hh,uY,aY,q0,hV,hW,S3,FR,S4,hw];rfl
      ·exact⟨k+1,by simp only[E8,seval,hI],⟨some M,by show M.length≤_;omega,.inr ⟨_,M,rfl,by simp only[E8,seval]<;>rfl,by simp only[E8,seval]<;>omega,by simp only[E8,seval]<;>rfl⟩⟩,by omega,rfl⟩
   ·have FR:=eq_false h1
    have h3':st.env 3=ov aJ o∨∃g L,o=some L∧st.env 3=.own 30 g∧g<st.aP 30∧st.heap 30 g=some (.row 3 1 L.length (aJ L)):=h3
    apply oN ((ol V).length-(k+1))
    ·simp only[Z8,seval,hI,aY,q0,hV,hW,S3,FR,hw];rfl
    ·exact⟨k+1,by simp only[E8,seval,hI],⟨o,by omega,by simpa only[E8,seval] using h3'⟩,by omega,rfl⟩
  ·have h3':st.env 3=ov aJ o∨∃g L,o=some L∧st.env 3=.own 30 g∧st.heap 30 g=some (.row 3 1 L.length (aJ L)):=h3.imp id fun ⟨g,L,a,b,_,c⟩=>⟨g,L,a,b,c⟩
   apply oT (.exit 0)
   ·simp only[Z8,seval,hI,aY,hV];rfl
   ·exact⟨rfl,o,by omega,by simpa only[E8,seval] using h3'⟩
 case start=>exact⟨0,by simp only[E8,seval]<;>rfl,⟨none,by simp[ol],.inl (by simp only[E8,seval]<;>rfl)⟩,by omega,by omega⟩
 case rest =>
  rintro e st ⟨rfl,o,ho,h3⟩
  rcases h3 with h3|⟨g,L,hL,h3,hh⟩
  ·simp only[Z8,seval,h3];exact⟨_,bS rfl (by simp only[E8,seval,h3]<;>rfl) (bO o),o,by omega,.inl rfl⟩
  ·simp only[Z8,seval,h3];exact⟨_,tC rfl (by simp only[E8,seval,h3]<;>rfl) (by simp only[E8,seval,hh]<;>rfl) (gD _),o,by omega,.inr ⟨L,hL,rfl⟩⟩
theorem aKJ {o:Option (List Int)} {L:List Int} (h:(ol o).length≤L.length):IntKind.i64.wrap ((L.length:Int)-((ol o).length:Int))≠0→L≠[]:=by
 rintro hn rfl
 have h0:(ol o).length=0:=by simpa using h
 rw[h0] at hn;exact hn (by decide)
theorem aPH (o V:Option (List Int)) (no:((ol o).length:Int)<900000) (nV:((ol V).length:Int)<99999) :
 ∃r,aC Tryz.prog 220 [ov aJ o,ov aJ V]=some r∧∃(L:List Int) (n:Int),r=.eG [ov aJ (some L),.v (.int .i64 n)]∧L.length≤(ol o).length+(ol V).length∧(n≠0→L≠[]):=by
 rw[cL Tryz.func220 rfl aKK (by cases o<;>cases V<;>rfl)]
 have no':((ol o).length:Int)<1000000:=by omega
 simp only[Z8,seval,Qd _ no'];refine cE (fun m st=>∃k:Nat,(st.env 0=ov aJ o∧st.env 1=ov aJ V∧st.env 7=.v (.int .i64 k))∧(∃L:List Int,((ol o).length≤L.length∧L.length≤(ol o).length+k)∧(st.env 6=ov aJ (some L)∨(∃g,st.env 6=.own 21 g∧g<st.aP 21∧st.heap 21 g=some (.row 3 1 L.length (aJ L)))∨(st.env 6=.own 9 0∧st.heap 9 0=some (.row 3 1 L.length (aJ L)))))∧k≤(ol V).length∧m=(ol V).length-k)
  (fun e st=>e=.exit 0∧(st.env 0=ov aJ o)∧∃L:List Int,((ol o).length≤L.length∧L.length≤(ol o).length+(ol V).length)∧(st.env 6=ov aJ (some L)∨∃a g,st.env 6=.own a g∧st.heap a g=some (.row 3 1 L.length (aJ L)))) (ol V).length ?step ?start ?rest
 case step =>
  rintro m st ⟨k,hI,⟨L,hL,h3⟩,hk,hm⟩
  by_cases aY:(k:Int)<(ol V).length
  ·have q0:(0:Int)≤k:=by omega
   have hw:IntKind.i64.wrap ((k:Int)+1)=((k+1:Nat):Int):=by rw[pZ _ (by omega) (by omega)];omega
   rcases aKG (some L) (by show (L.length:Int)<_;omega) (gx (0:Int) (ol V) (k:Int)) with ⟨ea,eb⟩|⟨M,hM,ea,eb⟩
   ·rcases h3 with h3|⟨g,h3,hg,hh⟩|⟨h3,hh⟩
    ·apply oN ((ol V).length-(k+1))
     ·simp only[Z8,seval,hI,h3,aY,q0,ea,hw];rfl
     ·exact⟨k+1,by simp only[E8,seval,hI],⟨L,by omega,.inl (by simp only[E8,seval])⟩,by omega,rfl⟩
    ·have S4:=fun st d a g=>eb st d a g L rfl
     apply oN ((ol V).length-(k+1))
     ·simp only[Z8,seval,hI,h3,hh,aY,q0,S4,hw];rfl
     ·exact⟨k+1,by simp only[E8,seval,hI],⟨L,by omega,.inl (by simp only[E8,seval])⟩,by omega,rfl⟩
    ·have S4:=fun st d a g=>eb st d a g L rfl
     apply oN ((ol V).length-(k+1))
     ·simp only[Z8,seval,hI,h3,hh,aY,q0,S4,hw];rfl
     ·exact⟨k+1,by simp only[E8,seval,hI],⟨L,by omega,.inl (by simp only[E8,seval])⟩,by omega,rfl⟩
   ·have hM':M.length=L.length+1:=hM
    rcases h3 with h3|⟨g,h3,hg,hh⟩|⟨h3,hh⟩
    ·apply oN ((ol V).length-(k+1))
     ·simp only[Z8,seval,hI,h3,aY,q0,ea,hw];rfl
     ·exact⟨k+1,by simp only[E8,seval,hI],⟨M,by omega,.inr (.inl ⟨_,by simp only[E8,seval]<;>rfl,by simp only[E8,seval]<;>omega,by simp only[E8,seval]<;>rfl⟩)⟩,by omega,rfl⟩
    ·have S4:=fun st d a g=>eb st d a g L rfl
     have uY:(g=st.aP 21)=False:=eq_false (by omega)
     apply oN ((ol V).length-(k+1))
     ·simp only[Z8,seval,hI,h3,hh,uY,aY,q0,S4,hw];rfl
     ·exact⟨k+1,by simp only[E8,seval,hI],⟨M,by omega,.inr (.inl ⟨_,by simp only[E8,seval]<;>rfl,by simp only[E8,seval]<;>omega,by simp only[E8,seval]<;>rfl⟩)⟩,by omega,rfl⟩
    ·have S4:=fun st d a g=>eb st d a g L rfl
     apply oN ((ol V).length-(k+1))
     ·simp only[Z8,seval,hI,h3,hh,aY,q0,S4,hw];rfl
     ·exact⟨k+1,by simp only[E8,seval,hI],⟨M,by omega,.inr (.inl ⟨_,by simp only[E8,seval]<;>rfl,by simp only[E8,seval]<;>omega,by simp only[E8,seval]<;>rfl⟩)⟩,by omega,rfl⟩
  ·have h3':st.env 6=ov aJ (some L)∨∃a g,st.env 6=.own a g∧st.heap a g=some (.row 3 1 L.length (aJ L)):=by
    rcases h3 with h3|⟨g,h3,hg,hh⟩|⟨h3,hh⟩
    ·exact .inl h3
    ·exact .inr ⟨21,g,h3,hh⟩
    ·exact .inr ⟨9,0,h3,hh⟩
   apply oT (.exit 0)
   ·simp only[Z8,seval,hI,aY];rfl
   ·exact⟨rfl,by simp only[E8,seval,hI],L,by omega,by simpa only[E8,seval] using h3'⟩
 case start=>exact⟨0,by simp only[E8,seval]<;>rfl,⟨ol o,by omega,.inr (.inr ⟨by simp only[E8,seval],by simp only[E8,seval]⟩)⟩,by omega,by omega⟩
 case rest =>
  rintro e st ⟨rfl,h0,L,hL,h3⟩
  rcases h3 with h3|⟨a,g,h3,hh⟩
  ·simp only[Z8,seval,h3,h0];exact⟨_,dO rfl rfl rfl (by simp only[E8,seval,h3,Ge]<;>rfl) (by simp only[E8,seval,h3,Ge]<;>rfl),L,_,rfl,hL.2,aKJ hL.1⟩
  ·simp only[Z8,seval,h3,hh,h0];exact⟨_,dO rfl rfl rfl (by simp only[E8,seval,h3,hh,jU]<;>rfl) (by simp only[E8,seval,h3,hh,jU]<;>rfl),L,_,rfl,hL.2,aKJ hL.1⟩
theorem aPI (x:fY) (V W:Option (List Int)) (hV:x.first.eU=ov aJ V) (hW:x.second.eU=ov aJ W) (nV:((ol V).length:Int)<99999) (nW:((ol W).length:Int)<99999) (n:Int) :
 ∃r,aC Tryz.prog 219 [.agg (bZ x),.v (.int .i64 n)]=some r∧∃e:Int,r=.v (.int .i64 e)∧e≠21:=by
 have f1:Flat x.first.eU:=by rw[hV];exact bO V
 have f2:Flat x.second.eU:=by rw[hW];exact bO W
 have fx:Flat (.agg (bZ x)):=(nD x).2 ⟨f1,f2⟩
 have kV:=kx (c40 V (by omega) n) (bG (bO V) (.v _)) (.v _)
 have kW:=kx (c40 W (by omega) n) (bG (bO W) (.v _)) (.v _)
 obtain⟨ev,DC⟩:∃e,DA (ol V) n=e:=⟨_,rfl⟩
 obtain⟨ew,hew⟩:∃e,DA (ol W) n=e:=⟨_,rfl⟩
 rw[DC] at kV;rw[hew] at kW;obtain⟨r1,N7,c,rfl⟩:=aPs x.first x.second f1 f2
 have S5:=kx N7 (bG ((zQ _).2 f1) ((zQ _).2 f2)) (.v _)
 obtain⟨r2,hr2,o,ho,hro⟩:=aKH x V W hV hW nV nW
 rw[cL Tryz.func219 rfl aKL rfl];by_cases g1:ev=0
 case neg =>
  simp only[Z8,seval,hV,hW,kV,bf g1];exact⟨_,bS rfl (by simp only[E8,seval]<;>rfl) (by first|exact .v _|simp only[dU]),_,rfl,by rw[← DC];exact VJ _ _⟩
 by_cases g2:ew=0
 case neg =>
  simp only[Z8,seval,hV,hW,kV,kW,bt g1,bf g2];exact⟨_,bS rfl (by simp only[E8,seval]<;>rfl) (by first|exact .v _|simp only[dU]),_,rfl,by rw[← hew];exact VJ _ _⟩
 by_cases g3:x.first.target<x.first.source
 ·simp only[Z8,seval,hV,hW,kV,kW,bt g1,bt g2,g3];exact⟨_,bS rfl (by simp only[E8,seval]<;>rfl) (by first|exact .v _|simp only[dU]),_,rfl,by decide⟩
 by_cases g4:x.second.target<x.second.source
 ·simp only[Z8,seval,hV,hW,kV,kW,bt g1,bt g2,g3,g4];exact⟨_,bS rfl (by simp only[E8,seval]<;>rfl) (by first|exact .v _|simp only[dU]),_,rfl,by decide⟩
 cases c
 ·simp only[Z8,seval,hV,hW,kV,kW,bt g1,bt g2,g3,g4,S5];exact⟨_,bS rfl (by simp only[E8,seval]<;>rfl) (by first|exact .v _|simp only[dU]),_,rfl,by decide⟩
 rcases hro with rfl|⟨L,hL,rfl⟩
 ·have Zj:=kx hr2 (cU fx) (bO o)
  by_cases g5:((ol o).length:Int)=0
  ·simp only[Z8,seval,hV,hW,kV,kW,bt g1,bt g2,g3,g4,S5,Zj,bt g5];exact⟨_,bS rfl (by simp only[E8,seval]<;>rfl) (by first|exact .v _|simp only[dU]),_,rfl,by decide⟩
  ·simp only[Z8,seval,hV,hW,kV,kW,bt g1,bt g2,g3,g4,S5,Zj,bf g5];exact⟨_,bS rfl (by simp only[E8,seval]<;>rfl) (by first|exact .v _|simp only[dU]),_,rfl,by decide⟩
 ·have Zj:∀(st:St) (d:Nat),aM (aC Tryz.prog) 221 [.agg (bZ x)] st (some d)=_:=fun st d=>jF (st:=st) (d:=d) (cU fx) hr2
  by_cases g5:(L.length:Int)=0
  ·simp only[Z8,seval,hV,hW,kV,kW,bt g1,bt g2,g3,g4,S5,Zj,bt g5];exact⟨_,bS rfl (by simp only[E8,seval]<;>rfl) (by first|exact .v _|simp only[dU]),_,rfl,by decide⟩
  ·simp only[Z8,seval,hV,hW,kV,kW,bt g1,bt g2,g3,g4,S5,Zj,bf g5];exact⟨_,bS rfl (by simp only[E8,seval]<;>rfl) (by first|exact .v _|simp only[dU]),_,rfl,by decide⟩
theorem aPK {s:aN} {v:SV} {q:Int} (h:GI s v q) (r:RG s v) (x:fY) (V W:Option (List Int)) (hV:x.first.eU=ov aJ V) (hW:x.second.eU=ov aJ W) (nV:((ol V).length:Int)≤1000) (nW:((ol W).length:Int)≤1000) (hq:q+1000≤900000) :
 ∃r,aC Tryz.prog 205 [.agg (aB s),.agg (bZ x)]=some r∧StN s v (q+1000) r:=by
 have hf:=h.sd.flat
 have kE:=h.sd.fl
 have hz:=Ka
 have f1:Flat x.first.eU:=by rw[hV];exact bO V
 have f2:Flat x.second.eU:=by rw[hW];exact bO W
 have fx:Flat (.agg (bZ x)):=(nD x).2 ⟨f1,f2⟩
 obtain⟨r1,N7,e1,rfl,he1⟩:=aPI x V W hV hW (by omega) (by omega) (ol v.B).length
 have S6:=kx N7 (bG fx (.v _)) (.v _)
 obtain⟨r2,hr2,o,ho,hro⟩:=aKH x V W hV hW (by omega) (by omega)
 have nq:=h.nQ
 obtain⟨r3,hr3,L,n,rfl,hL,DM⟩:=aPH v.Q o (by omega) (by omega)
 have fr:Flat (.eG [ov aJ (some L),.v (.int .i64 n)]):=.eG _ (bG (bO _) (.v _))
 have k220:∀(st:St) (d:Option Nat),eI (aC Tryz.prog) 220 [ov aJ v.Q,ov aJ o] st d=_:=fun st d=>Ir (st:=st) (d:=d) (bG (bO _) (bO _)) hr3 fr
 rw[cL Tryz.func205 rfl aKM rfl];by_cases g1:e1=0
 case neg =>
  simp only[Z8,seval,Yw h.sd,S6,bf g1];exact⟨_,by apply dO;rfl;all_goals simp only[aI,bT,Z8,seval,hz]<;>rfl,gP,e1,rfl,hz,he1,fun h=>absurd h g1⟩
 have hQ:((ol (some L)).length:Int)≤q+1000:=by show (L.length:Int)≤_;omega
 have h':GI { s with gE:={ s.gE with iB:=ov aJ (some L)} } { v with Q:=some L } (q+1000) :=
  ⟨⟨h.sd.jO,h.sd.dT,rfl,h.sd.early,h.sd.bV,h.sd.tree,h.sd.tables,h.sd.eV,h.sd.tB,h.sd.nB,h.sd.nL,by show ((ol (some L)).length:Int)<1000000;omega,h.sd.nE,h.sd.nO,h.sd.nT,h.sd.nn⟩,h.up,h.NM,h.pos,h.nl,h.VO,h.qW,h.OI,h.nB,h.nO,h.OJ,h.nE,h.UF,h.nT,h.VP,hQ,hq,h.gW⟩
 have F2:=h'.sd.flat
 rcases hro with rfl|⟨M,hM,rfl⟩
 ·have Zj:=kx hr2 (cU fx) (bO o)
  by_cases g2:n=0
  ·simp only[Z8,seval,Yw h.sd,S6,bt g1,h.sd.iB,Zj,k220,dY,bt g2];exact⟨_,by apply dO;rfl;all_goals simp only[aI,bT,Z8,seval,hz]<;>rfl,gP,9,rfl,hz,by decide,fun h=>by cases h⟩
  ·simp only[Z8,seval,Yw h.sd,S6,bt g1,h.sd.iB,Zj,k220,dY,bf g2];exact⟨_,by apply dO;rfl;all_goals simp only[aI,bT,Z8,seval,F2]<;>rfl,_,0,rfl,F2,by decide,fun _=>⟨_,h',⟨r.now,r.j,r.f,r.nd,r.or,r.rt,r.fe,r.ds,r.tb,⟨fun e=>DM g2 (by injection e),r.ne.e,r.ne.o,r.ne.t,r.ne.ea,r.ne.tb⟩⟩,rfl,rfl⟩⟩
 ·have Zj:∀(st:St) (d:Nat),aM (aC Tryz.prog) 221 [.agg (bZ x)] st (some d)=_:=fun st d=>jF (st:=st) (d:=d) (cU fx) hr2
  have k220':∀(st:St) (a g:Nat) (d:Option Nat),st.heap a g=some (.row 3 1 M.length (aJ M))→eI (aC Tryz.prog) 220 [ov aJ v.Q,.own a g] st d=some { dst:=d,val:=.eG [ov aJ (some L),.v (.int .i64 n)],dJ:=some (a,g,none)}:=by
   intro st a g d hh;rw[Gd (s:=a) (k:=g) (by rw[List.flatMap_cons,tP (bO v.Q)];rfl) (by intro y hy;simp only[List.mem_cons,List.not_mem_nil,or_false] at hy;rcases hy with rfl|rfl;exact .inl (bO _);exact .inr (.inl ⟨a,g,rfl⟩)),
    List.map_cons,List.map_cons,List.map_nil,Ge,Kc hh,bL,bL,gK,← hM]
   exact Zi hr3 fr
  by_cases g2:n=0
  ·simp only[Z8,seval,Yw h.sd,S6,bt g1,h.sd.iB,Zj,k220',dY,bt g2];exact⟨_,by apply dO;rfl;all_goals simp only[aI,bT,Z8,seval,hz]<;>rfl,gP,9,rfl,hz,by decide,fun h=>by cases h⟩
  ·simp only[Z8,seval,Yw h.sd,S6,bt g1,h.sd.iB,Zj,k220',dY,bf g2];exact⟨_,by apply dO;rfl;all_goals simp only[aI,bT,Z8,seval,F2]<;>rfl,_,0,rfl,F2,by decide,fun _=>⟨_,h',⟨r.now,r.j,r.f,r.nd,r.or,r.rt,r.fe,r.ds,r.tb,⟨fun e=>DM g2 (by injection e),r.ne.e,r.ne.o,r.ne.t,r.ne.ea,r.ne.tb⟩⟩,rfl,rfl⟩⟩
theorem VV {l:List Int} {n:Int} (h:DA l n=0):∀x∈l,0≤x∧x<n:=by
 intro x hx;unfold DA at h;have gN:l≠[]:=fun e=>by subst e;cases hx
 rw[if_neg gN] at h;by_cases g:Cn (Vz l n) l.length<0
 ·rcases zS (Vz l n) l.length with ⟨_,hj⟩|⟨k,h1,_,_,h3⟩
  ·obtain⟨j,hj1,rfl⟩:=List.getElem_of_mem hx
   have hb:=hj j hj1
   have e:gx (0:Int) l j=l[j]:=by simp[gx,hj1]
   unfold Vz at hb;rw[e] at hb;omega
  ·omega
 ·rw[if_neg g] at h;split at h<;>omega
theorem IY {s:aN} {v:SV} {a:sH} {V:List Int} (h:(Hu s v a V).2=0):DA V (ol v.B).length=0:=by
 unfold Hu at h;by_cases g:DA V (ol v.B).length≠0
 ·rw[if_pos g] at h;exact h
 ·exact Classical.not_not.1 g
theorem GI.cast {s:aN} {v:SV} {q:Int} (h:GI s v q) (a:sH) (V:List Int):GI (Sv s v a V) { v with L:=some (uI (ol v.L) a.target.aK a.root V).1 } q:=by
 have hl:(uI (ol v.L) a.target.aK a.root V).1.length=(ol v.L).length:=Su _ _ _ _
 exact⟨⟨h.sd.jO,rfl,h.sd.iB,h.sd.early,h.sd.bV,h.sd.tree,h.sd.tables,h.sd.eV,h.sd.tB,h.sd.nB,by show ((uI (ol v.L) a.target.aK a.root V).1.length:Int)<1000000;rw[hl];exact h.sd.nL,h.sd.nQ,h.sd.nE,h.sd.nO,h.sd.nT,h.sd.nn⟩,h.up,h.NM,h.pos,h.nl,h.VO,h.qW,hl.trans h.OI,h.nB,h.nO,h.OJ,h.nE,h.UF,h.nT,h.VP,h.nQ,h.Q5,h.gW⟩
def xA (s:aN) (x:AV):aN:={ s with dS:={ s.dS with early:=x }}
theorem VW {e sz n:Nat} {cs:List AV} (h:¬ ∀c∈cs,Flat c):jH (some (.row e sz n cs))=none:=by
 unfold jH;simp only[if_neg h]
theorem aFR {a:sH} {x g:Nat} (h:a.eU=.own x g) (l:List sH):¬ ∀c∈dD (l++[a]),Flat c:=by
 intro hf;have hm:AV.own x g∈dD (l++[a]):=by
  unfold dD;rw[List.flatMap_append,List.mem_append];refine .inr ?_
  rw[List.flatMap_cons,List.flatMap_nil,List.append_nil];unfold gY;rw[h];simp
 have:=hf _ hm
 cases this
theorem lL {α:Type} {a b:List (Option α)} {x y:List α} (ha:cM a=some x) (hb:cM b=some y):cM (a++b)=some (x++y):=by
 induction a generalizing x with
 | nil=>simp only[gK,Option.some.injEq] at ha;subst ha;simpa using hb
 | cons c a ih =>
   cases c with
   | none=>simp[cM] at ha
   | some c =>
     rw[bL] at ha;simp only[Option.map_eq_some_iff] at ha;obtain⟨z,hz,rfl⟩:=ha
     rw[List.cons_append,bL,ih hz];rfl
theorem Dp {cs:List AV} {f:AV→Option AV} (h:∀c∈cs,f c=some c):cM (cs.map f)=some cs:=by
 induction cs with
 | nil=>rfl
 | cons c cs ih=>rw[List.map_cons,h c (List.mem_cons_self ..),bL,ih fun x hx=>h x (List.mem_cons_of_mem _ hx)];rfl
theorem Zk {st:St} {c:AV} (h:Flat c):cF st c=some c:=by unfold cF;rw[if_pos h]
theorem S7 {st:St} {c:AV} (h:Flat c):Dc st c=some c:=by
 unfold Dc;cases h<;>exact Zk (by constructor;try assumption)
theorem F3 {s:aN} {v:SV} (h:SD s v) (st:St) {E:List sH} (hE:∀x∈E,Flat x.eU) {a:sH} {V:List Int} {x g x' g' n:Nat}
 (hh:st.heap x g=some (.row 87 67 n (dD (E++[{ a with eU:=.own x' g' }])))) (uX:st.heap x' g'=some (.row 3 1 V.length (aJ V))) :
 Oz st (.agg (aB (xA s (.own x g))))=some (.agg (aB (xA s (.sl n (dD (E++[{ a with eU:=ov aJ (some V)}])))))):=by
 obtain⟨h1,h2,h3,h4,h5,h6,h7⟩:=h.fl
 have fl:∀ {cs:List AV},(∀c∈cs,Flat c)→cM (cs.map (Dc st))=some cs:=fun hc=>Dp fun c m=>S7 (hc c m)
 have fl1:∀ {cs:List AV},(∀c∈cs,Flat c)→cM (cs.map (cF st))=some cs:=fun hc=>Dp fun c m=>Zk (hc c m)
 have hv:cF st (.own x' g')=some (ov aJ (some V)):=by rw[bA,uX];exact jU _ _
 have hatt:cM ((dD (E++[{ a with eU:=.own x' g' }])).map (cF st))=some (dD (E++[{ a with eU:=ov aJ (some V)}])):=by
  unfold dD;rw[List.flatMap_append,List.flatMap_append,List.map_append];refine lL (fl1 (tG E hE)) ?_
  simp only[List.flatMap_cons,List.flatMap_nil,List.append_nil];unfold gY;rw[List.map_append,List.map_append,List.map_append];refine lL (fl1 (dZ _)) (lL (fl1 (dF _)) (lL (fl1 (dB _)) ?_))
  rw[List.map_cons,List.map_nil,hv];rfl
 have hea:Dc st (.own x g)=some (.sl n (dD (E++[{ a with eU:=ov aJ (some V)}]))):=by
  unfold Dc;simp only[hh,hatt];rfl
 unfold Oz;simp only
 have:cM ((aB (xA s (.own x g))).map (Dc st))=some (aB (xA s (.sl n (dD (E++[{ a with eU:=ov aJ (some V)}]))))):=by
  unfold xA aB jT;simp only[List.map_append];refine lL (fl (uD _ h1)) (lL (fl (qQ _ h2 h3)) (lL (fl (lC _)) (lL (lL ?_ (fl (by simpa using h5))) (lL (fl (wX _ h6)) (lL (fl (dZ _)) (lL (fl (dF _)) (fl (by simpa using h7))))))))
  rw[List.map_cons,List.map_nil,hea];rfl
 rw[this];rfl
theorem S8 {s:aN} {v:SV} (h:SD s v) (st:St) {E:List sH} {a:sH} {x g x' g' n:Nat} (ha:a.eU=.own x' g')
 (hh:st.heap x g=some (.row 87 67 n (dD (E++[a])))):fG st (.agg (aB (xA s (.own x g))))=none:=by
 have kE:=h.fl
 have hn:=VW (e:=87) (sz:=67) (n:=n) (aFR ha E)
 unfold xA;simp only[bP,gJ,bA,hh,hn,bY,dU,kE,cK,zW]
theorem GI.early {s:aN} {v:SV} {q:Int} (h:GI s v q) (E:Option (List sH)) (hE:∀a∈ol E,Dk a) (hn:((ol E).length:Int)≤s.cFg.mD.qC):GI (xA s (ov dD E)) { v with E:=E } q :=
 ⟨⟨h.sd.jO,h.sd.dT,h.sd.iB,rfl,h.sd.bV,h.sd.tree,h.sd.tables,hE,h.sd.tB,h.sd.nB,h.sd.nL,h.sd.nQ,by have:=h.UF;show ((ol E).length:Int)<1000000;omega,h.sd.nO,h.sd.nT,h.sd.nn⟩,h.up,h.NM,h.pos,h.nl,h.VO,h.qW,h.OI,h.nB,h.nO,h.OJ,hn,h.UF,h.nT,h.VP,h.nQ,h.Q5,h.gW⟩
theorem aFS (s:aN) (v:SV) (a:sH) (V:List Int):(Hu s v a V).2≠21:=by
 unfold Hu;split
 ·exact VJ _ _
 repeat (split;simp)
 simp
theorem aPL {s:aN} {v:SV} {q:Int} (h:GI s v q) (r:RG s v) (a:sH) (V:Option (List Int)) (hV:a.eU=ov aJ V) (nV:((ol V).length:Int)<99999) :
 ∃r,aC Tryz.prog 204 [.agg (aB s),.agg (gY a)]=some r∧StN s v q r:=by
 have hf:=h.sd.flat
 have kE:=h.sd.fl
 have hz:=Ka
 have fa:Flat (.agg (gY a)):=(zP a).2 (by rw[hV];exact bO V)
 have k39:=kx (c39 h.sd h.up h.sp a V hV (by omega)) (bG hf fa) (.eG _ (bG (.v _) (.v _)))
 rw[cL Tryz.func204 rfl aKN rfl];by_cases g1:(Hu s v a (ol V)).2=0
 case neg =>
  simp only[Z8,seval,k39,dY,bf g1];exact⟨_,by apply dO;rfl;all_goals simp only[aI,bT,Z8,seval,hz]<;>rfl,gP,_,rfl,hz,aFS _ _ _ _,fun h=>absurd h g1⟩
 cases g2:(Hu s v a (ol V)).1
 ·have hr:∀x∈ol V,0≤x∧x<(ol v.L).length:=by rw[h.OI];exact VV (IY g1)
  have h':=h.cast a (ol V)
  have F2:=h'.sd.flat
  have k44:=kx (c44 h.sd a V hV (by omega) hr) (bG hf fa) F2
  simp only[Z8,seval,k39,dY,bt g1,g2,k44];exact⟨_,by apply dO;rfl;all_goals simp only[aI,bT,Z8,seval,F2]<;>rfl,_,0,rfl,F2,by decide,fun _=>⟨_,h',⟨r.now,r.j,r.f,r.nd,r.or,r.rt,r.fe,r.ds,r.tb,⟨r.ne.q,r.ne.e,r.ne.o,r.ne.t,r.ne.ea,r.ne.tb⟩⟩,rfl,rfl⟩⟩
 ·by_cases g3:s.cFg.mD.qC≤((ol v.E).length:Int)
  ·simp only[Z8,seval,k39,dY,bt g1,g2,h.sd.early,g3];exact⟨_,by apply dO;rfl;all_goals simp only[aI,bT,Z8,seval,hz]<;>rfl,gP,11,rfl,hz,by decide,fun h=>by cases h⟩
  ·have hE:∀b∈ol (some (ol v.E++[{ a with eU:=ov aJ (some (ol V))}])),Dk b:=by
    intro b hb;rcases List.mem_append.1 (show b∈ol v.E++[{ a with eU:=ov aJ (some (ol V))}] from hb) with hb|hb
    ·exact h.sd.eV b hb
    ·rw[List.mem_singleton] at hb;subst hb;exact⟨some (ol V),rfl,by show ((ol V).length:Int)<_;omega⟩
   have hVne:ol V≠[]:=fun e=>by have h0:=IY g1;rw[e] at h0;simp[DA] at h0
   have hEa:∀b∈ol (some (ol v.E++[{ a with eU:=ov aJ (some (ol V))}])),∃W,b.eU=ov aJ (some W)∧W≠[]:=by
    intro b hb;rcases List.mem_append.1 (show b∈ol v.E++[{ a with eU:=ov aJ (some (ol V))}] from hb) with hb|hb
    ·exact r.ne.ea b hb
    ·rw[List.mem_singleton] at hb;subst hb;exact⟨ol V,rfl,hVne⟩
   have h':=h.early (some (ol v.E++[{ a with eU:=ov aJ (some (ol V))}])) hE (by show (((ol v.E++[{ a with eU:=ov aJ (some (ol V))}]).length:Nat):Int)≤_;rw[List.length_append,List.length_cons,List.length_nil];omega)
   have F2:=h'.sd.flat
   have nE:=h.sd.nE
   have hEf:∀x∈ol v.E,Flat x.eU:=fun x m=>(h.sd.eV x m).fl
   simp only[Z8,seval,k39,dY,bt g1,g2,h.sd.early,g3,hV,Qd _ (show ((ol V).length:Int)<1000000 by omega),n8 _ nE,Xi _ _ _ _ nE]
   have hlen:(ol v.E++[{ a with eU:=.own 35 0 }]).length=(ol v.E++[{ a with eU:=ov aJ (some (ol V))}]).length:=by rw[List.length_append,List.length_append];rfl
   exact⟨_,aKO rfl (by simp only[bT,Z8,seval]<;>rfl) (by simp only[bT,E8,seval]<;>rfl)
    (S8 h.sd _ rfl (by simp only[E8,seval]<;>rfl)) (F3 (x':=35) (g':=0) h.sd _ hEf (by simp only[E8,seval,hlen]<;>rfl) (by simp only[E8,seval]<;>rfl)) (by simp only[Z8,seval]<;>rfl),_,0,rfl,F2,by decide,fun _=>⟨_,h',⟨r.now,r.j,r.f,r.nd,r.or,r.rt,r.fe,r.ds,r.tb,⟨r.ne.q,by simp,r.ne.o,r.ne.t,hEa,r.ne.tb⟩⟩,rfl,rfl⟩⟩
theorem aPN (ns:List Node) (hu:iA ns) (hr:(nd ns 0).up=-1) (hn:(ns.length:Int)<1000000) (w:List Int) (hw:w.length=ns.length) (b:List Bool) (hb:b.length=ns.length) (i:Int) :
 ∃r,aC Tryz.prog 225 [.agg (cT ⟨ns⟩),.sl w.length (bE w),.sl b.length (mU b),.v (.int .i64 i)]=some r∧∃k:Int,r=.v (.int .i64 k)∧(k=-1∨(i<k∧0≤k∧k<ns.length)):=by
 rw[cL Tryz.func225 rfl aKP rfl];by_cases hc:wW ns i=[]
 ·have kc:=fun st d=>aEg ns hu hr hn i hc st d
  simp only[Z8,seval,kc];refine cE (fun m st=>st.env 9=.v (.int .i64 (-1))∧st.env 10=.v (.slice none 0 0)∧st.env 11=.v (.int .i64 0)∧m=0) (fun e st=>e=.exit 0∧st.env 9=.v (.int .i64 (-1))) 0 ?step ?start ?rest
  case step =>
   rintro m st ⟨h9,h10,h11,_⟩
   apply oT (.exit 0)
   ·simp only[Z8,seval,h9,h10,h11,Int.lt_irrefl];rfl
   ·exact⟨rfl,by simp only[E8,seval,h9]⟩
  case start=>exact⟨by simp only[E8,seval]<;>rfl,by simp only[E8,seval]<;>rfl,by simp only[E8,seval]<;>rfl,rfl⟩
  case rest =>
   rintro e st ⟨rfl,h9⟩
   simp only[Z8,seval,h9];exact⟨_,bS rfl (by simp only[E8,seval,h9]<;>rfl) (by first|exact .v _|simp only[dU,h9]),-1,rfl,.inl rfl⟩
 have kc:=fun st d=>aJz ns hu hr hn i hc st d
 have hgt:∀x∈wW ns i,i<x∧0≤x∧x<ns.length:=fun x hx=>IX hu hr hx
 have hin:((wW ns i).length:Int)<1000000:=by
  have h1:(wW ns i).length≤ns.length:=by
   unfold wW;split
   ·simp
   ·exact Xd ns i ns.length
  omega
 obtain⟨l,el⟩:∃l,wW ns i=l:=⟨_,rfl⟩
 rw[el] at kc hgt hin;simp only[Z8,seval,kc];refine cE (fun m st=>∃(k:Nat) (xR:Int),(st.env 4=.ptr 4 0 0∧st.heap 4 0=some (.cells (cT ⟨ns⟩))∧st.env 1=.sl w.length (bE w)∧st.env 2=.sl b.length (mU b)∧st.env 10=.own 15 0∧st.heap 15 0=some (.row 3 1 l.length (aJ l))∧st.env 9=.v (.int .i64 xR)∧st.env 11=.v (.int .i64 k))∧(xR=-1∨(i<xR∧0≤xR∧xR<ns.length))∧k≤l.length∧m=l.length-k)
  (fun e st=>e=.exit 0∧∃xR:Int,st.env 9=.v (.int .i64 xR)∧(xR=-1∨(i<xR∧0≤xR∧xR<ns.length))) l.length ?step ?start ?rest
 case step =>
  rintro m st ⟨k,xR,hI,GS,hk,hm⟩
  by_cases aY:(k:Int)<l.length
  case neg =>
   apply oT (.exit 0)
   ·simp only[Z8,seval,hI,aY];rfl
   ·exact⟨rfl,xR,by simp only[E8,seval,hI],GS⟩
  have q0:(0:Int)≤k:=by omega
  have hwr:IntKind.i64.wrap ((k:Int)+1)=((k+1:Nat):Int):=by rw[pZ _ (by omega) (by omega)];omega
  have gi:=pF q0 aY
  obtain⟨c,ec⟩:∃c,it l (k:Int)=c:=⟨_,rfl⟩
  have hc:=hgt c (by rw[← ec];obtain⟨h1,h2⟩:=xN q0 aY;rw[h2];exact List.getElem_mem h1)
  obtain⟨c0,c1,c2⟩:=hc
  have c3:c<(w.length:Int):=by rw[hw];exact c2
  have c4:c<(b.length:Int):=by rw[hb];exact c2
  cases g1:gx false b c
  ·apply oN (l.length-(k+1))
   ·simp only[Z8,seval,hI,aY,q0,gi,ec,c1,c3,c4,g1,hwr,qA,qB];rfl
   ·exact⟨k+1,xR,by simp only[E8,seval,hI],GS,by omega,rfl⟩
  by_cases g2:xR<0
  ·apply oN (l.length-(k+1))
   ·simp only[Z8,seval,hI,aY,q0,gi,ec,c1,c3,c4,g1,g2,hwr,qA,qB];rfl
   ·exact⟨k+1,c,by simp only[E8,seval,hI],.inr ⟨c0,c1,c2⟩,by omega,rfl⟩
  have b1:0≤xR:=by omega
  have b2:xR<ns.length:=by omega
  have b3:xR<(w.length:Int):=by rw[hw];exact b2
  by_cases g3:gx (0:Int) w xR<gx (0:Int) w c
  ·apply oN (l.length-(k+1))
   ·simp only[Z8,seval,hI,aY,q0,gi,ec,c1,c3,c4,g1,g2,b1,b3,g3,hwr,qA,qB];rfl
   ·exact⟨k+1,c,by simp only[E8,seval,hI],.inr ⟨c0,c1,c2⟩,by omega,rfl⟩
  by_cases g4:gx (0:Int) w c=gx (0:Int) w xR
  case neg =>
   apply oN (l.length-(k+1))
   ·simp only[Z8,seval,hI,aY,q0,gi,ec,c1,c3,c4,g1,g2,b1,b3,g3,bf g4,hwr,qA,qB];rfl
   ·exact⟨k+1,xR,by simp only[E8,seval,hI],GS,by omega,rfl⟩
  by_cases g5:0<aJY (nd ns c).block.root (nd ns xR).block.root
  ·apply oN (l.length-(k+1))
   ·simp only[Z8,seval,hI,aY,q0,gi,ec,c1,c2,c3,c4,g1,g2,b1,b2,b3,g3,bt g4,aFC,g5,hwr,qA,qB];rfl
   ·exact⟨k+1,c,by simp only[E8,seval,hI],.inr ⟨c0,c1,c2⟩,by omega,rfl⟩
  ·apply oN (l.length-(k+1))
   ·simp only[Z8,seval,hI,aY,q0,gi,ec,c1,c2,c3,c4,g1,g2,b1,b2,b3,g3,bt g4,aFC,g5,hwr,qA,qB];rfl
   ·exact⟨k+1,xR,by simp only[E8,seval,hI],GS,by omega,rfl⟩
 case start=>exact⟨0,-1,by simp only[E8,seval]<;>rfl,.inl rfl,by omega,by omega⟩
 case rest =>
  rintro e st ⟨rfl,xR,h9,GS⟩
  simp only[Z8,seval,h9];exact⟨_,bS rfl (by simp only[E8,seval,h9]<;>rfl) (by first|exact .v _|simp only[dU,h9]),xR,rfl,GS⟩
theorem aPO {s:aN} {v:SV} {q:Int} (h:GI s v q):∃r,aC Tryz.prog 208 [.agg (aB s)]=some r∧∃k:Int,r=.v (.int .i64 k)∧0≤k∧k<v.ns.length:=by
 have hf:=h.sd.flat
 have hn:=h.sd.nn
 obtain⟨r1,e1,w,rfl,hw⟩:=aPC h
 obtain⟨r2,e2,b,rfl,hb⟩:=aPG h
 have k223:∀(st:St) (d:Nat),aM (aC Tryz.prog) 223 [.agg (aB s)] st (some d)=_:=fun st d=>jF (st:=st) (d:=d) (cU hf) e1
 have k224:∀(st:St) (d:Nat),aM (aC Tryz.prog) 224 [.agg (aB s)] st (some d)=_:=fun st d=>jF (st:=st) (d:=d) (cU hf) e2
 have hB:∀i:Int,∃k:Int,aC Tryz.prog 225 [.agg (cT ⟨v.ns⟩),.sl w.length (bE w),.sl b.length (mU b),.v (.int .i64 i)]=some (.v (.int .i64 k))∧(k=-1∨(i<k∧0≤k∧k<v.ns.length)):=fun i=>by
  obtain⟨r,hr,k,rfl,hk⟩:=aPN v.ns h.up h.NM hn w hw b hb i
  exact⟨k,hr,hk⟩
 have kB:∀(i:Int) (k:Int),aC Tryz.prog 225 [.agg (cT ⟨v.ns⟩),.sl w.length (bE w),.sl b.length (mU b),.v (.int .i64 i)]=some (.v (.int .i64 k))→∀(st:St) (g1 g2:Nat) (d:Option Nat),st.heap 8 g1=some (.row 23 1 w.length (bE w))→st.heap 10 g2=some (.row 4 1 b.length (mU b)) →
  aM (aC Tryz.prog) 225 [.agg (cT ⟨v.ns⟩),.own 8 g1,.own 10 g2,.v (.int .i64 i)] st d=some { dst:=d,val:=.v (.int .i64 k)}:=by
  intro i k hk st g1 g2 d hh1 uX;rw[lN,List.map_cons,List.map_cons,List.map_cons,List.map_cons,List.map_nil,Kb,vW,hh1,vV,vW,uX,o0,Sr,bL,bL,bL,bL,gK];exact Yl hk
 rw[cL Tryz.func208 rfl aKS rfl];simp only[Z8,seval,k223,k224,h.sd.tree,mQ _ _ hn];refine cE (fun m st=>∃i:Int,(st.env 1=.ptr 1 0 0∧st.heap 1 0=some (.cells (aB s))∧st.env 3=.own 8 0∧st.heap 8 0=some (.row 23 1 w.length (bE w))∧st.env 4=.own 10 0∧st.heap 10 0=some (.row 4 1 b.length (mU b))∧st.env 5=.v (.int .i64 i))∧0≤i∧i<v.ns.length∧m=v.ns.length-i.toNat)
  (fun e st=>e=.ret∧∃i:Int,st.env 2=.v (.int .i64 i)∧0≤i∧i<v.ns.length) (v.ns.length-(aO v.ns s.bJ.gW.root).toNat) ?step ?start ?rest
 case step =>
  rintro m st ⟨i,hI,i0,i1,hm⟩
  obtain⟨k,hk,hkk⟩:=hB i
  have kb:=kB i k hk
  by_cases aY:k<0
  ·apply oT (.ret)
   ·simp only[Z8,seval,hI,h.sd.tree,kb,aY];rfl
   ·exact⟨rfl,i,by simp only[E8,seval],i0,i1⟩
  ·apply oN (v.ns.length-k.toNat)
   ·simp only[Z8,seval,hI,h.sd.tree,kb,aY];rfl
   ·exact⟨k,by simp only[E8,seval,hI],by omega,by omega,rfl⟩
 case start=>exact⟨_,by simp only[E8,seval]<;>rfl,h.gW,(fN _ _).2,rfl⟩
 case rest =>
  rintro e st ⟨rfl,i,h2,i0,i1⟩
  simp only[Z8,seval];exact⟨_,bS rfl (by simp only[E8,seval,h2]<;>rfl) (by first|exact .v _|simp only[dU,h2]),i,rfl,i0,i1⟩
theorem VX (r:Command):Flat (.agg (eC r))=True:=eq_true (.agg _ (kZ r))
theorem aPP {s:aN} {v:SV} {q:Int} (h:GI s v q):∃r,aC Tryz.prog 199 [.agg (aB s)]=some r∧∃c:Command,r=.agg (eC c):=by
 have hf:=h.sd.flat
 obtain⟨r1,e1,k,rfl,k0,k1⟩:=aPO h
 have k208:=kx e1 (cU hf) (.v _)
 obtain⟨r2,e2,r,rfl⟩:=aPt h.sd
 have k209:=kx e2 (cU hf) (qP r)
 rw[cL Tryz.func199 rfl aKT rfl];simp only[Z8,seval,k208,k209,h.sd.tree,k0,k1];exact⟨_,fI rfl (by simp only[E8,seval,VX]<;>rfl) (by simp only[Z8,seval,VX]<;>rfl) (by simp only[dU,and_self,VX]),_,rfl⟩
theorem aKU (t:State) (hf:Flat (.agg (aF t))) {v:SV} {q:Int} (h:GI t.store v q):∃r,aC Tryz.prog 181 [.agg (aF t)]=some r∧∃(b:Bool) (c:Command) (y:AV),r=.eG [.agg (aF { t with zX:=b,last:=c }),y]∧Flat y:=by
 have ZQ:=h.sd.flat
 have kE:=(oG t).1 hf
 obtain⟨r1,e1,c,rfl⟩:=aPP h
 have aFU:=kx e1 (cU ZQ) (.agg _ (kZ c))
 have hfc:∀x∈eC c,Flat x:=kZ c
 have ex:jH (some (.row 56 96 1 (eC c)))=some (.sl 1 (eC c)):=by
  unfold jH;simp only[if_pos hfc]
 rw[cG Tryz.func181 rfl aKV (by kernel_rfl) rfl]
 have F2:Flat (.agg (aF { t with zX:=true,last:=c })):=(oG _).2 kE
 cases g1:t.zX
 ·simp only[ZG,seval,Bool.false_and,Prod.mk.injEq,S9,aFU,g1];exact⟨_,by apply dO;rfl;all_goals simp only[aI,bT,Z8,seval,F2,ex]<;>rfl,true,c,_,rfl,.sl _ _ hfc⟩
 ·by_cases g2:t.last=c
  ·simp only[ZG,seval,Bool.false_and,Prod.mk.injEq,S9,aFU,g1,g2];exact⟨_,by apply dO;rfl;all_goals simp only[aI,bT,Z8,seval,hf]<;>rfl,t.zX,t.last,_,rfl,.v _⟩
  ·simp only[ZG,seval,Bool.false_and,Prod.mk.injEq,S9,aFU,g1,g2];exact⟨_,by apply dO;rfl;all_goals simp only[aI,bT,Z8,seval,F2,ex]<;>rfl,true,c,_,rfl,.sl _ _ hfc⟩
theorem wrap_u64 (x:Int) (h1:0≤x) (h2:x<18446744073709551616):IntKind.u64.wrap x=x:=by
 unfold IntKind.wrap;simp[IntKind.signed,IntKind.bits]
 omega
theorem aKW (o:Option (List Int)) (hn:((ol o).length:Int)≤1000) (hb:∀x∈ol o,0≤x∧x≤1000):∃a:Int,aC Tryz.prog 175 [ov bE o]=some (.eG [.v (.int .u64 a),.v (.int .i64 0)])∧0≤a∧a≤1000000:=by
 suffices h:∃r,aC Tryz.prog 175 [ov bE o]=some r∧∃a:Int,r=.eG [.v (.int .u64 a),.v (.int .i64 0)]∧0≤a∧a≤1000000 by
  obtain⟨r,h,a,rfl,h1⟩:=h;exact⟨a,h,h1⟩
 have add:∀(a:Int) (k:Nat),0≤a∧a≤1000 * k→k<(ol o).length→DH a (gx (0:Int) (ol o) (k:Int))=(a+gx (0:Int) (ol o) (k:Int),0)∧0≤a+gx (0:Int) (ol o) (k:Int)∧a+gx (0:Int) (ol o) (k:Int)≤1000 * ((k+1:Nat):Int):=by
  intro a k ha hk;have hx:=hb _ (vU (z:=(0:Int)) (show (0:Int)≤k by omega) (show (k:Int)<(ol o).length by omega))
  obtain⟨x,ex⟩:∃x,gx (0:Int) (ol o) (k:Int)=x:=⟨_,rfl⟩
  rw[ex] at hx ⊢;have w1:IntKind.u64.wrap (18446744073709551615-x)=18446744073709551615-x:=wrap_u64 _ (by omega) (by omega)
  have w2:IntKind.u64.wrap (a+x)=a+x:=wrap_u64 _ (by omega) (by omega)
  unfold DH;rw[w1,w2,if_neg (by omega)]
  exact⟨rfl,by omega,by omega⟩
 rw[cL Tryz.func175 rfl aEl (by cases o<;>rfl)]
 simp only[Z8,seval];refine cE (fun m st=>∃(k:Nat) (a:Int),(st.env 0=ov bE o∧st.env 4=.v (.int .u64 a)∧st.env 5=.v (.int .i64 k))∧(0≤a∧a≤1000 * k)∧k≤(ol o).length∧m=(ol o).length-k)
  (fun e st=>e=.exit 0∧∃a:Int,st.env 4=.v (.int .u64 a)∧0≤a∧a≤1000000) (ol o).length ?step ?start ?rest
 case step =>
  rintro m st ⟨k,a,hI,ha,hk,hm⟩
  by_cases aY:(k:Int)<(ol o).length
  ·have q0:(0:Int)≤k:=by omega
   have hw:IntKind.i64.wrap ((k:Int)+1)=((k+1:Nat):Int):=by rw[pZ _ (by omega) (by omega)];omega
   obtain⟨h1,h2⟩:=add a k ha (by omega)
   apply oN ((ol o).length-(k+1))
   ·simp only[Z8,seval,hI,aY,q0,aFq,dY,h1,hw];rfl
   ·exact⟨k+1,_,by simp only[E8,seval,hI]<;>rfl,h2,by omega,rfl⟩
  ·apply oT (.exit 0)
   ·simp only[Z8,seval,hI,aY];rfl
   ·exact⟨rfl,a,by simp only[E8,seval,hI],by omega⟩
 case start=>exact⟨0,0,by simp only[E8,seval]<;>exact⟨rfl,rfl⟩,by omega,by omega,by omega⟩
 case rest =>
  rintro e st ⟨rfl,a,h,ha⟩
  simp only[Z8,seval,h];exact⟨_,dO rfl rfl rfl (by simp only[E8,seval,h]<;>rfl) (by simp only[E8,seval,h]<;>rfl),_,rfl,ha⟩
theorem aKX (t:Table) (b:Option (List Int)) (ht:t.jO=ov bE b) (hn:((ol b).length:Int)≤1000) (hb:∀x∈ol b,0≤x∧x≤1000):aC Tryz.prog 130 [.agg (cI t),.v (.int .i64 (ol b).length)]=some (.v (.int .i64 0)):=by
 obtain⟨a,hr,a0,a1⟩:=aKW b hn hb
 have D9:=kx hr (cU (dP b)) (.eG _ (bG (.v _) (.v _)))
 rw[cL Tryz.func130 rfl aEn rfl];refine jG ?_
 have h3:(4611686018427387904<a)=False:=eq_false (by omega)
 simp only[Z8,seval,ht,bt (rfl:((ol b).length:Int)=(ol b).length),D9,dY,h3];exact⟨_,bS rfl (by simp only[E8,seval]<;>rfl) (by first|exact .v _|simp only[dU]),rfl⟩
theorem aCe:mkRoot 1≠dE:=by decide
structure Qe (c:Config) (b:List Int):Prop where
 jO:c.jO=ov bE (some b)
 nb:1≤b.length∧b.length≤64
 bv:∀x∈b,0≤x∧x≤1000
 qW:1≤c.qW∧c.qW≤64
 bp:c.Ip≤100
 rY:1≤c.mD.rY∧c.mD.rY≤4096
 wY:0≤c.mD.wY∧c.mD.wY≤64
 qC:0≤c.mD.qC∧c.mD.qC≤256
 qX:1≤c.mD.qX∧c.mD.qX≤64
 oJ:0≤c.mD.oJ∧c.mD.oJ≤256
 back:1≤c.mD.rM∧c.mD.rM≤1048576
 gen:c.dX=mkRoot 1
 n6:6≤c.mD.rY
theorem aFV (n:Nat):((List.range n).flatMap fun _=>jP sR)=cP (List.replicate n sR):=by
 induction n with
 | zero=>rfl
 | succ n ih=>rw[List.range_succ,List.flatMap_append,ih,List.replicate_succ',cP,cP,List.flatMap_append];simp
theorem OM (t:Table):aR [t]=cI t:=by simp[aR]
def IZ (c:Config):Block:={ fD with root:=c.dX,gW:=⟨0,c.dX⟩,fin:=⟨0,c.dX⟩,dQ:=⟨⟨0,c.dX⟩,⟨0,c.dX⟩⟩}
def VY (c:Config) (b:List Int):aN:=⟨c,⟨ov cP (some (List.replicate b.length sR)),.v (.slice none 0 0)⟩,⟨⟨0,c.dX⟩,⟨0,c.dX⟩⟩,Bs,⟨.sl 1 (cB [⟨IZ c,-1,1⟩])⟩,0,dE,ov aR (some [⟨⟨0,c.dX⟩,ov bE (some b)⟩])⟩
def Wa (c:Config) (b:List Int):SV:={ B:=some b,L:=some (List.replicate b.length sR),Q:=none,E:=none,O:=none,ns:=[⟨IZ c,-1,1⟩],T:=some [⟨⟨0,c.dX⟩,ov bE (some b)⟩]}
theorem GI.new {c:Config} {b:List Int} (h:Qe c b):GI (VY c b) (Wa c b) 0:=by
 have hb:=h.nb
 refine⟨⟨h.jO,rfl,rfl,rfl,rfl,rfl,rfl, ?_, ?_, ?_, ?_, ?_, ?_, ?_, ?_, ?_⟩, ?_, ?_, ?_, ?_,h.rY.2,h.qW, ?_, ?_, ?_,h.wY.2, ?_,h.qC.2, ?_,h.qX.2, ?_,by omega, ?_⟩
 ·intro a ha;cases ha
 ·intro t ht;rw[show t=⟨⟨0,c.dX⟩,ov bE (some b)⟩ by simpa [Wa,ol] using ht]
  exact⟨some b,rfl,by show (b.length:Int)<_;omega⟩
 ·show (b.length:Int)<_;omega
 ·show ((List.replicate b.length sR).length:Int)<_;rw[List.length_replicate];omega
 ·show ((0:Nat):Int)<_;omega
 ·show ((0:Nat):Int)<_;omega
 ·show ((0:Nat):Int)<_;omega
 ·show ((1:Nat):Int)<_;omega
 ·show ((1:Nat):Int)<_;omega
 ·intro i h0 h1;have:i<((1:Nat):Int):=h1;omega
 ·rfl
 ·show 0<1;omega
 ·show ((1:Nat):Int)≤c.mD.rY;have:=h.rY.1;omega
 ·show (List.replicate b.length sR).length=b.length;rw[List.length_replicate]
 ·show (b.length:Int)≤1024;omega
 ·show ((0:Nat):Int)≤c.mD.wY;have:=h.wY.1;omega
 ·show ((0:Nat):Int)≤c.mD.qC;have:=h.qC.1;omega
 ·show ((1:Nat):Int)≤c.mD.qX;have:=h.qX.1;omega
 ·show ((0:Nat):Int)≤0;omega
 ·exact Qb (j:=0) (by omega) (by show (0:Int)<((1:Nat):Int);omega) rfl
theorem aPQ {c:Config} {b:List Int} (h:Qe c b):aC Tryz.prog 102 [.agg (bR c)]=some (.eG [.agg (aB (VY c b)),.v (.int .i64 0)]):=by
 obtain⟨hbal,hnb,hbv,hspe,hbp,h1,h2,h3,h4,h5,h6,hg0,_⟩:=h
 have hg:c.dX≠dE:=by rw[hg0];exact aCe
 have f1:=hspe.1;have f2:¬64<c.qW:=by omega
 have f1':¬c.qW<1:=by omega
 have f3:¬100<c.Ip:=by omega
 have f4:¬(1024:Int)<(b.length:Int):=by omega
 have f6:¬c.mD.rM<1:=by omega
 have f7:¬1048576<c.mD.rM:=by omega
 have n1:((ol (some b)).length:Int)<1000000:=by show (b.length:Int)<_;omega
 have hb0:(0:Int)≤(b.length:Int):=by omega
 have UO:(b.length:Int) * 48≤140737488355328:=by omega
 have ZO:(b.length:Int)≤(maxLen:Int):=by unfold maxLen;omega
 have zE:gX.aK=0:=rfl
 have kt:∀(st:St) (d:Option Nat),aM (aC Tryz.prog) 130 [.agg (cI ⟨⟨0,c.dX⟩,ov bE (some b)⟩),.v (.int .i64 b.length)] st d=some { dst:=d,val:=.v (.int .i64 0)}:=kx (aKX ⟨⟨0,c.dX⟩,ov bE (some b)⟩ (some b) rfl (by show (b.length:Int)≤_;omega) hbv) (bG ((kF ⟨⟨0,c.dX⟩,ov bE (some b)⟩).2 (dP (some b))) (.v _)) (.v _)
 have aFJ:=kx (aKc ⟨⟨0,c.dX⟩,ov bE (some b)⟩ (some b) rfl n1) (cU ((kF ⟨⟨0,c.dX⟩,ov bE (some b)⟩).2 (dP (some b)))) ((kF ⟨⟨0,c.dX⟩,ov bE (some b)⟩).2 (dP (some b)))
 rw[cL Tryz.func102 rfl aKY rfl];refine jG ?_
 simp only[Z8,seval,qA,qB,hbal,f1',f2,f3,f4,f6,f7,aOr,h1.1,h1.2,h2.1,h2.2,h3.1,h3.2,h4.1,h4.2,h5.1,h5.2,hg,zE,kt,hb0,UO,ZO,Int.toNat_natCast,aFV,aFJ,aOj,Gb b (show (b.length:Int)<1000000 by omega)]
 have exT:=Qa 1 [⟨⟨0,c.dX⟩,ov bE (some b)⟩] (by intro y hy;rw[List.mem_singleton] at hy;subst hy;exact dP (some b))
 rw[OM] at exT;have hcc:∀x,x=c.jO→({ mD:=c.mD,qW:=c.qW,Ip:=c.Ip,DJ:=c.DJ,dX:=c.dX,jO:=x }:Config)=c:=by rintro _ rfl;rfl
 have zs:gP.gE.iB=.v (.slice none 0 0)∧gP.dS.early=.v (.slice none 0 0)∧gP.dS.bV=.v (.slice none 0 0):=⟨rfl,rfl,rfl⟩
 exact⟨_,by apply dO;rfl;all_goals simp only[aI,bT,Z8,seval,bP,gJ,bA,vV,Xg,exT,bY,dU,zs]<;>rfl,by unfold VY;simp only[ov,List.length_replicate,OM,hcc (.sl b.length (bE b)) hbal.symm]<;>rfl⟩
end Go.Ab.Tryz
section
namespace Go.Ab
open Classical
theorem Kd [Ext] (P:Program) {f:Nat} {fn:Func} {c:Code} (hf:P.funcs[f]? = some fn) (hb:fn.body=some c) (oR:bF fn=true) (e sz m:Nat) (cs xs:List AV) (hx:Ext.ext f (.uniq e sz m cs :: xs)=none) :
 aC P f (.uniq e sz m cs :: xs)=cH (yS P c (St.tM e sz m cs xs)) (F4 P fn):=by
 simp only[bF,hb,Bool.and_eq_true,Bool.not_eq_true'] at oR;rw[ON P hf hb oR.1 e sz m cs xs hx,oR.2];rfl
theorem o6 [Ext] (P:Program) {f:Nat} {fn:Func} {c:Code} (hf:P.funcs[f]? = some fn) (hb:fn.body=some c) (oR:sL fn=true) (hc:lP c=true) (e sz m:Nat) (cs xs:List AV) (hx:Ext.ext f (.uniq e sz m cs :: xs)=none) :
 aC P f (.uniq e sz m cs :: xs)=cH (wQ P true c (St.tM e sz m cs xs)) (F4 P fn):=by
 rw[ON P hf hb oR e sz m cs xs hx,hc]
theorem zY [Ext] {P:Program} {fn:Func} {st:St} {e:Ex} {t s g ee sz n:Nat} {cs:List AV} (he:e=.ret∨e=.normal) (hr:fn.results.toList=[.tmp t]) (h1:st.env t=.own s g) (h2:st.heap s g=some (.row ee sz n cs)) (hm:∀c∈cs,fR c) :
 F4 P fn (e,st)=some (.uniq ee sz n cs):=OO he hr (by unfold kA;simp only[h1]) h2 hm
end Go.Ab
namespace Go.Ab.Tryz
open Classical Go.Proofs Go.Ab
theorem zZ (l:List Int):∀c∈kD l,fR c:=by
 intro c hc;unfold kD at hc;obtain⟨x,_,hx⟩:=List.mem_flatMap.1 hc
 rw[cU8,List.mem_singleton] at hx;subst hx;exact .v _
def Wr (F:Nat) (rest:List AV) (K:Int):Prop:=∀l:List Int,(l.length:Int)+K<900000→∃m:List Int,aC Tryz.prog F (.uniq 5 1 l.length (kD l) :: rest)=some (.uniq 5 1 m.length (kD m))∧(m.length:Int)≤l.length+K
def WrN (F:Nat) (rest:List AV) (K:Int):Prop:=∃m:List Int,aC Tryz.prog F (.v (.slice none 0 0) :: rest)=some (.uniq 5 1 m.length (kD m))∧(m.length:Int)≤K
theorem Wr.at {F:Nat} {rest:List AV} {K:Int} (h:Wr F rest K) (hr:∀x∈rest,Flat x) {l:List Int} (hl:(l.length:Int)+K<900000) :
 ∃m:List Int,(∀s k d c,mvE (aC Tryz.prog) F rest s k d c (some (.row 5 1 l.length (kD l)))=some { dst:=some d,val:=.own d c,dJ:=some (s,k,none),new:=some (d,[.row 5 1 m.length (kD m)])})∧(m.length:Int)≤l.length+K:=by
 obtain⟨m,h1,h2⟩:=h l hl
 exact⟨m,fun s k d c=>OP (vX l) hr h1,h2⟩
theorem WrN.at {F:Nat} {rest:List AV} {K:Int} (h:WrN F rest K) (hr:∀x∈rest,Flat x) :
 ∃m:List Int,(∀(st:St) (d:Nat),lI (aC Tryz.prog) F (.v (.slice none 0 0) :: rest) st (some d)=some { dst:=some d,val:=.own d (st.aP d),new:=some (d,[.row 5 1 m.length (kD m)])})∧(m.length:Int)≤K:=by
 obtain⟨m,h1,h2⟩:=h
 exact⟨m,fun st d=>VZ hr h1,h2⟩
def tb:Nat→Int
 | 0=>18446744073709551616
 | k+1=>tb k / 128+1
theorem tb9:tb 9=3:=by decide
theorem o7 (x:Int):x.fdiv (2 ^ min 7 IntKind.u64.bits)=x / 128:=by
 show x.fdiv 128=x / 128
 exact Int.fdiv_eq_ediv_of_nonneg x (by decide)
theorem aCf (l:List Int):kD l=l.map fun x=>.v (.int .u8 x):=by
 induction l with
 | nil=>rfl
 | cons a l ih=>simp only[kD,List.flatMap_cons,List.map_cons,cU8] at *;rw[ih];rfl
theorem OQ (r:cA):aV r=kD r.toList:=by rw[aCf];rfl
theorem Xj {P:Program} {T:Nat} {k:IntKind} {a b:Int}:gB P .or T (.v (.int k a)) (.v (.int k b))=some (.v (.int k (k.wrap (BitVec.ofInt k.bits a ||| BitVec.ofInt k.bits b).toNat))):=by simp[gB]
theorem aK0:dL Tryz.prog 27=none:=by kernel_rfl
theorem aK1 (r:cA) (st:St) (s g o:Nat) (h:st.heap s g=some (.cells (aV r))):cX Tryz.prog st 27 (.ptr s g o) none none=some (.vw s g o 32):=by
 simp only[cX,aK0,aFB,h]
theorem T3 (st:St) (s g:Nat) (r:cA) (h:st.heap s g=some (.cells (aV r))):aQ st (.vw s g 0 32)=some (r.toList.length,kD r.toList):=by
 have hl:(aV r).length=32:=aL r
 simp only[aQ,h,Nat.zero_add,List.drop_zero];rw[if_pos (by omega),List.take_of_length_le (by omega),OQ]
 simp
theorem Zl (n:Int) (hn:Rg n):Wr 215 [.v (.int .u64 n)] 10:=by
 intro l hl;suffices h:∃r,aC Tryz.prog 215 [.uniq 5 1 l.length (kD l),.v (.int .u64 n)]=some r∧∃m:List Int,r=.uniq 5 1 m.length (kD m)∧(m.length:Int)≤l.length+10 by
  obtain⟨r,h,m,rfl,h2⟩:=h;exact⟨m,h,h2⟩
 rw[Kd Tryz.prog Tryz.func215 rfl aEz _ _ _ _ _ (qY _ _)];simp only[Z8,seval,jB,mF,jC,kN,mG];refine cE (fun m st=>∃(x:Int) (k:Nat) (l':List Int) (a g:Nat),(st.env 0=.own a g∧st.heap a g=some (.row 5 1 l'.length (kD l'))∧st.env 1=.v (.int .u64 x))∧((a=0∧g=0)∨(a=13∧g<st.aP 13))∧l'.length=l.length+k∧0≤x∧x<tb k∧k≤9∧m=x.toNat)
  (fun e st=>e=.exit 0∧∃(x:Int) (l':List Int) (a g:Nat),(st.env 0=.own a g∧st.heap a g=some (.row 5 1 l'.length (kD l'))∧st.env 1=.v (.int .u64 x))∧a≠19∧(l'.length:Int)≤l.length+9) n.toNat ?step ?start ?rest
 case step =>
  rintro m st ⟨x,k,l',a,g,hI,JA,Ht,x0,hx,hk,hm⟩
  by_cases aY:127<x
  ·have hk8:k≤8:=by
    rcases Nat.lt_or_ge k 9 with h|h
    ·omega
    ·have:k=9:=by omega
     subst this;rw[tb9] at hx;omega
   have Sj:(l'.length:Int)<1000000:=by omega
   have Ke:x / 128<tb (k+1):=by show x / 128<tb k / 128+1;omega
   have ll:∀b:Int,(l'++[b]).length=l.length+(k+1):=fun b=>by rw[List.length_append,List.length_cons,List.length_nil];omega
   rcases JA with ⟨rfl,rfl⟩|⟨rfl,hg⟩
   ·apply oN ((x / 128).toNat)
    ·simp only[Z8,seval,hI,aY,Xj,Nj _ _ _ _ Sj,o7];rfl
    ·exact⟨x / 128,k+1,_,13,_,by and_intros<;>(simp only[E8,seval]<;>rfl),.inr ⟨rfl,by simp only[E8,seval]<;>omega⟩,ll _,by omega,Ke,by omega,rfl⟩
   ·have uY:(g=st.aP 13)=False:=eq_false (by omega)
    apply oN ((x / 128).toNat)
    ·simp only[Z8,seval,hI,aY,uY,Xj,Nj _ _ _ _ Sj,o7];rfl
    ·exact⟨x / 128,k+1,_,13,_,by and_intros<;>(simp only[E8,seval]<;>rfl),.inr ⟨rfl,by simp only[E8,seval]<;>omega⟩,ll _,by omega,Ke,by omega,rfl⟩
  ·apply oT (.exit 0)
   ·simp only[Z8,seval,hI,aY];rfl
   ·exact⟨rfl,x,l',a,g,by simp only[E8,seval,hI],by omega,by omega⟩
 case start=>exact⟨n,0,l,0,0,by simp only[E8,seval,jB,mF,jC,kN,mG]<;>rfl,.inl ⟨rfl,rfl⟩,rfl,hn.1,hn.2,by omega,rfl⟩
 case rest =>
  rintro e st ⟨rfl,x,l',a,g,hI,ha,Ht⟩
  have ha':(a=19)=False:=eq_false ha
  have Sj:(l'.length:Int)<1000000:=by omega
  simp only[Z8,seval,hI,ha',Nj _ _ _ _ Sj];exact⟨_,zY (.inl rfl) rfl (by simp only[E8,seval]<;>rfl) (by simp only[E8,seval]<;>rfl) (zZ _),_,rfl,by rw[List.length_append,List.length_cons,List.length_nil];omega⟩
theorem F5 (n:Int) (hn:Rg n):WrN 215 [.v (.int .u64 n)] 10:=by
 suffices h:∃r,aC Tryz.prog 215 [.v (.slice none 0 0),.v (.int .u64 n)]=some r∧∃m:List Int,r=.uniq 5 1 m.length (kD m)∧(m.length:Int)≤10 by
  obtain⟨r,h,m,rfl,h2⟩:=h;exact⟨m,h,h2⟩
 rw[cL Tryz.func215 rfl aEz rfl];simp only[Z8,seval];refine cE (fun m st=>∃(x:Int) (k:Nat),st.env 1=.v (.int .u64 x)∧((k=0∧st.env 0=.v (.slice none 0 0))∨∃(l':List Int) (g:Nat),(st.env 0=.own 13 g∧st.heap 13 g=some (.row 5 1 l'.length (kD l')))∧g<st.aP 13∧l'.length=k)∧0≤x∧x<tb k∧k≤9∧m=x.toNat)
  (fun e st=>e=.exit 0∧∃(x:Int),st.env 1=.v (.int .u64 x)∧(st.env 0=.v (.slice none 0 0)∨∃(l':List Int) (g:Nat),(st.env 0=.own 13 g∧st.heap 13 g=some (.row 5 1 l'.length (kD l')))∧(l'.length:Int)≤9)) n.toNat ?step ?start ?rest
 case step =>
  rintro m st ⟨x,k,hI,h0,x0,hx,hk,hm⟩
  by_cases aY:127<x
  ·have hk8:k≤8:=by
    rcases Nat.lt_or_ge k 9 with h|h
    ·omega
    ·have:k=9:=by omega
     subst this;rw[tb9] at hx;omega
   have Ke:x / 128<tb (k+1):=by show x / 128<tb k / 128+1;omega
   rcases h0 with ⟨uW,h0⟩|⟨l',g,h0,hg,Ht⟩
   ·have ll:∀b:Int,([b]:List Int).length=k+1:=fun b=>by rw[List.length_cons,List.length_nil];omega
    apply oN ((x / 128).toNat)
    ·simp only[Z8,seval,hI,h0,aY,Xj,WA,o7];rfl
    ·exact⟨x / 128,k+1,by simp only[E8,seval],.inr ⟨_,_,⟨by simp only[E8,seval]<;>rfl,by simp only[E8,seval]<;>rfl⟩,by simp only[E8,seval]<;>omega,ll _⟩,by omega,Ke,by omega,rfl⟩
   ·have Sj:(l'.length:Int)<1000000:=by omega
    have ll:∀b:Int,(l'++[b]).length=k+1:=fun b=>by rw[List.length_append,List.length_cons,List.length_nil];omega
    have uY:(g=st.aP 13)=False:=eq_false (by omega)
    apply oN ((x / 128).toNat)
    ·simp only[Z8,seval,hI,h0,aY,uY,Xj,Nj _ _ _ _ Sj,o7];rfl
    ·exact⟨x / 128,k+1,by simp only[E8,seval],.inr ⟨_,_,⟨by simp only[E8,seval]<;>rfl,by simp only[E8,seval]<;>rfl⟩,by simp only[E8,seval]<;>omega,ll _⟩,by omega,Ke,by omega,rfl⟩
  ·have h0':st.env 0=.v (.slice none 0 0)∨∃(l':List Int) (g:Nat),(st.env 0=.own 13 g∧st.heap 13 g=some (.row 5 1 l'.length (kD l')))∧(l'.length:Int)≤9:=by
    rcases h0 with ⟨_,h0⟩|⟨l',g,h0,hg,Ht⟩
    ·exact .inl h0
    ·exact .inr ⟨l',g,h0,by omega⟩
   apply oT (.exit 0)
   ·simp only[Z8,seval,hI,aY];rfl
   ·exact⟨rfl,x,by simp only[E8,seval,hI],by simpa only[E8,seval] using h0'⟩
 case start=>exact⟨n,0,by simp only[E8,seval]<;>rfl,.inl ⟨rfl,by simp only[E8,seval]<;>rfl⟩,hn.1,hn.2,by omega,rfl⟩
 case rest =>
  rintro e st ⟨rfl,x,hI,h0⟩
  rcases h0 with h0|⟨l',g,h0,Ht⟩
  ·simp only[Z8,seval,hI,h0,WA];exact⟨_,Qf (n:=([IntKind.u8.wrap x]:List Int).length) (cs:=kD [IntKind.u8.wrap x]) (aI (by decide)) (.inl rfl) rfl (by simp only[E8,seval]<;>rfl) (by simp only[E8,seval]<;>rfl) (vX _),_,rfl,by rw[List.length_cons,List.length_nil];omega⟩
  ·have Sj:(l'.length:Int)<1000000:=by omega
   simp only[Z8,seval,hI,h0,Nj _ _ _ _ Sj];exact⟨_,tC rfl (by simp only[E8,seval]<;>rfl) (by simp only[E8,seval]<;>rfl) (vX _),_,rfl,by rw[List.length_append,List.length_cons,List.length_nil];omega⟩
theorem JB (r:cA):Wr 226 [.agg (aV r)] 32:=by
 intro l hl;suffices h:∃x,aC Tryz.prog 226 [.uniq 5 1 l.length (kD l),.agg (aV r)]=some x∧∃m:List Int,x=.uniq 5 1 m.length (kD m)∧(m.length:Int)≤l.length+32 by
  obtain⟨r,h,m,rfl,h2⟩:=h;exact⟨m,h,h2⟩
 have Sj:(l.length:Int)<1000000:=by omega
 have hc:aV r=kD r.toList:=OQ r
 have hr:(r.toList.length:Int)<1000000:=by simp
 rw[Kd Tryz.prog Tryz.func226 rfl aK2 _ _ _ _ _ (qY _ _)];simp only[Z8,seval,jB,mF,jC,kN,mG,aK1 r,T3 _ _ _ r,WB _ _ _ _ Sj hr];exact⟨_,zY (.inl rfl) rfl (by simp only[E8,seval]<;>rfl) (by simp only[E8,seval]<;>rfl) (zZ _),_,rfl,by rw[List.length_append];simp⟩
theorem T4 (c:fV) (h:Rg c.aK):Wr 228 [.agg (bX c)] 42:=by
 intro l hl;suffices h:∃r,aC Tryz.prog 228 [.uniq 5 1 l.length (kD l),.agg (bX c)]=some r∧∃m:List Int,r=.uniq 5 1 m.length (kD m)∧(m.length:Int)≤l.length+42 by
  obtain⟨r,h,m,rfl,h2⟩:=h;exact⟨m,h,h2⟩
 obtain⟨m1,e1,b1⟩:=(Zl c.aK h).at (cU (.v _)) (l:=l) (by omega)
 obtain⟨m2,e2,b2⟩:=(JB c.root).at (cU (qP _)) (l:=m1) (by omega)
 rw[o6 Tryz.prog Tryz.func228 rfl aK3 (by kernel_rfl) _ _ _ _ _ (qY _ _)]
 simp only[ZG,seval,Bool.false_and,Prod.mk.injEq,aK4,jB,mF,jC,kN,mG,e1,e2];exact⟨_,zY (.inl rfl) rfl (by simp only[E8,seval]<;>rfl) (by simp only[E8,seval]<;>rfl) (zZ _),_,rfl,by omega⟩
end Go.Ab.Tryz
end
namespace Go.Ab.Tryz
open Classical Go.Proofs Go.Ab
theorem aK5 (o p:Option (List Int)) (hn:((ol o).length:Int)<1000000):∃r,aC Tryz.prog 105 [ov aJ o,ov aJ p]=some r∧∃b:Bool,r=.v (.bool b):=by
 rw[cL Tryz.func105 rfl aEA (by cases o<;>cases p<;>rfl)]
 by_cases g:((ol o).length:Int)=((ol p).length:Int)
 case neg =>
  simp only[Z8,seval,bf g];exact⟨_,bS rfl (by simp only[E8,seval]<;>rfl) (by first|exact .v _|simp only[dU]),_,rfl⟩
 simp only[Z8,seval,bt g];refine cE (fun m st=>∃k:Nat,(st.env 0=ov aJ o∧st.env 1=ov aJ p∧st.env 5=.v (.int .i64 k))∧k≤(ol o).length∧m=(ol o).length-k)
  (fun e st=>(e=.ret∧st.env 4=.v (.bool false))∨e=.exit 0) (ol o).length ?step ?start ?rest
 case step =>
  rintro m st ⟨k,hI,hk,hm⟩
  by_cases aY:(k:Int)<(ol o).length
  ·have q0:(0:Int)≤k:=by omega
   have q1:(k:Int)<((ol p).length:Int):=by omega
   have hw:IntKind.i64.wrap ((k:Int)+1)=((k+1:Nat):Int):=by rw[pZ _ (by omega) (by omega)];omega
   by_cases hh:gx (0:Int) (ol o) (k:Int)=gx (0:Int) (ol p) (k:Int)
   ·apply oN ((ol o).length-(k+1))
    ·simp only[Z8,seval,hI,aY,q0,q1,bt hh,hw];rfl
    ·exact⟨k+1,by simp only[E8,seval,hI],by omega,rfl⟩
   ·apply oT (.ret)
    ·simp only[Z8,seval,hI,aY,q0,q1,bf hh];rfl
    ·exact .inl ⟨rfl,by simp only[E8,seval]⟩
  ·apply oT (.exit 0)
   ·simp only[Z8,seval,hI,aY];rfl
   ·exact .inr rfl
 case start=>exact⟨0,by simp only[E8,seval]<;>rfl,by omega,by omega⟩
 case rest =>
  rintro e st (⟨rfl,h⟩|rfl)
  ·simp only[Z8,seval,h];exact⟨_,bS rfl (by simp only[E8,seval,h]<;>rfl) (by first|exact .v _|simp only[dU,h]),_,rfl⟩
  ·simp only[Z8,seval];exact⟨_,bS rfl (by simp only[E8,seval]<;>rfl) (by first|exact .v _|simp only[dU]),_,rfl⟩
theorem aPS (o p:Option (List Int)) (hn:((ol o).length:Int)<1000000):∃r,aC Tryz.prog 103 [ov bE o,ov bE p]=some r∧∃b:Bool,r=.v (.bool b):=by
 rw[cL Tryz.func103 rfl aEB (by cases o<;>cases p<;>rfl)]
 by_cases g:((ol o).length:Int)=((ol p).length:Int)
 case neg =>
  simp only[Z8,seval,bf g];exact⟨_,bS rfl (by simp only[E8,seval]<;>rfl) (by first|exact .v _|simp only[dU]),_,rfl⟩
 simp only[Z8,seval,bt g];refine cE (fun m st=>∃k:Nat,(st.env 0=ov bE o∧st.env 1=ov bE p∧st.env 5=.v (.int .i64 k))∧k≤(ol o).length∧m=(ol o).length-k)
  (fun e st=>(e=.ret∧st.env 4=.v (.bool false))∨e=.exit 0) (ol o).length ?step ?start ?rest
 case step =>
  rintro m st ⟨k,hI,hk,hm⟩
  by_cases aY:(k:Int)<(ol o).length
  ·have q0:(0:Int)≤k:=by omega
   have q1:(k:Int)<((ol p).length:Int):=by omega
   have hw:IntKind.i64.wrap ((k:Int)+1)=((k+1:Nat):Int):=by rw[pZ _ (by omega) (by omega)];omega
   by_cases hh:gx (0:Int) (ol o) (k:Int)=gx (0:Int) (ol p) (k:Int)
   ·apply oN ((ol o).length-(k+1))
    ·simp only[Z8,seval,hI,aY,q0,q1,bt hh,hw];rfl
    ·exact⟨k+1,by simp only[E8,seval,hI],by omega,rfl⟩
   ·apply oT (.ret)
    ·simp only[Z8,seval,hI,aY,q0,q1,bf hh];rfl
    ·exact .inl ⟨rfl,by simp only[E8,seval]⟩
  ·apply oT (.exit 0)
   ·simp only[Z8,seval,hI,aY];rfl
   ·exact .inr rfl
 case start=>exact⟨0,by simp only[E8,seval]<;>rfl,by omega,by omega⟩
 case rest =>
  rintro e st (⟨rfl,h⟩|rfl)
  ·simp only[Z8,seval,h];exact⟨_,bS rfl (by simp only[E8,seval,h]<;>rfl) (by first|exact .v _|simp only[dU,h]),_,rfl⟩
  ·simp only[Z8,seval];exact⟨_,bS rfl (by simp only[E8,seval]<;>rfl) (by first|exact .v _|simp only[dU]),_,rfl⟩
theorem aPT (a b:sH) (ha:Dk a) (hb:Dk b):∃r,aC Tryz.prog 108 [.agg (gY a),.agg (gY b)]=some r∧∃b:Bool,r=.v (.bool b):=by
 obtain⟨V,hV,nV⟩:=ha
 obtain⟨W,hW,nW⟩:=hb
 obtain⟨r1,e1,B,rfl⟩:=aK5 V W nV
 have T5:=kx e1 (bG (bO V) (bO W)) (.v _)
 rw[cL Tryz.func108 rfl aEC rfl];by_cases g1:a.slot=b.slot
 case neg =>
  simp only[Z8,seval,hV,hW,bf g1];exact⟨_,bS rfl (by simp only[E8,seval]<;>rfl) (by first|exact .v _|simp only[dU]),_,rfl⟩
 by_cases g2:a.root=b.root
 case neg =>
  simp only[Z8,seval,hV,hW,bt g1,g2];exact⟨_,bS rfl (by simp only[E8,seval]<;>rfl) (by first|exact .v _|simp only[dU]),_,rfl⟩
 by_cases g3:a.target=b.target
 case neg =>
  simp only[Z8,seval,hV,hW,bt g1,g2,g3];exact⟨_,bS rfl (by simp only[E8,seval]<;>rfl) (by first|exact .v _|simp only[dU]),_,rfl⟩
 simp only[Z8,seval,hV,hW,bt g1,g2,g3,T5];exact⟨_,bS rfl (by simp only[E8,seval]<;>rfl) (by first|exact .v _|simp only[dU]),_,rfl⟩
theorem aPU (a b:Table) (ha:sP a) (hb:sP b):∃r,aC Tryz.prog 159 [.agg (cI a),.agg (cI b)]=some r∧∃b:Bool,r=.v (.bool b):=by
 obtain⟨V,hV,nV⟩:=ha
 obtain⟨W,hW,nW⟩:=hb
 obtain⟨r1,e1,B,rfl⟩:=aPS V W nV
 have aCg:=kx e1 (bG (dP V) (dP W)) (.v _)
 rw[cL Tryz.func159 rfl aED rfl];by_cases g1:a.ck=b.ck
 case neg =>
  simp only[Z8,seval,hV,hW,g1];exact⟨_,bS rfl (by simp only[E8,seval]<;>rfl) (by first|exact .v _|simp only[dU]),_,rfl⟩
 simp only[Z8,seval,hV,hW,g1,aCg];exact⟨_,bS rfl (by simp only[E8,seval]<;>rfl) (by first|exact .v _|simp only[dU]),_,rfl⟩
def xB (a:Claim):Prop:=∃V:Option (List Int),a.eU=ov aJ V∧((ol V).length:Int)≤1000
theorem xB.fl {a:Claim} (h:xB a):Flat (.agg (gT a)):=by obtain⟨V,h,_⟩:=h;exact (zQ a).2 (by rw[h];exact bO V)
theorem aK6 (a b:Claim) (ha:xB a) (hb:xB b):∃r,aC Tryz.prog 232 [.agg (gT a),.agg (gT b)]=some r∧∃b:Bool,r=.v (.bool b):=by
 obtain⟨V,hV,nV⟩:=ha
 obtain⟨W,hW,nW⟩:=hb
 obtain⟨r1,e1,B,rfl⟩:=aK5 V W (by omega)
 have T5:=kx e1 (bG (bO V) (bO W)) (.v _)
 rw[cL Tryz.func232 rfl aK7 rfl];by_cases g1:a.source=b.source
 case neg =>
  simp only[Z8,seval,hV,hW,bf g1];exact⟨_,bS rfl (by simp only[E8,seval]<;>rfl) (by first|exact .v _|simp only[dU]),_,rfl⟩
 by_cases g2:a.target=b.target
 case neg =>
  simp only[Z8,seval,hV,hW,bt g1,bf g2];exact⟨_,bS rfl (by simp only[E8,seval]<;>rfl) (by first|exact .v _|simp only[dU]),_,rfl⟩
 by_cases g3:a.root=b.root
 case neg =>
  simp only[Z8,seval,hV,hW,bt g1,bt g2,g3];exact⟨_,bS rfl (by simp only[E8,seval]<;>rfl) (by first|exact .v _|simp only[dU]),_,rfl⟩
 simp only[Z8,seval,hV,hW,bt g1,bt g2,g3,T5];exact⟨_,bS rfl (by simp only[E8,seval]<;>rfl) (by first|exact .v _|simp only[dU]),_,rfl⟩
theorem aPV (a b:fY) (h1:xB a.first) (h2:xB a.second) (h3:xB b.first) (h4:xB b.second):∃r,aC Tryz.prog 216 [.agg (bZ a),.agg (bZ b)]=some r∧∃b:Bool,r=.v (.bool b):=by
 obtain⟨r1,e1,B1,rfl⟩:=aK6 a.first b.first h1 h3
 obtain⟨r2,e2,B2,rfl⟩:=aK6 a.second b.second h2 h4
 have k1:=kx e1 (bG h1.fl h3.fl) (.v _)
 have k2:=kx e2 (bG h2.fl h4.fl) (.v _)
 rw[cL Tryz.func216 rfl aK8 rfl];cases B1
 ·simp only[Z8,seval,k1];exact⟨_,bS rfl (by simp only[E8,seval]<;>rfl) (by first|exact .v _|simp only[dU]),_,rfl⟩
 ·simp only[Z8,seval,k1,k2];exact⟨_,bS rfl (by simp only[E8,seval]<;>rfl) (by first|exact .v _|simp only[dU]),_,rfl⟩
structure pG (x:xL):Prop where
 Hl:∃V:Option (List Int),x.Hl.eU=ov aJ V∧((ol V).length:Int)≤1000
 c1:xB x.oU.first
 c2:xB x.oU.second
 WC:∃b:Option (List Int),x.table.jO=ov bE b∧((ol b).length:Int)≤1000∧∀y∈ol b,Rg y
 rb:RB x.block
 ra:Rg x.Hl.slot∧Rg x.Hl.target.aK
 rs:Rg x.oU.first.source∧Rg x.oU.first.target∧Rg x.oU.second.source∧Rg x.oU.second.target
 rt:Rg x.table.ck.aK
 rv:Rg x.verdict.tagged.tag
theorem pG.aEE {x:xL} (h:pG x):Dk x.Hl:=by obtain⟨V,h1,h2⟩:=h.Hl;exact⟨V,h1,by omega⟩
theorem pG.T6 {x:xL} (h:pG x):sP x.table:=by obtain⟨V,h1,h2,_⟩:=h.WC;exact⟨V,h1,by omega⟩
theorem pG.fl {x:xL} (h:pG x):Flat x.Hl.eU∧Flat x.oU.first.eU∧Flat x.oU.second.eU∧Flat x.table.jO:=by
 obtain⟨V,h1,_⟩:=h.Hl;obtain⟨V2,h2,_⟩:=h.c1;obtain⟨V3,h3,_⟩:=h.c2;obtain⟨V4,h4,_⟩:=h.WC
 rw[h1,h2,h3,h4];exact⟨bO _,bO _,bO _,dP _⟩
theorem pG.flat {x:xL} (h:pG x):Flat (.agg (kY x)):=(VF x).2 h.fl
theorem WD (a b:xL) (ha:pG a) (hb:pG b):∃r,aC Tryz.prog 201 [.agg (kY a),.agg (kY b)]=some r∧∃b:Bool,r=.v (.bool b):=by
 have fa:=ha.fl
 have fb:=hb.fl
 obtain⟨r1,e1,B1,rfl⟩:=aPT a.Hl b.Hl ha.aEE hb.aEE
 obtain⟨r2,e2,B2,rfl⟩:=aPV a.oU b.oU ha.c1 ha.c2 hb.c1 hb.c2
 obtain⟨r3,e3,B3,rfl⟩:=aPU a.table b.table ha.T6 hb.T6
 have k1:=kx e1 (bG ((zP _).2 fa.1) ((zP _).2 fb.1)) (.v _)
 have k2:=kx e2 (bG ((nD _).2 ⟨fa.2.1,fa.2.2.1⟩) ((nD _).2 ⟨fb.2.1,fb.2.2.1⟩)) (.v _)
 have k3:=kx e3 (bG ((kF _).2 fa.2.2.2) ((kF _).2 fb.2.2.2)) (.v _)
 rw[cL Tryz.func201 rfl aK9 rfl];by_cases g1:a.kind=b.kind
 case neg =>
  simp only[Z8,seval,qA,qB,bf g1];exact⟨_,bS rfl (by simp only[E8,seval]<;>rfl) (by first|exact .v _|simp only[dU]),_,rfl⟩
 by_cases g2:a.block=b.block
 case neg =>
  simp only[Z8,seval,qA,qB,bt g1,g2];exact⟨_,bS rfl (by simp only[E8,seval]<;>rfl) (by first|exact .v _|simp only[dU]),_,rfl⟩
 cases B1
 ·simp only[Z8,seval,qA,qB,bt g1,g2,k1];exact⟨_,bS rfl (by simp only[E8,seval]<;>rfl) (by first|exact .v _|simp only[dU]),_,rfl⟩
 cases B2
 ·simp only[Z8,seval,qA,qB,bt g1,g2,k1,k2];exact⟨_,bS rfl (by simp only[E8,seval]<;>rfl) (by first|exact .v _|simp only[dU]),_,rfl⟩
 cases B3
 ·simp only[Z8,seval,qA,qB,bt g1,g2,k1,k2,k3];exact⟨_,bS rfl (by simp only[E8,seval]<;>rfl) (by first|exact .v _|simp only[dU]),_,rfl⟩
 by_cases g3:a.verdict=b.verdict
 case neg =>
  simp only[Z8,seval,qA,qB,bt g1,g2,k1,k2,k3,g3];exact⟨_,bS rfl (by simp only[E8,seval]<;>rfl) (by first|exact .v _|simp only[dU]),_,rfl⟩
 by_cases g4:a.write=b.write
 case neg =>
  simp only[Z8,seval,qA,qB,bt g1,g2,k1,k2,k3,g3,bf g4];exact⟨_,bS rfl (by simp only[E8,seval]<;>rfl) (by first|exact .v _|simp only[dU]),_,rfl⟩
 simp only[Z8,seval,qA,qB,bt g1,g2,k1,k2,k3,g3,bt g4];exact⟨_,bS rfl (by simp only[E8,seval]<;>rfl) (by first|exact .v _|simp only[dU]),_,rfl⟩
theorem aCh (cs:List AV) (o:Nat) (h:32≤cs.length-o):eK Tryz.prog 26 cs o=some (.agg (rd cs o 32)):=by
 have e:fO Tryz.prog 26=some (true,32):=by kernel_rfl
 unfold eK;simp only[e];rw[if_pos ⟨by omega,h⟩]
theorem T7:sY Tryz.prog 26=some 32:=by kernel_rfl
theorem aLa:dW Tryz.prog 26=some tQ:=by kernel_rfl
theorem aLb:jL Tryz.prog 26=some (32,1):=by kernel_rfl
theorem aLc:dL Tryz.prog 26=none:=by kernel_rfl
theorem aLd (r:cA) (st:St) (s g o:Nat) (h:st.heap s g=some (.cells (aV r))):cX Tryz.prog st 26 (.ptr s g o) none none=some (.vw s g o 32):=by
 simp only[cX,aLc,aLb,h]
theorem aFX (st:St) (x:AV) {k:IntKind} {i:Int} (h0:0≤i) (h1:i<32):bD Tryz.prog st 26 x (.v (.int k i))=vL x (i.toNat * 1):=II aLb st x h0 h1
theorem xS (x:Int):(IntKind.u64.wrap x<0)=False:=by
 refine eq_false ?_
 unfold IntKind.wrap;simp[IntKind.signed,IntKind.bits]
 omega
theorem aPW (w:rL):∃r:cA,aC Tryz.prog 246 [.agg (gF w)]=some (.agg (aV r)):=by
 suffices h:∃x,aC Tryz.prog 246 [.agg (gF w)]=some x∧∃r:cA,x=.agg (aV r) by
  obtain⟨x,h,r,rfl⟩:=h;exact⟨r,h⟩
 rw[cL Tryz.func246 rfl aLe rfl];simp only[Z8,seval,aLa];refine cE (fun m st=>∃(k:Nat) (r:cA),(st.env 1=.ptr 1 0 0∧st.heap 1 0=some (.cells (gF w))∧st.env 3=.ptr 3 0 0∧st.heap 3 0=some (.cells (aV r))∧st.env 2=.ptr 2 0 0∧st.heap 2 0=some (.cells (aV dE))∧st.env 4=.v (.int .i64 k))∧k≤32∧m=32-k)
  (fun e st=>e=.exit 0∧∃r:cA,st.env 3=.ptr 3 0 0∧st.heap 3 0=some (.cells (aV r))∧st.env 2=.ptr 2 0 0∧st.heap 2 0=some (.cells (aV dE))) 32 ?step ?start ?rest
 case step =>
  rintro m st ⟨k,r,hI,hk,hm⟩
  by_cases aY:(k:Int)<32
  ·have q0:(0:Int)≤k:=by omega
   have hw:IntKind.i64.wrap ((k:Int)+1)=((k+1:Nat):Int):=by rw[pZ _ (by omega) (by omega)];omega
   obtain⟨i,hi⟩:∃i:Int,i=31-(k:Int):=⟨_,rfl⟩
   have hi1:IntKind.i64.wrap (31-(k:Int))=i:=by rw[pZ _ (by omega) (by omega),hi]
   have i0:0≤i:=by omega
   have i1:i<32:=by omega
   have hj:IntKind.i64.wrap ((k:Int).tdiv 8)=(k:Int) / 8:=by rw[Int.tdiv_eq_ediv_of_nonneg q0,pZ _ (by omega) (by omega)]
   have j0:0≤(k:Int) / 8:=by omega
   have j1:(k:Int) / 8<4:=by omega
   have i31:i.toNat≤31:=by omega
   have gw:=Sp w j0 j1
   have Yj:=fun x=>Ye r i.toNat (i.toNat+1) x (by omega) rfl
   apply oN (32-(k+1))
   ·simp only[Z8,seval,hI,aY,q0,hi1,i0,i1,hj,j0,j1,Ik,aFX,gw,i31,Yj,xS,Nat.mul_one,hw];rfl
   ·exact⟨k+1,_,by simp only[E8,seval,hI]<;>rfl,by omega,rfl⟩
  ·apply oT (.exit 0)
   ·simp only[Z8,seval,hI,aY];rfl
   ·exact⟨rfl,r,by simp only[E8,seval,hI]⟩
 case start=>exact⟨0,dE,by simp only[E8,seval]<;>rfl,by omega,by omega⟩
 case rest =>
  rintro e st ⟨rfl,r,hI⟩
  simp only[Z8,seval,hI,aCh,T7];exact⟨_,fI rfl (by simp only[E8,seval,hI,aCh,T7]<;>rfl) (by simp only[Z8,seval,hI,aCh,T7]<;>rfl) (by simp only[dU,and_self,hI,aCh,T7]),r,rfl⟩
theorem aPX (w:rL):∃r:cA,∀(st:St) (d:Option Nat),aM (aC Tryz.prog) 246 [.agg (gF w)] st d=some { dst:=d,val:=.agg (aV r)}:=by
 obtain⟨r,h⟩:=aPW w
 exact⟨r,kx h (cU (.agg _ (iM w))) (qP r)⟩
theorem aLf (x:rL):Wr 227 [.agg (gF x)] 32:=by
 intro l hl;suffices h:∃r,aC Tryz.prog 227 [.uniq 5 1 l.length (kD l),.agg (gF x)]=some r∧∃m:List Int,r=.uniq 5 1 m.length (kD m)∧(m.length:Int)≤l.length+32 by
  obtain⟨r,h,m,rfl,h2⟩:=h;exact⟨m,h,h2⟩
 have Sj:(l.length:Int)<1000000:=by omega
 obtain⟨r,kr⟩:=aPX x
 have hr:(r.toList.length:Int)<1000000:=by simp
 rw[Kd Tryz.prog Tryz.func227 rfl aLg _ _ _ _ _ (qY _ _)];simp only[Z8,seval,jB,mF,jC,kN,mG,kr,aLa,T7,aLd r,T3 _ _ _ r,WB _ _ _ _ Sj hr];exact⟨_,zY (.inl rfl) rfl (by simp only[E8,seval]<;>rfl) (by simp only[E8,seval]<;>rfl) (zZ _),_,rfl,by rw[List.length_append];simp⟩
theorem aPY (b:Bool):Wr 229 [.v (.bool b)] 1:=by
 intro l hl;suffices h:∃r,aC Tryz.prog 229 [.uniq 5 1 l.length (kD l),.v (.bool b)]=some r∧∃m:List Int,r=.uniq 5 1 m.length (kD m)∧(m.length:Int)≤l.length+1 by
  obtain⟨r,h,m,rfl,h2⟩:=h;exact⟨m,h,h2⟩
 have Sj:(l.length:Int)<1000000:=by omega
 rw[Kd Tryz.prog Tryz.func229 rfl aLh _ _ _ _ _ (qY _ _)];cases b
 all_goals
  simp only[Z8,seval,jB,mF,jC,kN,mG,Nj _ _ _ _ Sj];exact⟨_,zY (.inl rfl) rfl (by simp only[E8,seval]<;>rfl) (by simp only[E8,seval]<;>rfl) (zZ _),_,rfl,by rw[List.length_append,List.length_cons,List.length_nil];omega⟩
theorem jV (x:Int):Rg (IntKind.u64.wrap x):=by
 unfold Rg IntKind.wrap;simp[IntKind.signed,IntKind.bits]
 omega
theorem aFY (V:Option (List Int)) (nV:((ol V).length:Int)≤1000):Wr 230 [ov aJ V] 10010:=by
 intro l hl;suffices h:∃r,aC Tryz.prog 230 [.uniq 5 1 l.length (kD l),ov aJ V]=some r∧∃m:List Int,r=.uniq 5 1 m.length (kD m)∧(m.length:Int)≤l.length+10010 by
  obtain⟨r,h,m,rfl,h2⟩:=h;exact⟨m,h,h2⟩
 obtain⟨m1,e1,b1⟩:=(Zl _ (jV ((ol V).length:Int))).at (cU (.v _)) (l:=l) (by omega)
 rw[Kd Tryz.prog Tryz.func230 rfl aLi _ _ _ _ _ (qY _ _)];simp only[Z8,seval,jB,mF,jC,kN,mG,e1];refine cE (fun m st=>∃(k:Nat) (p:List Int) (a g:Nat),(st.env 0=.own a g∧st.heap a g=some (.row 5 1 p.length (kD p))∧st.env 1=ov aJ V∧st.env 5=.v (.int .i64 k))∧((a=10∧g<st.aP 10)∨(a=24∧g<st.aP 24)∨(a=38∧g<st.aP 38))∧(p.length:Int)≤l.length+10+10 * k∧k≤(ol V).length∧m=(ol V).length-k)
  (fun e st=>e=.exit 0∧∃(p:List Int) (a g:Nat),(st.env 0=.own a g∧st.heap a g=some (.row 5 1 p.length (kD p)))∧(p.length:Int)≤l.length+10010) (ol V).length ?step ?start ?rest
 case step =>
  rintro m st ⟨k,p,a,g,hI,JA,hp,hk,hm⟩
  by_cases aY:(k:Int)<(ol V).length
  ·have q0:(0:Int)≤k:=by omega
   have hw:IntKind.i64.wrap ((k:Int)+1)=((k+1:Nat):Int):=by rw[pZ _ (by omega) (by omega)];omega
   have fin:∀(p':List Int),(p'.length:Int)≤p.length+10→(p'.length:Int)≤l.length+10+10 * ((k+1:Nat):Int):=fun p' h=>by omega
   by_cases h1:(k:Int)=0
   ·have z0:(0:Int)<((ol V).length:Int):=by omega
    have z1:(0:Int)≤0:=by omega
    obtain⟨p',e2,b2⟩:=(Zl _ (jV (gx (0:Int) (ol V) (0:Int)))).at (cU (.v _)) (l:=p) (by omega)
    rcases JA with ⟨rfl,hg⟩|⟨rfl,hg⟩|⟨rfl,hg⟩
    ·apply oN ((ol V).length-(k+1))
     ·simp only[Z8,seval,hI,aY,q0,bt h1,z0,z1,e2,hw];rfl
     ·exact⟨k+1,p',_,_,⟨by simp only[E8,seval]<;>rfl,by simp only[E8,seval]<;>rfl,by simp only[E8,seval,hI],by simp only[E8,seval]⟩,.inr (.inl ⟨rfl,by simp only[E8,seval]<;>omega⟩),fin p' b2,by omega,rfl⟩
    ·have uY:(g=st.aP 24)=False:=eq_false (by omega)
     apply oN ((ol V).length-(k+1))
     ·simp only[Z8,seval,hI,uY,aY,q0,bt h1,z0,z1,e2,hw];rfl
     ·exact⟨k+1,p',_,_,⟨by simp only[E8,seval]<;>rfl,by simp only[E8,seval]<;>rfl,by simp only[E8,seval,hI],by simp only[E8,seval]⟩,.inr (.inl ⟨rfl,by simp only[E8,seval]<;>omega⟩),fin p' b2,by omega,rfl⟩
    ·apply oN ((ol V).length-(k+1))
     ·simp only[Z8,seval,hI,aY,q0,bt h1,z0,z1,e2,hw];rfl
     ·exact⟨k+1,p',_,_,⟨by simp only[E8,seval]<;>rfl,by simp only[E8,seval]<;>rfl,by simp only[E8,seval,hI],by simp only[E8,seval]⟩,.inr (.inl ⟨rfl,by simp only[E8,seval]<;>omega⟩),fin p' b2,by omega,rfl⟩
   ·have P6:IntKind.i64.wrap ((k:Int)-1)=(k:Int)-1:=pZ _ (by omega) (by omega)
    have y0:(0:Int)≤(k:Int)-1:=by omega
    have y1:(k:Int)-1<((ol V).length:Int):=by omega
    obtain⟨p',e2,b2⟩:=(Zl _ (jV (IntKind.i64.wrap (IntKind.i64.wrap (gx (0:Int) (ol V) (k:Int)-gx (0:Int) (ol V) ((k:Int)-1))-1)))).at (cU (.v _)) (l:=p) (by omega)
    rcases JA with ⟨rfl,hg⟩|⟨rfl,hg⟩|⟨rfl,hg⟩
    ·apply oN ((ol V).length-(k+1))
     ·simp only[Z8,seval,hI,aY,q0,bf h1,P6,y0,y1,e2,hw];rfl
     ·exact⟨k+1,p',_,_,⟨by simp only[E8,seval]<;>rfl,by simp only[E8,seval]<;>rfl,by simp only[E8,seval,hI],by simp only[E8,seval]⟩,.inr (.inr ⟨rfl,by simp only[E8,seval]<;>omega⟩),fin p' b2,by omega,rfl⟩
    ·apply oN ((ol V).length-(k+1))
     ·simp only[Z8,seval,hI,aY,q0,bf h1,P6,y0,y1,e2,hw];rfl
     ·exact⟨k+1,p',_,_,⟨by simp only[E8,seval]<;>rfl,by simp only[E8,seval]<;>rfl,by simp only[E8,seval,hI],by simp only[E8,seval]⟩,.inr (.inr ⟨rfl,by simp only[E8,seval]<;>omega⟩),fin p' b2,by omega,rfl⟩
    ·have uY:(g=st.aP 38)=False:=eq_false (by omega)
     apply oN ((ol V).length-(k+1))
     ·simp only[Z8,seval,hI,uY,aY,q0,bf h1,P6,y0,y1,e2,hw];rfl
     ·exact⟨k+1,p',_,_,⟨by simp only[E8,seval]<;>rfl,by simp only[E8,seval]<;>rfl,by simp only[E8,seval,hI],by simp only[E8,seval]⟩,.inr (.inr ⟨rfl,by simp only[E8,seval]<;>omega⟩),fin p' b2,by omega,rfl⟩
  ·apply oT (.exit 0)
   ·simp only[Z8,seval,hI,aY];rfl
   ·exact⟨rfl,p,a,g,by simp only[E8,seval,hI],by omega⟩
 case start=>exact⟨0,m1,10,0,by and_intros<;>(simp only[E8,seval,jB,mF,jC,kN,mG]<;>rfl),.inl ⟨rfl,by simp only[E8,seval,jB,mF,jC,kN,mG]<;>omega⟩,by omega,by omega,by omega⟩
 case rest =>
  rintro e st ⟨rfl,p,a,g,hI,hp⟩
  simp only[Z8,seval,hI];exact⟨_,zY (.inl rfl) rfl (by simp only[E8,seval]<;>rfl) (by simp only[E8,seval,hI]<;>rfl) (zZ _),_,rfl,hp⟩
theorem aPZ (c:Claim) (V:Option (List Int)) (hV:c.eU=ov aJ V) (nV:((ol V).length:Int)≤1000) (h1:Rg c.source) (h2:Rg c.target):Wr 231 [.agg (gT c)] 10100:=by
 intro l hl;suffices h:∃r,aC Tryz.prog 231 [.uniq 5 1 l.length (kD l),.agg (gT c)]=some r∧∃m:List Int,r=.uniq 5 1 m.length (kD m)∧(m.length:Int)≤l.length+10100 by
  obtain⟨r,h,m,rfl,h2⟩:=h;exact⟨m,h,h2⟩
 obtain⟨m1,e1,b1⟩:=(Zl c.source h1).at (cU (.v _)) (l:=l) (by omega)
 obtain⟨m2,e2,b2⟩:=(Zl c.target h2).at (cU (.v _)) (l:=m1) (by omega)
 obtain⟨m3,e3,b3⟩:=(JB c.root).at (cU (qP _)) (l:=m2) (by omega)
 obtain⟨m4,e4,b4⟩:=(aFY V nV).at (cU (bO V)) (l:=m3) (by omega)
 rw[o6 Tryz.prog Tryz.func231 rfl aEF (by kernel_rfl) _ _ _ _ _ (qY _ _)]
 simp only[ZG,seval,Bool.false_and,Prod.mk.injEq,aEG,jB,mF,jC,kN,mG,e1,e2,e3,e4,hV,Bq,Br,Gx,Gy];exact⟨_,zY (.inl rfl) rfl (by simp only[E8,seval]<;>rfl) (by simp only[E8,seval]<;>rfl) (zZ _),_,rfl,by omega⟩
theorem aP0 (c:Claim) (V:Option (List Int)) (hV:c.eU=ov aJ V) (nV:((ol V).length:Int)≤1000) (h1:Rg c.source) (h2:Rg c.target):WrN 231 [.agg (gT c)] 10100:=by
 suffices h:∃r,aC Tryz.prog 231 [.v (.slice none 0 0),.agg (gT c)]=some r∧∃m:List Int,r=.uniq 5 1 m.length (kD m)∧(m.length:Int)≤10100 by
  obtain⟨r,h,m,rfl,h2⟩:=h;exact⟨m,h,h2⟩
 obtain⟨m1,e1,b1⟩:=(F5 c.source h1).at (cU (.v _))
 obtain⟨m2,e2,b2⟩:=(Zl c.target h2).at (cU (.v _)) (l:=m1) (by omega)
 obtain⟨m3,e3,b3⟩:=(JB c.root).at (cU (qP _)) (l:=m2) (by omega)
 obtain⟨m4,e4,b4⟩:=(aFY V nV).at (cU (bO V)) (l:=m3) (by omega)
 rw[cG Tryz.func231 rfl aEF (by kernel_rfl) rfl]
 simp only[ZG,seval,Bool.false_and,Prod.mk.injEq,aEG,e1,e2,e3,e4,hV,Bq,Br,Gx,Gy];exact⟨_,tC rfl (by simp only[E8,seval]<;>rfl) (by simp only[E8,seval]<;>rfl) (vX _),_,rfl,by omega⟩
theorem aP1 (x:Block) (h:RB x):WrN 210 [.agg (aT x)] 400:=by
 suffices h:∃r,aC Tryz.prog 210 [.v (.slice none 0 0),.agg (aT x)]=some r∧∃m:List Int,r=.uniq 5 1 m.length (kD m)∧(m.length:Int)≤400 by
  obtain⟨r,h,m,rfl,h2⟩:=h;exact⟨m,h,h2⟩
 obtain⟨m1,e1,b1⟩:=(F5 x.slot h.sl).at (cU (.v _))
 obtain⟨m2,e2,b2⟩:=(JB x.root).at (cU (qP _)) (l:=m1) (by omega)
 obtain⟨m3,e3,b3⟩:=(JB x.parent).at (cU (qP _)) (l:=m2) (by omega)
 obtain⟨m4,e4,b4⟩:=(JB x.iO).at (cU (qP _)) (l:=m3) (by omega)
 obtain⟨m5,e5,b5⟩:=(aLf x.diff).at (cU (.agg _ (iM _))) (l:=m4) (by omega)
 obtain⟨m6,e6,b6⟩:=(aLf x.Yy).at (cU (.agg _ (iM _))) (l:=m5) (by omega)
 obtain⟨m7,e7,b7⟩:=(T4 x.gW h.j).at (cU (.agg _ (dB _))) (l:=m6) (by omega)
 obtain⟨m8,e8,b8⟩:=(T4 x.fin h.f).at (cU (.agg _ (dB _))) (l:=m7) (by omega)
 obtain⟨m9,e9,b9⟩:=(T4 x.dQ.pj h.pj).at (cU (.agg _ (dB _))) (l:=m8) (by omega)
 obtain⟨m10,e10,b10⟩:=(T4 x.dQ.pf h.pf).at (cU (.agg _ (dB _))) (l:=m9) (by omega)
 obtain⟨m11,e11,b11⟩:=(aPY x.Co).at (cU (.v _)) (l:=m10) (by omega)
 rw[cG Tryz.func210 rfl aLj (by kernel_rfl) rfl]
 simp only[ZG,seval,Bool.false_and,Prod.mk.injEq,aLk,e1,e2,e3,e4,e5,e6,e7,e8,e9,e10,e11];exact⟨_,tC rfl (by simp only[E8,seval]<;>rfl) (by simp only[E8,seval]<;>rfl) (vX _),_,rfl,by omega⟩
def xT (r:AV):Prop:=∃(o:Option (List Int)) (e:Int),r=.eG [ov kD o,.v (.int .i64 e)]
theorem xT.none (e:Int):xT (.eG [.v (.slice none 0 0),.v (.int .i64 e)]):=⟨Option.none,e,rfl⟩
theorem xT.some (l:List Int) (e:Int):xT (.eG [.sl l.length (kD l),.v (.int .i64 e)]):=⟨Option.some l,e,rfl⟩
theorem aP2 (a:sH) (V:Option (List Int)) (hV:a.eU=ov aJ V) (nV:((ol V).length:Int)≤1000) (h1:Rg a.slot) (h2:Rg a.target.aK):∃r,aC Tryz.prog 211 [.agg (gY a)]=some r∧xT r:=by
 have MW:=kx (c40 V (by omega) 1024) (bG (bO V) (.v _)) (.v _)
 obtain⟨e,he⟩:∃e,DA (ol V) 1024=e:=⟨_,rfl⟩
 rw[he] at MW;obtain⟨m1,e1,b1⟩:=(F5 a.slot h1).at (cU (.v _))
 obtain⟨m2,e2,b2⟩:=(JB a.root).at (cU (qP _)) (l:=m1) (by omega)
 obtain⟨m3,e3,b3⟩:=(T4 a.target h2).at (cU (.agg _ (dB _))) (l:=m2) (by omega)
 obtain⟨m4,e4,b4⟩:=(aFY V nV).at (cU (bO V)) (l:=m3) (by omega)
 rw[cG Tryz.func211 rfl aLl (by kernel_rfl) rfl]
 by_cases g:e=0
 ·simp only[ZG,seval,Bool.false_and,Prod.mk.injEq,aEH,hV,MW,bt g,e1,e2,e3,e4,Bq,Br,Gx,Gy];exact⟨_,dO rfl rfl rfl (by simp only[E8,seval,Dq]<;>rfl) (by simp only[E8,seval,Dq]<;>rfl),xT.some _ _⟩
 ·simp only[ZG,seval,Bool.false_and,Prod.mk.injEq,aEH,hV,MW,bf g];exact⟨_,dO rfl rfl rfl (by simp only[E8,seval]<;>rfl) (by simp only[E8,seval]<;>rfl),xT.none _⟩
theorem aP3 (a:fY) (h1:xB a.first) (h2:xB a.second) (r1:Rg a.first.source) (r2:Rg a.first.target) (r3:Rg a.second.source) (r4:Rg a.second.target):∃r,aC Tryz.prog 212 [.agg (bZ a)]=some r∧xT r:=by
 obtain⟨V,hV,nV⟩:=id h1
 obtain⟨W,hW,nW⟩:=id h2
 have kV:=kx (c40 V (by omega) 1024) (bG (bO V) (.v _)) (.v _)
 have kW:=kx (c40 W (by omega) 1024) (bG (bO W) (.v _)) (.v _)
 obtain⟨ev,DC⟩:∃e,DA (ol V) 1024=e:=⟨_,rfl⟩
 obtain⟨ew,hew⟩:∃e,DA (ol W) 1024=e:=⟨_,rfl⟩
 rw[DC] at kV;rw[hew] at kW;obtain⟨m1,e1,b1⟩:=(aP0 a.first V hV nV r1 r2).at (cU h1.fl)
 obtain⟨m2,e2,b2⟩:=(aPZ a.second W hW nW r3 r4).at (cU h2.fl) (l:=m1) (by omega)
 rw[cL Tryz.func212 rfl aLm rfl];by_cases g1:ev=0
 case neg =>
  simp only[Z8,seval,hV,hW,kV,bf g1];exact⟨_,dO rfl rfl rfl (by simp only[E8,seval]<;>rfl) (by simp only[E8,seval]<;>rfl),xT.none _⟩
 by_cases g2:ew=0
 case neg =>
  simp only[Z8,seval,hV,hW,kV,kW,bt g1,bf g2];exact⟨_,dO rfl rfl rfl (by simp only[E8,seval]<;>rfl) (by simp only[E8,seval]<;>rfl),xT.none _⟩
 simp only[Z8,seval,hV,hW,kV,kW,bt g1,bt g2,e1,e2];exact⟨_,dO rfl rfl rfl (by simp only[E8,seval,Dq]<;>rfl) (by simp only[E8,seval,Dq]<;>rfl),xT.some _ _⟩
theorem aP4 (t:Table) (b:Option (List Int)) (hb:t.jO=ov bE b) (nb:((ol b).length:Int)≤1000) (rb:∀y∈ol b,Rg y) (rt:Rg t.ck.aK):∃r,aC Tryz.prog 213 [.agg (cI t)]=some r∧xT r:=by
 have hfT:Flat (.agg (cI t)):=(kF t).2 (by rw[hb];exact dP b)
 obtain⟨m1,e1,b1⟩:=(F5 t.ck.aK rt).at (cU (.v _))
 obtain⟨m2,e2,b2⟩:=(JB t.ck.root).at (cU (qP _)) (l:=m1) (by omega)
 obtain⟨m3,e3,b3⟩:=(Zl _ (jV ((ol b).length:Int))).at (cU (.v _)) (l:=m2) (by omega)
 rw[cG Tryz.func213 rfl aLn (by kernel_rfl) rfl]
 have g1:¬(1024:Int)<((ol b).length:Int):=by omega
 simp only[ZG,seval,Bool.false_and,Prod.mk.injEq,OR,hb,g1,e1,e2,e3,Bq,Br,Gx,Gy];refine mE (fun m st=>∃(k:Nat) (p:List Int) (a g:Nat),(st.env 1=.ptr 1 0 0∧st.heap 1 0=some (.cells (cI t))∧st.env 4=.own a g∧st.heap a g=some (.row 5 1 p.length (kD p))∧st.env 5=.v (.int .i64 k))∧((a=22∧g=0)∨(a=36∧g<st.aP 36))∧(p.length:Int)≤100+10 * k∧k≤(ol b).length∧m=(ol b).length-k)
  (fun e st=>e=.exit 0∧∃(p:List Int) (a g:Nat),st.env 4=.own a g∧st.heap a g=some (.row 5 1 p.length (kD p))) (ol b).length ?step ?start ?rest
 case step =>
  rintro m st ⟨k,p,a,g,hI,JA,hp,hk,hm⟩
  by_cases aY:(k:Int)<(ol b).length
  ·have q0:(0:Int)≤k:=by omega
   have hw:IntKind.i64.wrap ((k:Int)+1)=((k+1:Nat):Int):=by rw[pZ _ (by omega) (by omega)];omega
   obtain⟨p',e4,b4⟩:=(Zl _ (rb _ (vU (z:=(0:Int)) q0 aY))).at (cU (.v _)) (l:=p) (by omega)
   rcases JA with ⟨rfl,rfl⟩|⟨rfl,hg⟩
   ·apply Ga ((ol b).length-(k+1))
    ·simp only[ZG,seval,Bool.false_and,Prod.mk.injEq,OR,hI,aY,q0,hb,e4,hw];rfl
    ·exact⟨k+1,p',36,_,⟨by simp only[E8,seval,hI],by simp only[E8,seval,hI],by simp only[E8,seval]<;>rfl,by simp only[E8,seval]<;>rfl,by simp only[E8,seval]⟩,.inr ⟨rfl,by simp only[E8,seval]<;>omega⟩,by omega,by omega,rfl⟩
   ·have uY:(g=st.aP 36)=False:=eq_false (by omega)
    apply Ga ((ol b).length-(k+1))
    ·simp only[ZG,seval,Bool.false_and,Prod.mk.injEq,OR,hI,uY,aY,q0,hb,e4,hw];rfl
    ·exact⟨k+1,p',36,_,⟨by simp only[E8,seval,hI],by simp only[E8,seval,hI],by simp only[E8,seval]<;>rfl,by simp only[E8,seval]<;>rfl,by simp only[E8,seval]⟩,.inr ⟨rfl,by simp only[E8,seval]<;>omega⟩,by omega,by omega,rfl⟩
  ·apply MX (.exit 0)
   ·simp only[ZG,seval,Bool.false_and,Prod.mk.injEq,OR,hI,aY,hb];rfl
   ·exact⟨rfl,p,a,g,by simp only[E8,seval,hI],by simp only[E8,seval,hI]⟩
 case start=>exact⟨0,m3,22,0,by and_intros<;>(simp only[E8,seval]<;>rfl),.inl ⟨rfl,rfl⟩,by omega,by omega,by omega⟩
 case rest =>
  rintro e st ⟨rfl,p,a,g,h4,hh⟩
  simp only[ZG,seval,Bool.false_and,Prod.mk.injEq,OR,h4,hh];exact⟨_,dO rfl rfl rfl (by simp only[E8,seval,h4,hh,Dq]<;>rfl) (by simp only[E8,seval,h4,hh,Dq]<;>rfl),xT.some _ _⟩
theorem aP5 (v:fL) (h:Rg v.tagged.tag):∃r,aC Tryz.prog 214 [.agg (bW v)]=some r∧xT r:=by
 obtain⟨m1,e1,b1⟩:=(F5 v.tagged.tag h).at (cU (.v _))
 obtain⟨m2,e2,b2⟩:=(Zl _ (jV v.kind)).at (cU (.v _)) (l:=m1) (by omega)
 obtain⟨m3,e3,b3⟩:=(JB v.dT).at (cU (qP _)) (l:=m2) (by omega)
 rw[cG Tryz.func214 rfl aLo (by kernel_rfl) rfl]
 by_cases g1:v.kind<1
 ·simp only[ZG,seval,Bool.false_and,Prod.mk.injEq,T8,g1];exact⟨_,dO rfl rfl rfl (by simp only[E8,seval]<;>rfl) (by simp only[E8,seval]<;>rfl),xT.none _⟩
 by_cases g2:4<v.kind
 ·simp only[ZG,seval,Bool.false_and,Prod.mk.injEq,T8,g1,g2];exact⟨_,dO rfl rfl rfl (by simp only[E8,seval]<;>rfl) (by simp only[E8,seval]<;>rfl),xT.none _⟩
 simp only[ZG,seval,Bool.false_and,Prod.mk.injEq,T8,g1,g2,e1,e2,e3];exact⟨_,dO rfl rfl rfl (by simp only[E8,seval,Dq]<;>rfl) (by simp only[E8,seval,Dq]<;>rfl),xT.some _ _⟩
theorem aP6 (x:xL) (h:pG x):∃r,aC Tryz.prog 200 [.agg (kY x)]=some r∧xT r:=by
 have kE:=h.fl
 obtain⟨V,hV,nV⟩:=h.Hl
 obtain⟨b,hb,nb,rb⟩:=h.WC
 obtain⟨m1,e1,b1⟩:=(aP1 x.block h.rb).at (cU (vC _))
 obtain⟨r2,e2,o2,f2,rfl⟩:=aP2 x.Hl V hV nV h.ra.1 h.ra.2
 obtain⟨r3,e3,o3,f3,rfl⟩:=aP3 x.oU h.c1 h.c2 h.rs.1 h.rs.2.1 h.rs.2.2.1 h.rs.2.2.2
 obtain⟨r4,e4,o4,f4,rfl⟩:=aP4 x.table b hb nb rb h.rt
 obtain⟨r5,e5,o5,f5,rfl⟩:=aP5 x.verdict h.rv
 have k2:=kx e2 (cU ((zP _).2 kE.1)) (.eG _ (bG (yX _) (.v _)))
 have k3:=kx e3 (cU ((nD _).2 ⟨kE.2.1,kE.2.2.1⟩)) (.eG _ (bG (yX _) (.v _)))
 have k4:=kx e4 (cU ((kF _).2 kE.2.2.2)) (.eG _ (bG (yX _) (.v _)))
 have k5:=kx e5 (cU (.agg _ (gM _))) (.eG _ (bG (yX _) (.v _)))
 obtain⟨m6,e6,b6⟩:=(F5 _ (jV x.write)).at (cU (.v _))
 obtain⟨m7,e7,b7⟩:=(Zl _ (jV x.qM)).at (cU (.v _)) (l:=m6) (by omega)
 rw[cL Tryz.func200 rfl aLp rfl];by_cases g2:x.kind=2
 ·simp only[Z8,seval,bt g2,e1];exact⟨_,dO rfl rfl rfl (by simp only[E8,seval,Dq]<;>rfl) (by simp only[E8,seval,Dq]<;>rfl),xT.some _ _⟩
 by_cases g3:x.kind=3
 ·simp only[Z8,seval,bf g2,bt g3,k2,dY];exact⟨_,dO rfl rfl rfl (by simp only[E8,seval,rO]<;>rfl) (by simp only[E8,seval,rO]<;>rfl),_,_,rfl⟩
 by_cases g4:x.kind=4
 ·simp only[Z8,seval,bf g2,bf g3,bt g4,k3,dY];exact⟨_,dO rfl rfl rfl (by simp only[E8,seval,rO]<;>rfl) (by simp only[E8,seval,rO]<;>rfl),_,_,rfl⟩
 by_cases g5:x.kind=5
 ·simp only[Z8,seval,bf g2,bf g3,bf g4,bt g5,k4,dY];exact⟨_,dO rfl rfl rfl (by simp only[E8,seval,rO]<;>rfl) (by simp only[E8,seval,rO]<;>rfl),_,_,rfl⟩
 by_cases g6:x.kind=6
 ·simp only[Z8,seval,bf g2,bf g3,bf g4,bf g5,bt g6,k5,dY];exact⟨_,dO rfl rfl rfl (by simp only[E8,seval,rO]<;>rfl) (by simp only[E8,seval,rO]<;>rfl),_,_,rfl⟩
 by_cases g8:x.kind=8
 case neg =>
  simp only[Z8,seval,bf g2,bf g3,bf g4,bf g5,bf g6,bf g8];exact⟨_,dO rfl rfl rfl (by simp only[E8,seval]<;>rfl) (by simp only[E8,seval]<;>rfl),xT.none _⟩
 by_cases w1:x.write<0
 ·simp only[Z8,seval,bf g2,bf g3,bf g4,bf g5,bf g6,bt g8,w1];exact⟨_,dO rfl rfl rfl (by simp only[E8,seval]<;>rfl) (by simp only[E8,seval]<;>rfl),xT.none _⟩
 by_cases w2:32768<x.write
 ·simp only[Z8,seval,bf g2,bf g3,bf g4,bf g5,bf g6,bt g8,w1,w2];exact⟨_,dO rfl rfl rfl (by simp only[E8,seval]<;>rfl) (by simp only[E8,seval]<;>rfl),xT.none _⟩
 by_cases w3:x.qM<0
 ·simp only[Z8,seval,bf g2,bf g3,bf g4,bf g5,bf g6,bt g8,w1,w2,w3];exact⟨_,dO rfl rfl rfl (by simp only[E8,seval]<;>rfl) (by simp only[E8,seval]<;>rfl),xT.none _⟩
 by_cases w4:32768<x.qM
 ·simp only[Z8,seval,bf g2,bf g3,bf g4,bf g5,bf g6,bt g8,w1,w2,w3,w4];exact⟨_,dO rfl rfl rfl (by simp only[E8,seval]<;>rfl) (by simp only[E8,seval]<;>rfl),xT.none _⟩
 simp only[Z8,seval,bf g2,bf g3,bf g4,bf g5,bf g6,bt g8,w1,w2,w3,w4,e6,e7];exact⟨_,dO rfl rfl rfl (by simp only[E8,seval,Dq]<;>rfl) (by simp only[E8,seval,Dq]<;>rfl),xT.some _ _⟩
theorem o8:Rg 0:=⟨by omega,by omega⟩
theorem zOk:pG Aa:=⟨⟨none,rfl,by simp[ol]⟩,⟨none,rfl,by simp[ol]⟩,⟨none,rfl,by simp[ol]⟩,⟨none,rfl,by simp[ol],by simp[ol]⟩,⟨o8,o8,o8,o8,o8⟩,⟨o8,o8⟩,⟨o8,o8,o8,o8⟩,o8,o8⟩
theorem aP7 (x:xL) (h:pG x):∃r,aC Tryz.prog 184 [.agg (kY x)]=some r∧∃e:Int,r=.v (.int .i64 e):=by
 have z:=zOk
 have hf:=h.flat
 obtain⟨r1,e1,o1,e,rfl⟩:=aP6 x h
 have OS:=kx e1 (cU hf) (.eG _ (bG (yX _) (.v _)))
 rw[cG Tryz.func184 rfl aLq (by kernel_rfl) rfl]
 by_cases g1:x.kind<1
 ·simp only[ZG,seval,Bool.false_and,Prod.mk.injEq,Me,g1];exact⟨_,bS rfl (by simp only[E8,seval]<;>rfl) (by first|exact .v _|simp only[dU]),_,rfl⟩
 by_cases g9:8<x.kind
 ·simp only[ZG,seval,Bool.false_and,Prod.mk.injEq,Me,g1,g9];exact⟨_,bS rfl (by simp only[E8,seval]<;>rfl) (by first|exact .v _|simp only[dU]),_,rfl⟩
 by_cases g0:e=0
 case neg =>
  simp only[ZG,seval,Bool.false_and,Prod.mk.injEq,Me,g1,g9,OS,dY,bf g0];exact⟨_,bS rfl (by simp only[E8,seval]<;>rfl) (by first|exact .v _|simp only[dU]),_,rfl⟩
 by_cases k2:x.kind=2
 ·have hy:pG { Aa with kind:=x.kind,block:=x.block }:=⟨z.Hl,z.c1,z.c2,z.WC,h.rb,z.ra,z.rs,z.rt,z.rv⟩
  obtain⟨r2,e2,B,rfl⟩:=WD x { Aa with kind:=x.kind,block:=x.block } h hy
  have Sy:=kx e2 (bG hf hy.flat) (.v _)
  have IQ:=h.fl
  cases B
  all_goals
   simp only[ZG,seval,Bool.false_and,Prod.mk.injEq,Me,g1,g9,OS,dY,bt g0,bt k2,Sy,Bq,Br,Gx,Gy];exact⟨_,bS rfl (by simp only[E8,seval]<;>rfl) (by first|exact .v _|simp only[dU]),_,rfl⟩
 by_cases k3:x.kind=3
 ·have hy:pG { Aa with kind:=x.kind,Hl:=x.Hl }:=⟨h.Hl,z.c1,z.c2,z.WC,z.rb,h.ra,z.rs,z.rt,z.rv⟩
  obtain⟨r2,e2,B,rfl⟩:=WD x { Aa with kind:=x.kind,Hl:=x.Hl } h hy
  have Sy:=kx e2 (bG hf hy.flat) (.v _)
  have IQ:=h.fl
  cases B
  all_goals
   simp only[ZG,seval,Bool.false_and,Prod.mk.injEq,Me,g1,g9,OS,dY,bt g0,bf k2,bt k3,Sy,Bq,Br,Gx,Gy];exact⟨_,bS rfl (by simp only[E8,seval]<;>rfl) (by first|exact .v _|simp only[dU]),_,rfl⟩
 by_cases k4:x.kind=4
 ·have hy:pG { Aa with kind:=x.kind,oU:=x.oU }:=⟨z.Hl,h.c1,h.c2,z.WC,z.rb,z.ra,h.rs,z.rt,z.rv⟩
  obtain⟨r2,e2,B,rfl⟩:=WD x { Aa with kind:=x.kind,oU:=x.oU } h hy
  have Sy:=kx e2 (bG hf hy.flat) (.v _)
  have IQ:=h.fl
  cases B
  all_goals
   simp only[ZG,seval,Bool.false_and,Prod.mk.injEq,Me,g1,g9,OS,dY,bt g0,bf k2,bf k3,bt k4,Sy,Bq,Br,Gx,Gy];exact⟨_,bS rfl (by simp only[E8,seval]<;>rfl) (by first|exact .v _|simp only[dU]),_,rfl⟩
 by_cases k5:x.kind=5
 ·have hy:pG { Aa with kind:=x.kind,table:=x.table }:=⟨z.Hl,z.c1,z.c2,h.WC,z.rb,z.ra,z.rs,h.rt,z.rv⟩
  obtain⟨r2,e2,B,rfl⟩:=WD x { Aa with kind:=x.kind,table:=x.table } h hy
  have Sy:=kx e2 (bG hf hy.flat) (.v _)
  have IQ:=h.fl
  cases B
  all_goals
   simp only[ZG,seval,Bool.false_and,Prod.mk.injEq,Me,g1,g9,OS,dY,bt g0,bf k2,bf k3,bf k4,bt k5,Sy,Bq,Br,Gx,Gy];exact⟨_,bS rfl (by simp only[E8,seval]<;>rfl) (by first|exact .v _|simp only[dU]),_,rfl⟩
 by_cases k6:x.kind=6
 ·have hy:pG { Aa with kind:=x.kind,verdict:=x.verdict }:=⟨z.Hl,z.c1,z.c2,z.WC,z.rb,z.ra,z.rs,z.rt,h.rv⟩
  obtain⟨r2,e2,B,rfl⟩:=WD x { Aa with kind:=x.kind,verdict:=x.verdict } h hy
  have Sy:=kx e2 (bG hf hy.flat) (.v _)
  have IQ:=h.fl
  cases B
  all_goals
   simp only[ZG,seval,Bool.false_and,Prod.mk.injEq,Me,g1,g9,OS,dY,bt g0,bf k2,bf k3,bf k4,bf k5,bt k6,Sy,Bq,Br,Gx,Gy];exact⟨_,bS rfl (by simp only[E8,seval]<;>rfl) (by first|exact .v _|simp only[dU]),_,rfl⟩
 by_cases k8:x.kind=8
 ·have hy:pG { Aa with kind:=x.kind,write:=x.write,qM:=x.qM }:=⟨z.Hl,z.c1,z.c2,z.WC,z.rb,z.ra,z.rs,z.rt,z.rv⟩
  obtain⟨r2,e2,B,rfl⟩:=WD x { Aa with kind:=x.kind,write:=x.write,qM:=x.qM } h hy
  have Sy:=kx e2 (bG hf hy.flat) (.v _)
  have IQ:=h.fl
  cases B
  all_goals
   simp only[ZG,seval,Bool.false_and,Prod.mk.injEq,Me,g1,g9,OS,dY,bt g0,bf k2,bf k3,bf k4,bf k5,bf k6,bt k8,Sy,Bq,Br,Gx,Gy];exact⟨_,bS rfl (by simp only[E8,seval]<;>rfl) (by first|exact .v _|simp only[dU]),_,rfl⟩
 have hy:pG { Aa with kind:=x.kind }:=⟨z.Hl,z.c1,z.c2,z.WC,z.rb,z.ra,z.rs,z.rt,z.rv⟩
 obtain⟨r2,e2,B,rfl⟩:=WD x { Aa with kind:=x.kind } h hy
 have Sy:=kx e2 (bG hf hy.flat) (.v _)
 have IQ:=h.fl
 cases B
 all_goals
  simp only[ZG,seval,Bool.false_and,Prod.mk.injEq,Me,g1,g9,OS,dY,bt g0,bf k2,bf k3,bf k4,bf k5,bf k6,bf k8,Sy,Bq,Br,Gx,Gy];exact⟨_,bS rfl (by simp only[E8,seval]<;>rfl) (by first|exact .v _|simp only[dU]),_,rfl⟩
theorem x45 (n bits:Int) (h0:0<n) (h1:n≤1000):∃r,aC Tryz.prog 45 [.v (.int .i64 n),.v (.int .i64 bits)]=some r∧∃l:List Int,r=.uniq 3 1 l.length (aJ l)∧(l.length:Int)≤n:=by
 rw[cL Tryz.func45 rfl aP8 rfl];simp only[Z8,seval];refine cE (fun m st=>∃k:Nat,(st.env 0=.v (.int .i64 n)∧st.env 1=.v (.int .i64 bits)∧st.env 6=.v (.int .i64 k))∧(st.env 5=.v (.slice none 0 0)∨∃(l:List Int) (g:Nat),(st.env 5=.own 21 g∧st.heap 21 g=some (.row 3 1 l.length (aJ l)))∧g<st.aP 21∧0<l.length∧l.length≤k)∧(k:Int)≤n∧m=(n-k).toNat)
  (fun e st=>e=.exit 0∧st.env 0=.v (.int .i64 n)∧(st.env 5=.v (.slice none 0 0)∨∃(l:List Int) (g:Nat),(st.env 5=.own 21 g∧st.heap 21 g=some (.row 3 1 l.length (aJ l)))∧0<l.length∧(l.length:Int)≤n)) n.toNat ?step ?start ?rest
 case step =>
  rintro m st ⟨k,hI,h5,hk,hm⟩
  by_cases aY:(k:Int)<n
  ·have q0:(0:Int)≤k:=by omega
   have hw:IntKind.i64.wrap ((k:Int)+1)=((k+1:Nat):Int):=by rw[pZ _ (by omega) (by omega)];omega
   by_cases hh:IntKind.i64.wrap ((BitVec.ofInt IntKind.i64.bits (bits.fdiv (2 ^ min (IntKind.u64.wrap (k:Int)).toNat IntKind.i64.bits)) &&& BitVec.ofInt IntKind.i64.bits 1).toNat:Int)=1
   ·rcases h5 with h5|⟨l,g,h5,hg,hl0,hl⟩
    ·apply oN ((n-((k+1:Nat):Int)).toNat)
     ·simp only[Z8,seval,hI,h5,aY,q0,xS,bt hh,hw];rfl
     ·exact⟨k+1,by simp only[E8,seval,hI],.inr ⟨[(k:Int)],_,⟨by simp only[E8,seval]<;>rfl,by simp only[E8,seval]<;>rfl⟩,by simp only[E8,seval]<;>omega,by simp,by simp⟩,by omega,rfl⟩
    ·have uY:(g=st.aP 21)=False:=eq_false (by omega)
     have nl:(l.length:Int)<1000000:=by omega
     apply oN ((n-((k+1:Nat):Int)).toNat)
     ·simp only[Z8,seval,hI,h5,uY,aY,q0,xS,bt hh,hw,Gc _ _ _ _ nl];rfl
     ·exact⟨k+1,by simp only[E8,seval,hI],.inr ⟨l++[(k:Int)],_,⟨by simp only[E8,seval]<;>rfl,by simp only[E8,seval]<;>rfl⟩,by simp only[E8,seval]<;>omega,by simp,by rw[List.length_append,List.length_cons,List.length_nil];omega⟩,by omega,rfl⟩
   ·have h5':st.env 5=.v (.slice none 0 0)∨∃(l:List Int) (g:Nat),(st.env 5=.own 21 g∧st.heap 21 g=some (.row 3 1 l.length (aJ l)))∧g<st.aP 21∧0<l.length∧l.length≤k+1:=h5.imp id fun ⟨l,g,a,b,c,d⟩=>⟨l,g,a,b,c,by omega⟩
    apply oN ((n-((k+1:Nat):Int)).toNat)
    ·simp only[Z8,seval,hI,aY,q0,xS,bf hh,hw];rfl
    ·exact⟨k+1,by simp only[E8,seval,hI],by simpa only[E8,seval] using h5',by omega,rfl⟩
  ·have h5':st.env 5=.v (.slice none 0 0)∨∃(l:List Int) (g:Nat),(st.env 5=.own 21 g∧st.heap 21 g=some (.row 3 1 l.length (aJ l)))∧0<l.length∧(l.length:Int)≤n:=h5.imp id fun ⟨l,g,a,b,c,d⟩=>⟨l,g,a,c,by omega⟩
   apply oT (.exit 0)
   ·simp only[Z8,seval,hI,aY];rfl
   ·exact⟨rfl,by simp only[E8,seval,hI],by simpa only[E8,seval] using h5'⟩
 case start=>exact⟨0,by simp only[E8,seval]<;>rfl,.inl (by simp only[E8,seval]),by omega,by simp⟩
 case rest =>
  rintro e st ⟨rfl,h0',h5|⟨l,g,h5,hl0,hl⟩⟩
  ·simp only[Z8,seval,h0',h5,h0];exact⟨_,Qf (n:=([0]:List Int).length) (cs:=aJ [0]) (aI (by decide)) (.inl rfl) rfl (by simp only[E8,seval]<;>rfl) (by simp only[E8,seval]<;>rfl) (gD _),_,rfl,by simp;omega⟩
  ·have hn0:¬((l.length:Int)=0):=by omega
   simp only[Z8,seval,h0',h5,bf hn0];exact⟨_,tC rfl (by simp only[E8,seval,h5]<;>rfl) (by simp only[E8,seval,h5]<;>rfl) (gD _),l,rfl,hl⟩
theorem k45 (n bits:Int) (h0:0<n) (h1:n≤1000):∃l:List Int,(∀(st:St) (d:Nat),aM (aC Tryz.prog) 45 [.v (.int .i64 n),.v (.int .i64 bits)] st (some d)=some { dst:=some d,val:=.own d (st.aP d),new:=some (d,[.row 3 1 l.length (aJ l)])})∧(l.length:Int)≤n:=by
 obtain⟨r,hr,l,rfl,hl⟩:=x45 n bits h0 h1
 exact⟨l,fun st d=>jF (bG (.v _) (.v _)) hr,hl⟩
theorem x92 {s:aN} {v:SV} {q:Int} (h:GI s v q) (r:RG s v) (i e:Int) (he:Rg e):∃x,aC Tryz.prog 92 [.agg (aB s),.v (.int .i64 i),.v (.int .u64 e)]=some x∧∃c:fV,x=.agg (bX c)∧Rg c.aK:=by
 have T9:=NH v.ns h.up h.sd.nn i (IntKind.u64.wrap (e * s.cFg.qW))
 have hr:=GN h.up (i:=i) (s:=IntKind.u64.wrap (e * s.cFg.qW))
 obtain⟨k,hk⟩:∃k,IE v.ns i (IntKind.u64.wrap (e * s.cFg.qW))=k:=⟨_,rfl⟩
 rw[hk] at T9 hr
 rw[cL Tryz.func92 rfl aQb rfl];by_cases g1:k<0
 ·simp only[Z8,seval,h.sd.tree,T9,g1];exact⟨_,fI rfl (by simp only[E8,seval,Bo]<;>rfl) (by simp only[Z8,seval,Bo]<;>rfl) (by simp only[dU,and_self,Bo]),_,rfl,r.f⟩
 ·have k0:0≤k:=by omega
  have k1:k<v.ns.length:=by omega
  simp only[Z8,seval,h.sd.tree,T9,g1,k0,k1];exact⟨_,fI rfl (by simp only[E8,seval,Bo]<;>rfl) (by simp only[Z8,seval,Bo]<;>rfl) (by simp only[dU,and_self,Bo]),_,rfl,he⟩
end Go.Ab.Tryz
