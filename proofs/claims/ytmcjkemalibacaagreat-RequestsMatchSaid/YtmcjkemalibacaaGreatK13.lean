/-
  Part 13 of the proof: an evaluator of programs, its soundness, and what functions of this program compute.
-/
import Derived.Test.YtmcjkemalibacaaGreatK12
import Derived.Test.YtmcjkemalibacaaGreatK11
set_option linter.all false
set_option maxRecDepth 20000
set_option maxHeartbeats 40000000
namespace Go.Ab.Tryz
open Classical Go.Proofs Go.Ab
theorem Ij {st:St} {a g:Nat} {L:List Int} (hh:st.heap a g=some (.row 3 1 L.length (aK L))):fO st (.own a g)=some (ov aK (some L)):=by
 rw[vA,hh];exact jS L.length L
theorem aJV (o:Option (List Int)) (hn:((ol o).length:Int)<999999) (x:Int) :
 ((∀(st:St) (d:Nat),fC (aC Tryz.prog) 235 [ov aK o,.v (.int .i64 x)] st (some d)=some { dst:=some d,val:=ov aK o }) ∧
  ∀(st:St) (d a g:Nat) (L:List Int),o=some L→st.heap a g=some (.row 3 1 L.length (aK L))→fC (aC Tryz.prog) 235 [.own a g,.v (.int .i64 x)] st (some d)=some { dst:=some d,val:=ov aK (some L),dJ:=some (a,g,none)}) ∨
 ∃M:List Int,M.length=(ol o).length+1∧(∀(st:St) (d:Nat),fC (aC Tryz.prog) 235 [ov aK o,.v (.int .i64 x)] st (some d)=some { dst:=some d,val:=.own d (st.aQ d),new:=some (d,[.row 3 1 M.length (aK M)])}) ∧
  ∀(st:St) (d a g:Nat) (L:List Int),o=some L→st.heap a g=some (.row 3 1 L.length (aK L))→fC (aC Tryz.prog) 235 [.own a g,.v (.int .i64 x)] st (some d)=some { dst:=some d,val:=.own d (st.aQ d),dJ:=some (a,g,none),new:=some (d,[.row 3 1 M.length (aK M)])}:=by
 have one:∀(st:St) (d a g:Nat) (L:List Int),o=some L→st.heap a g=some (.row 3 1 L.length (aK L))→fC (aC Tryz.prog) 235 [.own a g,.v (.int .i64 x)] st (some d)=Kr (aC Tryz.prog) 235 (some [ov aK o,.v (.int .i64 x)]) a g st (some d):=by
  rintro st d a g L rfl hh
  rw[Ii (s:=a) (k:=g) rfl (by intro y hy;simp only[List.mem_cons,List.not_mem_nil,or_false] at hy;rcases hy with rfl|rfl;exact .inr (.inl ⟨a,g,rfl⟩);exact .inl (.v _)),
   List.map_cons,List.map_cons,List.map_nil,Ij hh,Pw,bR,bR,gR]
  rfl
 obtain⟨r,hr,h⟩:=aOt o hn x
 rcases h with rfl|⟨M,rfl,hM⟩
 ·refine .inl ⟨fun st d=>Gu (bE (bO o) (.v _)) hr (bO o),fun st d a g L ho hh=>?_⟩
  rw[one st d a g L ho hh];subst ho;exact DF hr (bO _)
 ·refine .inr ⟨M,hM,fun st d=>K0 (bE (bO o) (.v _)) hr,fun st d a g L ho hh=>?_⟩
  rw[one st d a g L ho hh];exact aBk hr (l8 M)
theorem aJW (x:fW) (V W:Option (List Int)) (hV:x.first.eU=ov aK V) (hW:x.second.eU=ov aK W) (nV:((ol V).length:Int)<99999) (nW:((ol W).length:Int)<99999) :
 ∃r,aC Tryz.prog 221 [.agg (bV x)]=some r∧∃o:Option (List Int),((ol o).length:Int)≤(ol V).length∧(r=ov aK o∨∃L,o=some L∧r=.uniq 3 1 L.length (aK L)):=by
 have f1:Flat x.first.eU:=by rw[hV];exact bO V
 have f2:Flat x.second.eU:=by rw[hW];exact bO W
 rw[cL Tryz.func221 rfl aJX rfl];simp only[Z8,seval];refine cH (fun m st=>∃k:Nat,(st.env 1=.ptr 1 0 0∧st.heap 1 0=some (.cells (bV x))∧st.env 4=.v (.int .i64 k))∧(∃o:Option (List Int),(ol o).length≤k∧(st.env 3=ov aK o∨∃g L,o=some L∧st.env 3=.own 30 g∧g<st.aQ 30∧st.heap 30 g=some (.row 3 1 L.length (aK L))))∧k≤(ol V).length∧m=(ol V).length-k)
  (fun e st=>e=.exit 0∧∃o:Option (List Int),(ol o).length≤(ol V).length∧(st.env 3=ov aK o∨∃g L,o=some L∧st.env 3=.own 30 g∧st.heap 30 g=some (.row 3 1 L.length (aK L)))) (ol V).length ?step ?start ?rest
 case step =>
  rintro m st ⟨k,hI,⟨o,ho,h3⟩,hk,hm⟩
  by_cases bB:(k:Int)<(ol V).length
  ·have q0:(0:Int)≤k:=by omega
   have hw:IntKind.i64.wrap ((k:Int)+1)=((k+1:Nat):Int):=by rw[qA _ (by omega) (by omega)];omega
   have K1:=aE8 W (by omega) (gx (0:Int) (ol V) (k:Int))
   by_cases h1:gx (0:Int) (ol V) (k:Int)∈ol W
   ·have CG:=eq_true h1
    rcases aJV o (by omega) (gx (0:Int) (ol V) (k:Int)) with ⟨ea,eb⟩|⟨M,hM,ea,eb⟩
    ·rcases h3 with h3|⟨g,L,hL,h3,hg,hh⟩
     ·apply oN ((ol V).length-(k+1))
      ·simp only[Z8,seval,hI,h3,bB,q0,hV,hW,K1,CG,ea,hw];rfl
      ·exact⟨k+1,by simp only[E8,seval,hI],⟨o,by omega,.inl (by simp only[E8,seval])⟩,by omega,rfl⟩
     ·have K2:=fun st d a g=>eb st d a g L hL
      have ho':(ol (some L)).length≤k:=by rw[← hL];exact ho
      apply oN ((ol V).length-(k+1))
      ·simp only[Z8,seval,hI,h3,hh,bB,q0,hV,hW,K1,CG,K2,hw];rfl
      ·exact⟨k+1,by simp only[E8,seval,hI],⟨some L,by omega,.inl (by simp only[E8,seval])⟩,by omega,rfl⟩
    ·rcases h3 with h3|⟨g,L,hL,h3,hg,hh⟩
     ·apply oN ((ol V).length-(k+1))
      ·simp only[Z8,seval,hI,h3,bB,q0,hV,hW,K1,CG,ea,hw];rfl
      ·exact⟨k+1,by simp only[E8,seval,hI],⟨some M,by show M.length≤_;omega,.inr ⟨_,M,rfl,by simp only[E8,seval]<;>rfl,by simp only[E8,seval]<;>omega,by simp only[E8,seval]<;>rfl⟩⟩,by omega,rfl⟩
     ·have K2:=fun st d a g=>eb st d a g L hL
      have vC:(g=st.aQ 30)=False:=eq_false (by omega)
      apply oN ((ol V).length-(k+1))
      ·simp only[Z8,seval,hI,h3,hh,vC,bB,q0,hV,hW,K1,CG,K2,hw];rfl
      ·exact⟨k+1,by simp only[E8,seval,hI],⟨some M,by show M.length≤_;omega,.inr ⟨_,M,rfl,by simp only[E8,seval]<;>rfl,by simp only[E8,seval]<;>omega,by simp only[E8,seval]<;>rfl⟩⟩,by omega,rfl⟩
   ·have CG:=eq_false h1
    have h3':st.env 3=ov aK o∨∃g L,o=some L∧st.env 3=.own 30 g∧g<st.aQ 30∧st.heap 30 g=some (.row 3 1 L.length (aK L)):=h3
    apply oN ((ol V).length-(k+1))
    ·simp only[Z8,seval,hI,bB,q0,hV,hW,K1,CG,hw];rfl
    ·exact⟨k+1,by simp only[E8,seval,hI],⟨o,by omega,by simpa only[E8,seval] using h3'⟩,by omega,rfl⟩
  ·have h3':st.env 3=ov aK o∨∃g L,o=some L∧st.env 3=.own 30 g∧st.heap 30 g=some (.row 3 1 L.length (aK L)):=h3.imp id fun ⟨g,L,a,b,_,c⟩=>⟨g,L,a,b,c⟩
   apply oT (.exit 0)
   ·simp only[Z8,seval,hI,bB,hV];rfl
   ·exact⟨rfl,o,by omega,by simpa only[E8,seval] using h3'⟩
 case start=>exact⟨0,by simp only[E8,seval]<;>rfl,⟨none,by simp[ol],.inl (by simp only[E8,seval]<;>rfl)⟩,by omega,by omega⟩
 case rest =>
  rintro e st ⟨rfl,o,ho,h3⟩
  rcases h3 with h3|⟨g,L,hL,h3,hh⟩
  ·simp only[Z8,seval,h3];exact⟨_,bT rfl (by simp only[E8,seval,h3]<;>rfl) (bO o),o,by omega,.inl rfl⟩
  ·simp only[Z8,seval,h3];exact⟨_,sF rfl (by simp only[E8,seval,h3]<;>rfl) (by simp only[E8,seval,hh]<;>rfl) (gD _),o,by omega,.inr ⟨L,hL,rfl⟩⟩
theorem aJY {o:Option (List Int)} {L:List Int} (h:(ol o).length≤L.length):IntKind.i64.wrap ((L.length:Int)-((ol o).length:Int))≠0→L≠[]:=by
 rintro hn rfl
 have h0:(ol o).length=0:=by simpa using h
 rw[h0] at hn;exact hn (by decide)
theorem aOE (o V:Option (List Int)) (no:((ol o).length:Int)<900000) (nV:((ol V).length:Int)<99999) :
 ∃r,aC Tryz.prog 220 [ov aK o,ov aK V]=some r∧∃(L:List Int) (n:Int),r=.eE [ov aK (some L),.v (.int .i64 n)]∧L.length≤(ol o).length+(ol V).length∧(n≠0→L≠[]):=by
 rw[cL Tryz.func220 rfl aJZ (by cases o<;>cases V<;>rfl)]
 have no':((ol o).length:Int)<1000000:=by omega
 simp only[Z8,seval,Nc _ no'];refine cH (fun m st=>∃k:Nat,(st.env 0=ov aK o∧st.env 1=ov aK V∧st.env 7=.v (.int .i64 k))∧(∃L:List Int,((ol o).length≤L.length∧L.length≤(ol o).length+k)∧(st.env 6=ov aK (some L)∨(∃g,st.env 6=.own 21 g∧g<st.aQ 21∧st.heap 21 g=some (.row 3 1 L.length (aK L)))∨(st.env 6=.own 9 0∧st.heap 9 0=some (.row 3 1 L.length (aK L)))))∧k≤(ol V).length∧m=(ol V).length-k)
  (fun e st=>e=.exit 0∧(st.env 0=ov aK o)∧∃L:List Int,((ol o).length≤L.length∧L.length≤(ol o).length+(ol V).length)∧(st.env 6=ov aK (some L)∨∃a g,st.env 6=.own a g∧st.heap a g=some (.row 3 1 L.length (aK L)))) (ol V).length ?step ?start ?rest
 case step =>
  rintro m st ⟨k,hI,⟨L,hL,h3⟩,hk,hm⟩
  by_cases bB:(k:Int)<(ol V).length
  ·have q0:(0:Int)≤k:=by omega
   have hw:IntKind.i64.wrap ((k:Int)+1)=((k+1:Nat):Int):=by rw[qA _ (by omega) (by omega)];omega
   rcases aJV (some L) (by show (L.length:Int)<_;omega) (gx (0:Int) (ol V) (k:Int)) with ⟨ea,eb⟩|⟨M,hM,ea,eb⟩
   ·rcases h3 with h3|⟨g,h3,hg,hh⟩|⟨h3,hh⟩
    ·apply oN ((ol V).length-(k+1))
     ·simp only[Z8,seval,hI,h3,bB,q0,ea,hw];rfl
     ·exact⟨k+1,by simp only[E8,seval,hI],⟨L,by omega,.inl (by simp only[E8,seval])⟩,by omega,rfl⟩
    ·have K2:=fun st d a g=>eb st d a g L rfl
     apply oN ((ol V).length-(k+1))
     ·simp only[Z8,seval,hI,h3,hh,bB,q0,K2,hw];rfl
     ·exact⟨k+1,by simp only[E8,seval,hI],⟨L,by omega,.inl (by simp only[E8,seval])⟩,by omega,rfl⟩
    ·have K2:=fun st d a g=>eb st d a g L rfl
     apply oN ((ol V).length-(k+1))
     ·simp only[Z8,seval,hI,h3,hh,bB,q0,K2,hw];rfl
     ·exact⟨k+1,by simp only[E8,seval,hI],⟨L,by omega,.inl (by simp only[E8,seval])⟩,by omega,rfl⟩
   ·have hM':M.length=L.length+1:=hM
    rcases h3 with h3|⟨g,h3,hg,hh⟩|⟨h3,hh⟩
    ·apply oN ((ol V).length-(k+1))
     ·simp only[Z8,seval,hI,h3,bB,q0,ea,hw];rfl
     ·exact⟨k+1,by simp only[E8,seval,hI],⟨M,by omega,.inr (.inl ⟨_,by simp only[E8,seval]<;>rfl,by simp only[E8,seval]<;>omega,by simp only[E8,seval]<;>rfl⟩)⟩,by omega,rfl⟩
    ·have K2:=fun st d a g=>eb st d a g L rfl
     have vC:(g=st.aQ 21)=False:=eq_false (by omega)
     apply oN ((ol V).length-(k+1))
     ·simp only[Z8,seval,hI,h3,hh,vC,bB,q0,K2,hw];rfl
     ·exact⟨k+1,by simp only[E8,seval,hI],⟨M,by omega,.inr (.inl ⟨_,by simp only[E8,seval]<;>rfl,by simp only[E8,seval]<;>omega,by simp only[E8,seval]<;>rfl⟩)⟩,by omega,rfl⟩
    ·have K2:=fun st d a g=>eb st d a g L rfl
     apply oN ((ol V).length-(k+1))
     ·simp only[Z8,seval,hI,h3,hh,bB,q0,K2,hw];rfl
     ·exact⟨k+1,by simp only[E8,seval,hI],⟨M,by omega,.inr (.inl ⟨_,by simp only[E8,seval]<;>rfl,by simp only[E8,seval]<;>omega,by simp only[E8,seval]<;>rfl⟩)⟩,by omega,rfl⟩
  ·have h3':st.env 6=ov aK (some L)∨∃a g,st.env 6=.own a g∧st.heap a g=some (.row 3 1 L.length (aK L)):=by
    rcases h3 with h3|⟨g,h3,hg,hh⟩|⟨h3,hh⟩
    ·exact .inl h3
    ·exact .inr ⟨21,g,h3,hh⟩
    ·exact .inr ⟨9,0,h3,hh⟩
   apply oT (.exit 0)
   ·simp only[Z8,seval,hI,bB];rfl
   ·exact⟨rfl,by simp only[E8,seval,hI],L,by omega,by simpa only[E8,seval] using h3'⟩
 case start=>exact⟨0,by simp only[E8,seval]<;>rfl,⟨ol o,by omega,.inr (.inr ⟨by simp only[E8,seval],by simp only[E8,seval]⟩)⟩,by omega,by omega⟩
 case rest =>
  rintro e st ⟨rfl,h0,L,hL,h3⟩
  rcases h3 with h3|⟨a,g,h3,hh⟩
  ·simp only[Z8,seval,h3,h0];exact⟨_,dO rfl rfl rfl (by simp only[E8,seval,h3,Ed]<;>rfl) (by simp only[E8,seval,h3,Ed]<;>rfl),L,_,rfl,hL.2,aJY hL.1⟩
  ·simp only[Z8,seval,h3,hh,h0];exact⟨_,dO rfl rfl rfl (by simp only[E8,seval,h3,hh,jS]<;>rfl) (by simp only[E8,seval,h3,hh,jS]<;>rfl),L,_,rfl,hL.2,aJY hL.1⟩
theorem aOF (x:fW) (V W:Option (List Int)) (hV:x.first.eU=ov aK V) (hW:x.second.eU=ov aK W) (nV:((ol V).length:Int)<99999) (nW:((ol W).length:Int)<99999) (n:Int) :
 ∃r,aC Tryz.prog 219 [.agg (bV x),.v (.int .i64 n)]=some r∧∃e:Int,r=.v (.int .i64 e)∧e≠21:=by
 have f1:Flat x.first.eU:=by rw[hV];exact bO V
 have f2:Flat x.second.eU:=by rw[hW];exact bO W
 have fx:Flat (.agg (bV x)):=(mW x).2 ⟨f1,f2⟩
 have kV:=kx (c40 V (by omega) n) (bE (bO V) (.v _)) (.v _)
 have kW:=kx (c40 W (by omega) n) (bE (bO W) (.v _)) (.v _)
 obtain⟨ev,Zt⟩:∃e,Zs (ol V) n=e:=⟨_,rfl⟩
 obtain⟨ew,hew⟩:∃e,Zs (ol W) n=e:=⟨_,rfl⟩
 rw[Zt] at kV;rw[hew] at kW;obtain⟨r1,F6,c,rfl⟩:=aOp x.first x.second f1 f2
 have K3:=kx F6 (bE ((yO _).2 f1) ((yO _).2 f2)) (.v _)
 obtain⟨r2,hr2,o,ho,hro⟩:=aJW x V W hV hW nV nW
 rw[cL Tryz.func219 rfl aJ0 rfl];by_cases g1:ev=0
 case neg =>
  simp only[Z8,seval,hV,hW,kV,bf g1];exact⟨_,bT rfl (by simp only[E8,seval]<;>rfl) (by first|exact .v _|simp only[dY]),_,rfl,by rw[← Zt];exact RV _ _⟩
 by_cases g2:ew=0
 case neg =>
  simp only[Z8,seval,hV,hW,kV,kW,bt g1,bf g2];exact⟨_,bT rfl (by simp only[E8,seval]<;>rfl) (by first|exact .v _|simp only[dY]),_,rfl,by rw[← hew];exact RV _ _⟩
 by_cases g3:x.first.target<x.first.source
 ·simp only[Z8,seval,hV,hW,kV,kW,bt g1,bt g2,g3];exact⟨_,bT rfl (by simp only[E8,seval]<;>rfl) (by first|exact .v _|simp only[dY]),_,rfl,by decide⟩
 by_cases g4:x.second.target<x.second.source
 ·simp only[Z8,seval,hV,hW,kV,kW,bt g1,bt g2,g3,g4];exact⟨_,bT rfl (by simp only[E8,seval]<;>rfl) (by first|exact .v _|simp only[dY]),_,rfl,by decide⟩
 cases c
 ·simp only[Z8,seval,hV,hW,kV,kW,bt g1,bt g2,g3,g4,K3];exact⟨_,bT rfl (by simp only[E8,seval]<;>rfl) (by first|exact .v _|simp only[dY]),_,rfl,by decide⟩
 rcases hro with rfl|⟨L,hL,rfl⟩
 ·have Wc:=kx hr2 (cO fx) (bO o)
  by_cases g5:((ol o).length:Int)=0
  ·simp only[Z8,seval,hV,hW,kV,kW,bt g1,bt g2,g3,g4,K3,Wc,bt g5];exact⟨_,bT rfl (by simp only[E8,seval]<;>rfl) (by first|exact .v _|simp only[dY]),_,rfl,by decide⟩
  ·simp only[Z8,seval,hV,hW,kV,kW,bt g1,bt g2,g3,g4,K3,Wc,bf g5];exact⟨_,bT rfl (by simp only[E8,seval]<;>rfl) (by first|exact .v _|simp only[dY]),_,rfl,by decide⟩
 ·have Wc:∀(st:St) (d:Nat),aN (aC Tryz.prog) 221 [.agg (bV x)] st (some d)=_:=fun st d=>jB (st:=st) (d:=d) (cO fx) hr2
  by_cases g5:(L.length:Int)=0
  ·simp only[Z8,seval,hV,hW,kV,kW,bt g1,bt g2,g3,g4,K3,Wc,bt g5];exact⟨_,bT rfl (by simp only[E8,seval]<;>rfl) (by first|exact .v _|simp only[dY]),_,rfl,by decide⟩
  ·simp only[Z8,seval,hV,hW,kV,kW,bt g1,bt g2,g3,g4,K3,Wc,bf g5];exact⟨_,bT rfl (by simp only[E8,seval]<;>rfl) (by first|exact .v _|simp only[dY]),_,rfl,by decide⟩
theorem aOH {s:aP} {v:SV} {q:Int} (h:GI s v q) (r:RG s v) (x:fW) (V W:Option (List Int)) (hV:x.first.eU=ov aK V) (hW:x.second.eU=ov aK W) (nV:((ol V).length:Int)≤1000) (nW:((ol W).length:Int)≤1000) (hq:q+1000≤900000) :
 ∃r,aC Tryz.prog 205 [.agg (aB s),.agg (bV x)]=some r∧StN s v (q+1000) r:=by
 have hf:=h.sd.flat
 have jJ:=h.sd.fl
 have hz:=Ig
 have f1:Flat x.first.eU:=by rw[hV];exact bO V
 have f2:Flat x.second.eU:=by rw[hW];exact bO W
 have fx:Flat (.agg (bV x)):=(mW x).2 ⟨f1,f2⟩
 obtain⟨r1,F6,e1,rfl,he1⟩:=aOF x V W hV hW (by omega) (by omega) (ol v.B).length
 have K4:=kx F6 (bE fx (.v _)) (.v _)
 obtain⟨r2,hr2,o,ho,hro⟩:=aJW x V W hV hW (by omega) (by omega)
 have nq:=h.nQ
 obtain⟨r3,hr3,L,n,rfl,hL,AE⟩:=aOE v.Q o (by omega) (by omega)
 have fr:Flat (.eE [ov aK (some L),.v (.int .i64 n)]):=.eE _ (bE (bO _) (.v _))
 have k220:∀(st:St) (d:Option Nat),fC (aC Tryz.prog) 220 [ov aK v.Q,ov aK o] st d=_:=fun st d=>Gu (st:=st) (d:=d) (bE (bO _) (bO _)) hr3 fr
 rw[cL Tryz.func205 rfl aJ1 rfl];by_cases g1:e1=0
 case neg =>
  simp only[Z8,seval,Vr h.sd,K4,bf g1];exact⟨_,by apply dO;rfl;all_goals simp only[aE,bJ,Z8,seval,hz]<;>rfl,eF,e1,rfl,hz,he1,fun h=>absurd h g1⟩
 have hQ:((ol (some L)).length:Int)≤q+1000:=by show (L.length:Int)≤_;omega
 have h':GI { s with fV:={ s.fV with gU:=ov aK (some L)} } { v with Q:=some L } (q+1000) :=
  ⟨⟨h.sd.jI,h.sd.dV,rfl,h.sd.early,h.sd.bU,h.sd.tree,h.sd.tables,h.sd.eV,h.sd.tB,h.sd.nB,h.sd.nL,by show ((ol (some L)).length:Int)<1000000;omega,h.sd.nE,h.sd.nO,h.sd.nT,h.sd.nn⟩,h.up,h.KC,h.pos,h.nl,h.SA,h.qK,h.KY,h.nB,h.nO,h.KZ,h.nE,h.QQ,h.nT,h.SC,hQ,hq,h.dN⟩
 have l9:=h'.sd.flat
 rcases hro with rfl|⟨M,hM,rfl⟩
 ·have Wc:=kx hr2 (cO fx) (bO o)
  by_cases g2:n=0
  ·simp only[Z8,seval,Vr h.sd,K4,bt g1,h.sd.gU,Wc,k220,eA,bt g2];exact⟨_,by apply dO;rfl;all_goals simp only[aE,bJ,Z8,seval,hz]<;>rfl,eF,9,rfl,hz,by decide,fun h=>by cases h⟩
  ·simp only[Z8,seval,Vr h.sd,K4,bt g1,h.sd.gU,Wc,k220,eA,bf g2];exact⟨_,by apply dO;rfl;all_goals simp only[aE,bJ,Z8,seval,l9]<;>rfl,_,0,rfl,l9,by decide,fun _=>⟨_,h',⟨r.now,r.j,r.f,r.nd,r.or,r.rt,r.fe,r.ds,r.tb,⟨fun e=>AE g2 (by injection e),r.ne.e,r.ne.o,r.ne.t,r.ne.ea,r.ne.tb⟩⟩,rfl,rfl⟩⟩
 ·have Wc:∀(st:St) (d:Nat),aN (aC Tryz.prog) 221 [.agg (bV x)] st (some d)=_:=fun st d=>jB (st:=st) (d:=d) (cO fx) hr2
  have k220':∀(st:St) (a g:Nat) (d:Option Nat),st.heap a g=some (.row 3 1 M.length (aK M))→fC (aC Tryz.prog) 220 [ov aK v.Q,.own a g] st d=some { dst:=d,val:=.eE [ov aK (some L),.v (.int .i64 n)],dJ:=some (a,g,none)}:=by
   intro st a g d hh;rw[Ii (s:=a) (k:=g) (by rw[List.flatMap_cons,vB (bO v.Q)];rfl) (by intro y hy;simp only[List.mem_cons,List.not_mem_nil,or_false] at hy;rcases hy with rfl|rfl;exact .inl (bO _);exact .inr (.inl ⟨a,g,rfl⟩)),
    List.map_cons,List.map_cons,List.map_nil,Ed,Ij hh,bR,bR,gR,← hM]
   exact DF hr3 fr
  by_cases g2:n=0
  ·simp only[Z8,seval,Vr h.sd,K4,bt g1,h.sd.gU,Wc,k220',eA,bt g2];exact⟨_,by apply dO;rfl;all_goals simp only[aE,bJ,Z8,seval,hz]<;>rfl,eF,9,rfl,hz,by decide,fun h=>by cases h⟩
  ·simp only[Z8,seval,Vr h.sd,K4,bt g1,h.sd.gU,Wc,k220',eA,bf g2];exact⟨_,by apply dO;rfl;all_goals simp only[aE,bJ,Z8,seval,l9]<;>rfl,_,0,rfl,l9,by decide,fun _=>⟨_,h',⟨r.now,r.j,r.f,r.nd,r.or,r.rt,r.fe,r.ds,r.tb,⟨fun e=>AE g2 (by injection e),r.ne.e,r.ne.o,r.ne.t,r.ne.ea,r.ne.tb⟩⟩,rfl,rfl⟩⟩
theorem SJ {l:List Int} {n:Int} (h:Zs l n=0):∀x∈l,0≤x∧x<n:=by
 intro x hx;unfold Zs at h;have gT:l≠[]:=fun e=>by subst e;cases hx
 rw[if_neg gT] at h;by_cases g:Bj (Ta l n) l.length<0
 ·rcases yP (Ta l n) l.length with ⟨_,hj⟩|⟨k,h1,_,_,h3⟩
  ·obtain⟨j,hj1,rfl⟩:=List.getElem_of_mem hx
   have hb:=hj j hj1
   have e:gx (0:Int) l j=l[j]:=by simp[gx,hj1]
   unfold Ta at hb;rw[e] at hb;omega
  ·omega
 ·rw[if_neg g] at h;split at h<;>omega
theorem FE {s:aP} {v:SV} {a:rQ} {V:List Int} (h:(Ga s v a V).2=0):Zs V (ol v.B).length=0:=by
 unfold Ga at h;by_cases g:Zs V (ol v.B).length≠0
 ·rw[if_pos g] at h;exact h
 ·exact Classical.not_not.1 g
theorem GI.cast {s:aP} {v:SV} {q:Int} (h:GI s v q) (a:rQ) (V:List Int):GI (Pz s v a V) { v with L:=some (tV (ol v.L) a.target.aL a.root V).1 } q:=by
 have hl:(tV (ol v.L) a.target.aL a.root V).1.length=(ol v.L).length:=Py _ _ _ _
 exact⟨⟨h.sd.jI,rfl,h.sd.gU,h.sd.early,h.sd.bU,h.sd.tree,h.sd.tables,h.sd.eV,h.sd.tB,h.sd.nB,by show ((tV (ol v.L) a.target.aL a.root V).1.length:Int)<1000000;rw[hl];exact h.sd.nL,h.sd.nQ,h.sd.nE,h.sd.nO,h.sd.nT,h.sd.nn⟩,h.up,h.KC,h.pos,h.nl,h.SA,h.qK,hl.trans h.KY,h.nB,h.nO,h.KZ,h.nE,h.QQ,h.nT,h.SC,h.nQ,h.I8,h.dN⟩
def vZ (s:aP) (x:AV):aP:={ s with dM:={ s.dM with early:=x }}
theorem SK {e sz n:Nat} {cs:List AV} (h:¬ ∀c∈cs,Flat c):jC (some (.row e sz n cs))=none:=by
 unfold jC;simp only[if_neg h]
theorem aFc {a:rQ} {x g:Nat} (h:a.eU=.own x g) (l:List rQ):¬ ∀c∈dE (l++[a]),Flat c:=by
 intro hf;have hm:AV.own x g∈dE (l++[a]):=by
  unfold dE;rw[List.flatMap_append,List.mem_append];refine .inr ?_
  rw[List.flatMap_cons,List.flatMap_nil,List.append_nil];unfold gV;rw[h];simp
 have:=hf _ hm
 cases this
theorem lL {α:Type} {a b:List (Option α)} {x y:List α} (ha:cE a=some x) (hb:cE b=some y):cE (a++b)=some (x++y):=by
 induction a generalizing x with
 | nil=>simp only[gR,Option.some.injEq] at ha;subst ha;simpa using hb
 | cons c a ih =>
   cases c with
   | none=>simp[cE] at ha
   | some c =>
     rw[bR] at ha;simp only[Option.map_eq_some_iff] at ha;obtain⟨z,hz,rfl⟩:=ha
     rw[List.cons_append,bR,ih hz];rfl
theorem Cm {cs:List AV} {f:AV→Option AV} (h:∀c∈cs,f c=some c):cE (cs.map f)=some cs:=by
 induction cs with
 | nil=>rfl
 | cons c cs ih=>rw[List.map_cons,h c (List.mem_cons_self ..),bR,ih fun x hx=>h x (List.mem_cons_of_mem _ hx)];rfl
theorem Wd {st:St} {c:AV} (h:Flat c):cY st c=some c:=by unfold cY;rw[if_pos h]
theorem K5 {st:St} {c:AV} (h:Flat c):Bz st c=some c:=by
 unfold Bz;cases h<;>exact Wd (by constructor;try assumption)
theorem n5 {s:aP} {v:SV} (h:SD s v) (st:St) {E:List rQ} (hE:∀x∈E,Flat x.eU) {a:rQ} {V:List Int} {x g x' g' n:Nat}
 (hh:st.heap x g=some (.row 87 67 n (dE (E++[{ a with eU:=.own x' g' }])))) (tG:st.heap x' g'=some (.row 3 1 V.length (aK V))) :
 Mc st (.agg (aB (vZ s (.own x g))))=some (.agg (aB (vZ s (.sl n (dE (E++[{ a with eU:=ov aK (some V)}])))))):=by
 obtain⟨h1,h2,h3,h4,h5,h6,h7⟩:=h.fl
 have fl:∀ {cs:List AV},(∀c∈cs,Flat c)→cE (cs.map (Bz st))=some cs:=fun hc=>Cm fun c m=>K5 (hc c m)
 have fl1:∀ {cs:List AV},(∀c∈cs,Flat c)→cE (cs.map (cY st))=some cs:=fun hc=>Cm fun c m=>Wd (hc c m)
 have hv:cY st (.own x' g')=some (ov aK (some V)):=by rw[bG,tG];exact jS _ _
 have hatt:cE ((dE (E++[{ a with eU:=.own x' g' }])).map (cY st))=some (dE (E++[{ a with eU:=ov aK (some V)}])):=by
  unfold dE;rw[List.flatMap_append,List.flatMap_append,List.map_append];refine lL (fl1 (sK E hE)) ?_
  simp only[List.flatMap_cons,List.flatMap_nil,List.append_nil];unfold gV;rw[List.map_append,List.map_append,List.map_append];refine lL (fl1 (eC _)) (lL (fl1 (dP _)) (lL (fl1 (dA _)) ?_))
  rw[List.map_cons,List.map_nil,hv];rfl
 have hea:Bz st (.own x g)=some (.sl n (dE (E++[{ a with eU:=ov aK (some V)}]))):=by
  unfold Bz;simp only[hh,hatt];rfl
 unfold Mc;simp only
 have:cE ((aB (vZ s (.own x g))).map (Bz st))=some (aB (vZ s (.sl n (dE (E++[{ a with eU:=ov aK (some V)}]))))):=by
  unfold vZ aB jP;simp only[List.map_append];refine lL (fl (tR _ h1)) (lL (fl (qE _ h2 h3)) (lL (fl (lC _)) (lL (lL ?_ (fl (by simpa using h5))) (lL (fl (vW _ h6)) (lL (fl (eC _)) (lL (fl (dP _)) (fl (by simpa using h7))))))))
  rw[List.map_cons,List.map_nil,hea];rfl
 rw[this];rfl
theorem K6 {s:aP} {v:SV} (h:SD s v) (st:St) {E:List rQ} {a:rQ} {x g x' g' n:Nat} (ha:a.eU=.own x' g')
 (hh:st.heap x g=some (.row 87 67 n (dE (E++[a])))):fO st (.agg (aB (vZ s (.own x g))))=none:=by
 have jJ:=h.fl
 have hn:=SK (e:=87) (sz:=67) (n:=n) (aFc ha E)
 unfold vZ;simp only[bP,gI,bG,hh,hn,cX,dY,jJ,cU,LD]
theorem GI.early {s:aP} {v:SV} {q:Int} (h:GI s v q) (E:Option (List rQ)) (hE:∀a∈ol E,Cj a) (hn:((ol E).length:Int)≤s.cFg.mA.pR):GI (vZ s (ov dE E)) { v with E:=E } q :=
 ⟨⟨h.sd.jI,h.sd.dV,h.sd.gU,rfl,h.sd.bU,h.sd.tree,h.sd.tables,hE,h.sd.tB,h.sd.nB,h.sd.nL,h.sd.nQ,by have:=h.QQ;show ((ol E).length:Int)<1000000;omega,h.sd.nO,h.sd.nT,h.sd.nn⟩,h.up,h.KC,h.pos,h.nl,h.SA,h.qK,h.KY,h.nB,h.nO,h.KZ,hn,h.QQ,h.nT,h.SC,h.nQ,h.I8,h.dN⟩
theorem aFd (s:aP) (v:SV) (a:rQ) (V:List Int):(Ga s v a V).2≠21:=by
 unfold Ga;split
 ·exact RV _ _
 repeat (split;simp)
 simp
theorem aOI {s:aP} {v:SV} {q:Int} (h:GI s v q) (r:RG s v) (a:rQ) (V:Option (List Int)) (hV:a.eU=ov aK V) (nV:((ol V).length:Int)<99999) :
 ∃r,aC Tryz.prog 204 [.agg (aB s),.agg (gV a)]=some r∧StN s v q r:=by
 have hf:=h.sd.flat
 have jJ:=h.sd.fl
 have hz:=Ig
 have fa:Flat (.agg (gV a)):=(yN a).2 (by rw[hV];exact bO V)
 have k39:=kx (c39 h.sd h.up h.sp a V hV (by omega)) (bE hf fa) (.eE _ (bE (.v _) (.v _)))
 rw[cL Tryz.func204 rfl aJ2 rfl];by_cases g1:(Ga s v a (ol V)).2=0
 case neg =>
  simp only[Z8,seval,k39,eA,bf g1];exact⟨_,by apply dO;rfl;all_goals simp only[aE,bJ,Z8,seval,hz]<;>rfl,eF,_,rfl,hz,aFd _ _ _ _,fun h=>absurd h g1⟩
 cases g2:(Ga s v a (ol V)).1
 ·have hr:∀x∈ol V,0≤x∧x<(ol v.L).length:=by rw[h.KY];exact SJ (FE g1)
  have h':=h.cast a (ol V)
  have l9:=h'.sd.flat
  have k44:=kx (c44 h.sd a V hV (by omega) hr) (bE hf fa) l9
  simp only[Z8,seval,k39,eA,bt g1,g2,k44];exact⟨_,by apply dO;rfl;all_goals simp only[aE,bJ,Z8,seval,l9]<;>rfl,_,0,rfl,l9,by decide,fun _=>⟨_,h',⟨r.now,r.j,r.f,r.nd,r.or,r.rt,r.fe,r.ds,r.tb,⟨r.ne.q,r.ne.e,r.ne.o,r.ne.t,r.ne.ea,r.ne.tb⟩⟩,rfl,rfl⟩⟩
 ·by_cases g3:s.cFg.mA.pR≤((ol v.E).length:Int)
  ·simp only[Z8,seval,k39,eA,bt g1,g2,h.sd.early,g3];exact⟨_,by apply dO;rfl;all_goals simp only[aE,bJ,Z8,seval,hz]<;>rfl,eF,11,rfl,hz,by decide,fun h=>by cases h⟩
  ·have hE:∀b∈ol (some (ol v.E++[{ a with eU:=ov aK (some (ol V))}])),Cj b:=by
    intro b hb;rcases List.mem_append.1 (show b∈ol v.E++[{ a with eU:=ov aK (some (ol V))}] from hb) with hb|hb
    ·exact h.sd.eV b hb
    ·rw[List.mem_singleton] at hb;subst hb;exact⟨some (ol V),rfl,by show ((ol V).length:Int)<_;omega⟩
   have hVne:ol V≠[]:=fun e=>by have h0:=FE g1;rw[e] at h0;simp[Zs] at h0
   have hEa:∀b∈ol (some (ol v.E++[{ a with eU:=ov aK (some (ol V))}])),∃W,b.eU=ov aK (some W)∧W≠[]:=by
    intro b hb;rcases List.mem_append.1 (show b∈ol v.E++[{ a with eU:=ov aK (some (ol V))}] from hb) with hb|hb
    ·exact r.ne.ea b hb
    ·rw[List.mem_singleton] at hb;subst hb;exact⟨ol V,rfl,hVne⟩
   have h':=h.early (some (ol v.E++[{ a with eU:=ov aK (some (ol V))}])) hE (by show (((ol v.E++[{ a with eU:=ov aK (some (ol V))}]).length:Nat):Int)≤_;rw[List.length_append,List.length_cons,List.length_nil];omega)
   have l9:=h'.sd.flat
   have nE:=h.sd.nE
   have hEf:∀x∈ol v.E,Flat x.eU:=fun x m=>(h.sd.eV x m).fl
   simp only[Z8,seval,k39,eA,bt g1,g2,h.sd.early,g3,hV,Nc _ (show ((ol V).length:Int)<1000000 by omega),XE _ nE,Uh _ _ _ _ nE]
   have hlen:(ol v.E++[{ a with eU:=.own 35 0 }]).length=(ol v.E++[{ a with eU:=ov aK (some (ol V))}]).length:=by rw[List.length_append,List.length_append];rfl
   exact⟨_,aJ3 rfl (by simp only[bJ,Z8,seval]<;>rfl) (by simp only[bJ,E8,seval]<;>rfl)
    (K6 h.sd _ rfl (by simp only[E8,seval]<;>rfl)) (n5 (x':=35) (g':=0) h.sd _ hEf (by simp only[E8,seval,hlen]<;>rfl) (by simp only[E8,seval]<;>rfl)) (by simp only[Z8,seval]<;>rfl),_,0,rfl,l9,by decide,fun _=>⟨_,h',⟨r.now,r.j,r.f,r.nd,r.or,r.rt,r.fe,r.ds,r.tb,⟨r.ne.q,by simp,r.ne.o,r.ne.t,hEa,r.ne.tb⟩⟩,rfl,rfl⟩⟩
theorem aOK (ns:List Node) (hu:gZ ns) (hr:(nd ns 0).up=-1) (hn:(ns.length:Int)<1000000) (w:List Int) (hw:w.length=ns.length) (b:List Bool) (hb:b.length=ns.length) (i:Int) :
 ∃r,aC Tryz.prog 225 [.agg (cP ⟨ns⟩),.sl w.length (bC w),.sl b.length (mP b),.v (.int .i64 i)]=some r∧∃k:Int,r=.v (.int .i64 k)∧(k=-1∨(i<k∧0≤k∧k<ns.length)):=by
 rw[cL Tryz.func225 rfl aJ4 rfl];by_cases hc:vV ns i=[]
 ·have kc:=fun st d=>aDF ns hu hr hn i hc st d
  simp only[Z8,seval,kc];refine cH (fun m st=>st.env 9=.v (.int .i64 (-1))∧st.env 10=.v (.slice none 0 0)∧st.env 11=.v (.int .i64 0)∧m=0) (fun e st=>e=.exit 0∧st.env 9=.v (.int .i64 (-1))) 0 ?step ?start ?rest
  case step =>
   rintro m st ⟨h9,h10,h11,_⟩
   apply oT (.exit 0)
   ·simp only[Z8,seval,h9,h10,h11,Int.lt_irrefl];rfl
   ·exact⟨rfl,by simp only[E8,seval,h9]⟩
  case start=>exact⟨by simp only[E8,seval]<;>rfl,by simp only[E8,seval]<;>rfl,by simp only[E8,seval]<;>rfl,rfl⟩
  case rest =>
   rintro e st ⟨rfl,h9⟩
   simp only[Z8,seval,h9];exact⟨_,bT rfl (by simp only[E8,seval,h9]<;>rfl) (by first|exact .v _|simp only[dY,h9]),-1,rfl,.inl rfl⟩
 have kc:=fun st d=>aIN ns hu hr hn i hc st d
 have hgt:∀x∈vV ns i,i<x∧0≤x∧x<ns.length:=fun x hx=>FD hu hr hx
 have hin:((vV ns i).length:Int)<1000000:=by
  have h1:(vV ns i).length≤ns.length:=by
   unfold vV;split
   ·simp
   ·exact Uc ns i ns.length
  omega
 obtain⟨l,el⟩:∃l,vV ns i=l:=⟨_,rfl⟩
 rw[el] at kc hgt hin;simp only[Z8,seval,kc];refine cH (fun m st=>∃(k:Nat) (wS:Int),(st.env 4=.ptr 4 0 0∧st.heap 4 0=some (.cells (cP ⟨ns⟩))∧st.env 1=.sl w.length (bC w)∧st.env 2=.sl b.length (mP b)∧st.env 10=.own 15 0∧st.heap 15 0=some (.row 3 1 l.length (aK l))∧st.env 9=.v (.int .i64 wS)∧st.env 11=.v (.int .i64 k))∧(wS=-1∨(i<wS∧0≤wS∧wS<ns.length))∧k≤l.length∧m=l.length-k)
  (fun e st=>e=.exit 0∧∃wS:Int,st.env 9=.v (.int .i64 wS)∧(wS=-1∨(i<wS∧0≤wS∧wS<ns.length))) l.length ?step ?start ?rest
 case step =>
  rintro m st ⟨k,wS,hI,DG,hk,hm⟩
  by_cases bB:(k:Int)<l.length
  case neg =>
   apply oT (.exit 0)
   ·simp only[Z8,seval,hI,bB];rfl
   ·exact⟨rfl,wS,by simp only[E8,seval,hI],DG⟩
  have q0:(0:Int)≤k:=by omega
  have hwr:IntKind.i64.wrap ((k:Int)+1)=((k+1:Nat):Int):=by rw[qA _ (by omega) (by omega)];omega
  have gi:=oZ q0 bB
  obtain⟨c,ec⟩:∃c,it l (k:Int)=c:=⟨_,rfl⟩
  have hc:=hgt c (by rw[← ec];obtain⟨h1,h2⟩:=wN q0 bB;rw[h2];exact List.getElem_mem h1)
  obtain⟨c0,c1,c2⟩:=hc
  have c3:c<(w.length:Int):=by rw[hw];exact c2
  have c4:c<(b.length:Int):=by rw[hb];exact c2
  cases g1:gx false b c
  ·apply oN (l.length-(k+1))
   ·simp only[Z8,seval,hI,bB,q0,gi,ec,c1,c3,c4,g1,hwr,gW,gX];rfl
   ·exact⟨k+1,wS,by simp only[E8,seval,hI],DG,by omega,rfl⟩
  by_cases g2:wS<0
  ·apply oN (l.length-(k+1))
   ·simp only[Z8,seval,hI,bB,q0,gi,ec,c1,c3,c4,g1,g2,hwr,gW,gX];rfl
   ·exact⟨k+1,c,by simp only[E8,seval,hI],.inr ⟨c0,c1,c2⟩,by omega,rfl⟩
  have b1:0≤wS:=by omega
  have b2:wS<ns.length:=by omega
  have b3:wS<(w.length:Int):=by rw[hw];exact b2
  by_cases g3:gx (0:Int) w wS<gx (0:Int) w c
  ·apply oN (l.length-(k+1))
   ·simp only[Z8,seval,hI,bB,q0,gi,ec,c1,c3,c4,g1,g2,b1,b3,g3,hwr,gW,gX];rfl
   ·exact⟨k+1,c,by simp only[E8,seval,hI],.inr ⟨c0,c1,c2⟩,by omega,rfl⟩
  by_cases g4:gx (0:Int) w c=gx (0:Int) w wS
  case neg =>
   apply oN (l.length-(k+1))
   ·simp only[Z8,seval,hI,bB,q0,gi,ec,c1,c3,c4,g1,g2,b1,b3,g3,bf g4,hwr,gW,gX];rfl
   ·exact⟨k+1,wS,by simp only[E8,seval,hI],DG,by omega,rfl⟩
  by_cases g5:0<aJb (nd ns c).block.root (nd ns wS).block.root
  ·apply oN (l.length-(k+1))
   ·simp only[Z8,seval,hI,bB,q0,gi,ec,c1,c2,c3,c4,g1,g2,b1,b2,b3,g3,bt g4,aEZ,g5,hwr,gW,gX];rfl
   ·exact⟨k+1,c,by simp only[E8,seval,hI],.inr ⟨c0,c1,c2⟩,by omega,rfl⟩
  ·apply oN (l.length-(k+1))
   ·simp only[Z8,seval,hI,bB,q0,gi,ec,c1,c2,c3,c4,g1,g2,b1,b2,b3,g3,bt g4,aEZ,g5,hwr,gW,gX];rfl
   ·exact⟨k+1,wS,by simp only[E8,seval,hI],DG,by omega,rfl⟩
 case start=>exact⟨0,-1,by simp only[E8,seval]<;>rfl,.inl rfl,by omega,by omega⟩
 case rest =>
  rintro e st ⟨rfl,wS,h9,DG⟩
  simp only[Z8,seval,h9];exact⟨_,bT rfl (by simp only[E8,seval,h9]<;>rfl) (by first|exact .v _|simp only[dY,h9]),wS,rfl,DG⟩
theorem aOL {s:aP} {v:SV} {q:Int} (h:GI s v q):∃r,aC Tryz.prog 208 [.agg (aB s)]=some r∧∃k:Int,r=.v (.int .i64 k)∧0≤k∧k<v.ns.length:=by
 have hf:=h.sd.flat
 have hn:=h.sd.nn
 obtain⟨r1,e1,w,rfl,hw⟩:=aOz h
 obtain⟨r2,e2,b,rfl,hb⟩:=aOD h
 have k223:∀(st:St) (d:Nat),aN (aC Tryz.prog) 223 [.agg (aB s)] st (some d)=_:=fun st d=>jB (st:=st) (d:=d) (cO hf) e1
 have k224:∀(st:St) (d:Nat),aN (aC Tryz.prog) 224 [.agg (aB s)] st (some d)=_:=fun st d=>jB (st:=st) (d:=d) (cO hf) e2
 have hB:∀i:Int,∃k:Int,aC Tryz.prog 225 [.agg (cP ⟨v.ns⟩),.sl w.length (bC w),.sl b.length (mP b),.v (.int .i64 i)]=some (.v (.int .i64 k))∧(k=-1∨(i<k∧0≤k∧k<v.ns.length)):=fun i=>by
  obtain⟨r,hr,k,rfl,hk⟩:=aOK v.ns h.up h.KC hn w hw b hb i
  exact⟨k,hr,hk⟩
 have kB:∀(i:Int) (k:Int),aC Tryz.prog 225 [.agg (cP ⟨v.ns⟩),.sl w.length (bC w),.sl b.length (mP b),.v (.int .i64 i)]=some (.v (.int .i64 k))→∀(st:St) (g1 g2:Nat) (d:Option Nat),st.heap 8 g1=some (.row 23 1 w.length (bC w))→st.heap 10 g2=some (.row 4 1 b.length (mP b)) →
  aN (aC Tryz.prog) 225 [.agg (cP ⟨v.ns⟩),.own 8 g1,.own 10 g2,.v (.int .i64 i)] st d=some { dst:=d,val:=.v (.int .i64 k)}:=by
  intro i k hk st g1 g2 d hh1 tG;rw[mU,List.map_cons,List.map_cons,List.map_cons,List.map_cons,List.map_nil,Ih,vA,hh1,uZ,vA,tG,XF,Pw,bR,bR,bR,bR,gR];exact DE hk
 rw[cL Tryz.func208 rfl aJ7 rfl];simp only[Z8,seval,k223,k224,h.sd.tree,jA _ _ hn];refine cH (fun m st=>∃i:Int,(st.env 1=.ptr 1 0 0∧st.heap 1 0=some (.cells (aB s))∧st.env 3=.own 8 0∧st.heap 8 0=some (.row 23 1 w.length (bC w))∧st.env 4=.own 10 0∧st.heap 10 0=some (.row 4 1 b.length (mP b))∧st.env 5=.v (.int .i64 i))∧0≤i∧i<v.ns.length∧m=v.ns.length-i.toNat)
  (fun e st=>e=.ret∧∃i:Int,st.env 2=.v (.int .i64 i)∧0≤i∧i<v.ns.length) (v.ns.length-(aM v.ns s.aG.dN.root).toNat) ?step ?start ?rest
 case step =>
  rintro m st ⟨i,hI,i0,i1,hm⟩
  obtain⟨k,hk,hkk⟩:=hB i
  have kb:=kB i k hk
  by_cases bB:k<0
  ·apply oT (.ret)
   ·simp only[Z8,seval,hI,h.sd.tree,kb,bB];rfl
   ·exact⟨rfl,i,by simp only[E8,seval],i0,i1⟩
  ·apply oN (v.ns.length-k.toNat)
   ·simp only[Z8,seval,hI,h.sd.tree,kb,bB];rfl
   ·exact⟨k,by simp only[E8,seval,hI],by omega,by omega,rfl⟩
 case start=>exact⟨_,by simp only[E8,seval]<;>rfl,h.dN,(dW _ _).2,rfl⟩
 case rest =>
  rintro e st ⟨rfl,i,h2,i0,i1⟩
  simp only[Z8,seval];exact⟨_,bT rfl (by simp only[E8,seval,h2]<;>rfl) (by first|exact .v _|simp only[dY,h2]),i,rfl,i0,i1⟩
theorem SL (r:Command):Flat (.agg (eG r))=True:=eq_true (.agg _ (kY r))
theorem aOM {s:aP} {v:SV} {q:Int} (h:GI s v q):∃r,aC Tryz.prog 199 [.agg (aB s)]=some r∧∃c:Command,r=.agg (eG c):=by
 have hf:=h.sd.flat
 obtain⟨r1,e1,k,rfl,k0,k1⟩:=aOL h
 have k208:=kx e1 (cO hf) (.v _)
 obtain⟨r2,e2,r,rfl⟩:=aOq h.sd
 have k209:=kx e2 (cO hf) (rH r)
 rw[cL Tryz.func199 rfl aJ8 rfl];simp only[Z8,seval,k208,k209,h.sd.tree,k0,k1];exact⟨_,fF rfl (by simp only[E8,seval,SL]<;>rfl) (by simp only[Z8,seval,SL]<;>rfl) (by simp only[dY,and_self,SL]),_,rfl⟩
theorem aJ9 (t:State) (hf:Flat (.agg (aI t))) {v:SV} {q:Int} (h:GI t.store v q):∃r,aC Tryz.prog 181 [.agg (aI t)]=some r∧∃(b:Bool) (c:Command) (y:AV),r=.eE [.agg (aI { t with yU:=b,last:=c }),y]∧Flat y:=by
 have WL:=h.sd.flat
 have jJ:=(lO t).1 hf
 obtain⟨r1,e1,c,rfl⟩:=aOM h
 have aFf:=kx e1 (cO WL) (.agg _ (kY c))
 have hfc:∀x∈eG c,Flat x:=kY c
 have ex:jC (some (.row 56 96 1 (eG c)))=some (.sl 1 (eG c)):=by
  unfold jC;simp only[if_pos hfc]
 rw[cG Tryz.func181 rfl aKa (by kernel_rfl) rfl]
 have l9:Flat (.agg (aI { t with yU:=true,last:=c })):=(lO _).2 jJ
 cases g1:t.yU
 ·simp only[ZG,seval,Bool.false_and,Prod.mk.injEq,K7,aFf,g1];exact⟨_,by apply dO;rfl;all_goals simp only[aE,bJ,Z8,seval,l9,ex]<;>rfl,true,c,_,rfl,.sl _ _ hfc⟩
 ·by_cases g2:t.last=c
  ·simp only[ZG,seval,Bool.false_and,Prod.mk.injEq,K7,aFf,g1,g2];exact⟨_,by apply dO;rfl;all_goals simp only[aE,bJ,Z8,seval,hf]<;>rfl,t.yU,t.last,_,rfl,.v _⟩
  ·simp only[ZG,seval,Bool.false_and,Prod.mk.injEq,K7,aFf,g1,g2];exact⟨_,by apply dO;rfl;all_goals simp only[aE,bJ,Z8,seval,l9,ex]<;>rfl,true,c,_,rfl,.sl _ _ hfc⟩
theorem wrap_u64 (x:Int) (h1:0≤x) (h2:x<18446744073709551616):IntKind.u64.wrap x=x:=by
 unfold IntKind.wrap;simp[IntKind.signed,IntKind.bits]
 omega
theorem aKb (o:Option (List Int)) (hn:((ol o).length:Int)≤1000) (hb:∀x∈ol o,0≤x∧x≤1000):∃a:Int,aC Tryz.prog 175 [ov bC o]=some (.eE [.v (.int .u64 a),.v (.int .i64 0)])∧0≤a∧a≤1000000:=by
 suffices h:∃r,aC Tryz.prog 175 [ov bC o]=some r∧∃a:Int,r=.eE [.v (.int .u64 a),.v (.int .i64 0)]∧0≤a∧a≤1000000 by
  obtain⟨r,h,a,rfl,h1⟩:=h;exact⟨a,h,h1⟩
 have add:∀(a:Int) (k:Nat),0≤a∧a≤1000 * k→k<(ol o).length→Zx a (gx (0:Int) (ol o) (k:Int))=(a+gx (0:Int) (ol o) (k:Int),0)∧0≤a+gx (0:Int) (ol o) (k:Int)∧a+gx (0:Int) (ol o) (k:Int)≤1000 * ((k+1:Nat):Int):=by
  intro a k ha hk;have hx:=hb _ (uY (z:=(0:Int)) (show (0:Int)≤k by omega) (show (k:Int)<(ol o).length by omega))
  obtain⟨x,ex⟩:∃x,gx (0:Int) (ol o) (k:Int)=x:=⟨_,rfl⟩
  rw[ex] at hx ⊢;have w1:IntKind.u64.wrap (18446744073709551615-x)=18446744073709551615-x:=wrap_u64 _ (by omega) (by omega)
  have w2:IntKind.u64.wrap (a+x)=a+x:=wrap_u64 _ (by omega) (by omega)
  unfold Zx;rw[w1,w2,if_neg (by omega)]
  exact⟨rfl,by omega,by omega⟩
 rw[cL Tryz.func175 rfl aDL (by cases o<;>rfl)]
 simp only[Z8,seval];refine cH (fun m st=>∃(k:Nat) (a:Int),(st.env 0=ov bC o∧st.env 4=.v (.int .u64 a)∧st.env 5=.v (.int .i64 k))∧(0≤a∧a≤1000 * k)∧k≤(ol o).length∧m=(ol o).length-k)
  (fun e st=>e=.exit 0∧∃a:Int,st.env 4=.v (.int .u64 a)∧0≤a∧a≤1000000) (ol o).length ?step ?start ?rest
 case step =>
  rintro m st ⟨k,a,hI,ha,hk,hm⟩
  by_cases bB:(k:Int)<(ol o).length
  ·have q0:(0:Int)≤k:=by omega
   have hw:IntKind.i64.wrap ((k:Int)+1)=((k+1:Nat):Int):=by rw[qA _ (by omega) (by omega)];omega
   obtain⟨h1,h2⟩:=add a k ha (by omega)
   apply oN ((ol o).length-(k+1))
   ·simp only[Z8,seval,hI,bB,q0,aEL,eA,h1,hw];rfl
   ·exact⟨k+1,_,by simp only[E8,seval,hI]<;>rfl,h2,by omega,rfl⟩
  ·apply oT (.exit 0)
   ·simp only[Z8,seval,hI,bB];rfl
   ·exact⟨rfl,a,by simp only[E8,seval,hI],by omega⟩
 case start=>exact⟨0,0,by simp only[E8,seval]<;>exact⟨rfl,rfl⟩,by omega,by omega,by omega⟩
 case rest =>
  rintro e st ⟨rfl,a,h,ha⟩
  simp only[Z8,seval,h];exact⟨_,dO rfl rfl rfl (by simp only[E8,seval,h]<;>rfl) (by simp only[E8,seval,h]<;>rfl),_,rfl,ha⟩
theorem aKc (t:Table) (b:Option (List Int)) (ht:t.jI=ov bC b) (hn:((ol b).length:Int)≤1000) (hb:∀x∈ol b,0≤x∧x≤1000):aC Tryz.prog 130 [.agg (cA t),.v (.int .i64 (ol b).length)]=some (.v (.int .i64 0)):=by
 obtain⟨a,hr,a0,a1⟩:=aKb b hn hb
 have ZU:=kx hr (cO (dR b)) (.eE _ (bE (.v _) (.v _)))
 rw[cL Tryz.func130 rfl aDN rfl];refine jR ?_
 have h3:(4611686018427387904<a)=False:=eq_false (by omega)
 simp only[Z8,seval,ht,bt (rfl:((ol b).length:Int)=(ol b).length),ZU,eA,h3];exact⟨_,bT rfl (by simp only[E8,seval]<;>rfl) (by first|exact .v _|simp only[dY]),rfl⟩
theorem aBl:mkRoot 1≠dK:=by decide
structure Nd (c:Config) (b:List Int):Prop where
 jI:c.jI=ov bC (some b)
 nb:1≤b.length∧b.length≤64
 bv:∀x∈b,0≤x∧x≤1000
 qK:1≤c.qK∧c.qK≤64
 bp:c.Gs≤100
 rK:1≤c.mA.rK∧c.mA.rK≤4096
 vX:0≤c.mA.vX∧c.mA.vX≤64
 pR:0≤c.mA.pR∧c.mA.pR≤256
 qL:1≤c.mA.qL∧c.mA.qL≤64
 oC:0≤c.mA.oC∧c.mA.oC≤256
 back:1≤c.mA.qY∧c.mA.qY≤1048576
 gen:c.eB=mkRoot 1
 n6:6≤c.mA.rK
theorem aFg (n:Nat):((List.range n).flatMap fun _=>jK rU)=cK (List.replicate n rU):=by
 induction n with
 | zero=>rfl
 | succ n ih=>rw[List.range_succ,List.flatMap_append,ih,List.replicate_succ',cK,cK,List.flatMap_append];simp
theorem LF (t:Table):aT [t]=cA t:=by simp[aT]
def FF (c:Config):Block:={ fB with root:=c.eB,dN:=⟨0,c.eB⟩,fin:=⟨0,c.eB⟩,dS:=⟨⟨0,c.eB⟩,⟨0,c.eB⟩⟩}
def SM (c:Config) (b:List Int):aP:=⟨c,⟨ov cK (some (List.replicate b.length rU)),.v (.slice none 0 0)⟩,⟨⟨0,c.eB⟩,⟨0,c.eB⟩⟩,Ao,⟨.sl 1 (cC [⟨FF c,-1,1⟩])⟩,0,dK,ov aT (some [⟨⟨0,c.eB⟩,ov bC (some b)⟩])⟩
def Tb (c:Config) (b:List Int):SV:={ B:=some b,L:=some (List.replicate b.length rU),Q:=none,E:=none,O:=none,ns:=[⟨FF c,-1,1⟩],T:=some [⟨⟨0,c.eB⟩,ov bC (some b)⟩]}
theorem GI.new {c:Config} {b:List Int} (h:Nd c b):GI (SM c b) (Tb c b) 0:=by
 have hb:=h.nb
 refine⟨⟨h.jI,rfl,rfl,rfl,rfl,rfl,rfl, ?_, ?_, ?_, ?_, ?_, ?_, ?_, ?_, ?_⟩, ?_, ?_, ?_, ?_,h.rK.2,h.qK, ?_, ?_, ?_,h.vX.2, ?_,h.pR.2, ?_,h.qL.2, ?_,by omega, ?_⟩
 ·intro a ha;cases ha
 ·intro t ht;rw[show t=⟨⟨0,c.eB⟩,ov bC (some b)⟩ by simpa [Tb,ol] using ht]
  exact⟨some b,rfl,by show (b.length:Int)<_;omega⟩
 ·show (b.length:Int)<_;omega
 ·show ((List.replicate b.length rU).length:Int)<_;rw[List.length_replicate];omega
 ·show ((0:Nat):Int)<_;omega
 ·show ((0:Nat):Int)<_;omega
 ·show ((0:Nat):Int)<_;omega
 ·show ((1:Nat):Int)<_;omega
 ·show ((1:Nat):Int)<_;omega
 ·intro i h0 h1;have:i<((1:Nat):Int):=h1;omega
 ·rfl
 ·show 0<1;omega
 ·show ((1:Nat):Int)≤c.mA.rK;have:=h.rK.1;omega
 ·show (List.replicate b.length rU).length=b.length;rw[List.length_replicate]
 ·show (b.length:Int)≤1024;omega
 ·show ((0:Nat):Int)≤c.mA.vX;have:=h.vX.1;omega
 ·show ((0:Nat):Int)≤c.mA.pR;have:=h.pR.1;omega
 ·show ((1:Nat):Int)≤c.mA.qL;have:=h.qL.1;omega
 ·show ((0:Nat):Int)≤0;omega
 ·exact Na (j:=0) (by omega) (by show (0:Int)<((1:Nat):Int);omega) rfl
theorem aON {c:Config} {b:List Int} (h:Nd c b):aC Tryz.prog 102 [.agg (bS c)]=some (.eE [.agg (aB (SM c b)),.v (.int .i64 0)]):=by
 obtain⟨hbal,hnb,hbv,hspe,hbp,h1,h2,h3,h4,h5,h6,hg0,_⟩:=h
 have hg:c.eB≠dK:=by rw[hg0];exact aBl
 have f1:=hspe.1;have f2:¬64<c.qK:=by omega
 have f1':¬c.qK<1:=by omega
 have f3:¬100<c.Gs:=by omega
 have f4:¬(1024:Int)<(b.length:Int):=by omega
 have f6:¬c.mA.qY<1:=by omega
 have f7:¬1048576<c.mA.qY:=by omega
 have n1:((ol (some b)).length:Int)<1000000:=by show (b.length:Int)<_;omega
 have hb0:(0:Int)≤(b.length:Int):=by omega
 have RA:(b.length:Int) * 48≤140737488355328:=by omega
 have WJ:(b.length:Int)≤(maxLen:Int):=by unfold maxLen;omega
 have zE:iM.aL=0:=rfl
 have kt:∀(st:St) (d:Option Nat),aN (aC Tryz.prog) 130 [.agg (cA ⟨⟨0,c.eB⟩,ov bC (some b)⟩),.v (.int .i64 b.length)] st d=some { dst:=d,val:=.v (.int .i64 0)}:=kx (aKc ⟨⟨0,c.eB⟩,ov bC (some b)⟩ (some b) rfl (by show (b.length:Int)≤_;omega) hbv) (bE ((jZ ⟨⟨0,c.eB⟩,ov bC (some b)⟩).2 (dR (some b))) (.v _)) (.v _)
 have aE3:=kx (aJq ⟨⟨0,c.eB⟩,ov bC (some b)⟩ (some b) rfl n1) (cO ((jZ ⟨⟨0,c.eB⟩,ov bC (some b)⟩).2 (dR (some b)))) ((jZ ⟨⟨0,c.eB⟩,ov bC (some b)⟩).2 (dR (some b)))
 rw[cL Tryz.func102 rfl aKd rfl];refine jR ?_
 simp only[Z8,seval,gW,gX,hbal,f1',f2,f3,f4,f6,f7,aNu,h1.1,h1.2,h2.1,h2.2,h3.1,h3.2,h4.1,h4.2,h5.1,h5.2,hg,zE,kt,hb0,RA,WJ,Int.toNat_natCast,aFg,aE3,aNl,Eb b (show (b.length:Int)<1000000 by omega)]
 have exT:=Mz 1 [⟨⟨0,c.eB⟩,ov bC (some b)⟩] (by intro y hy;rw[List.mem_singleton] at hy;subst hy;exact dR (some b))
 rw[LF] at exT;have hcc:∀x,x=c.jI→({ mA:=c.mA,qK:=c.qK,Gs:=c.Gs,Zz:=c.Zz,eB:=c.eB,jI:=x }:Config)=c:=by rintro _ rfl;rfl
 have zs:eF.fV.gU=.v (.slice none 0 0)∧eF.dM.early=.v (.slice none 0 0)∧eF.dM.bU=.v (.slice none 0 0):=⟨rfl,rfl,rfl⟩
 exact⟨_,by apply dO;rfl;all_goals simp only[aE,bJ,Z8,seval,bP,gI,bG,uZ,Uf,exT,cX,dY,zs]<;>rfl,by unfold SM;simp only[ov,List.length_replicate,LF,hcc (.sl b.length (bC b)) hbal.symm]<;>rfl⟩
end Go.Ab.Tryz
section
namespace Go.Ab
open Classical
theorem Ik [Ext] (P:Program) {f:Nat} {fn:Func} {c:Code} (hf:P.funcs[f]? = some fn) (hb:fn.body=some c) (pM:bH fn=true) (e sz m:Nat) (cs xs:List AV) (hx:Ext.ext f (.uniq e sz m cs :: xs)=none) :
 aC P f (.uniq e sz m cs :: xs)=cD (yH P c (St.sQ e sz m cs xs)) (n8 P fn):=by
 simp only[bH,hb,Bool.and_eq_true,Bool.not_eq_true'] at pM;rw[LG P hf hb pM.1 e sz m cs xs hx,pM.2];rfl
theorem XG [Ext] (P:Program) {f:Nat} {fn:Func} {c:Code} (hf:P.funcs[f]? = some fn) (hb:fn.body=some c) (pM:tL fn=true) (hc:nN c=true) (e sz m:Nat) (cs xs:List AV) (hx:Ext.ext f (.uniq e sz m cs :: xs)=none) :
 aC P f (.uniq e sz m cs :: xs)=cD (wA P true c (St.sQ e sz m cs xs)) (n8 P fn):=by
 rw[LG P hf hb pM e sz m cs xs hx,hc]
theorem yV [Ext] {P:Program} {fn:Func} {st:St} {e:Ex} {t s g ee sz n:Nat} {cs:List AV} (he:e=.ret∨e=.normal) (hr:fn.results.toList=[.tmp t]) (h1:st.env t=.own s g) (h2:st.heap s g=some (.row ee sz n cs)) (hm:∀c∈cs,fM c) :
 n8 P fn (e,st)=some (.uniq ee sz n cs):=LH he hr (by unfold jW;simp only[h1]) h2 hm
end Go.Ab
namespace Go.Ab.Tryz
open Classical Go.Proofs Go.Ab
theorem yW (l:List Int):∀c∈jX l,fM c:=by
 intro c hc;unfold jX at hc;obtain⟨x,_,hx⟩:=List.mem_flatMap.1 hc
 rw[cU8,List.mem_singleton] at hx;subst hx;exact .v _
def Wr (F:Nat) (rest:List AV) (K:Int):Prop:=∀l:List Int,(l.length:Int)+K<900000→∃m:List Int,aC Tryz.prog F (.uniq 5 1 l.length (jX l) :: rest)=some (.uniq 5 1 m.length (jX m))∧(m.length:Int)≤l.length+K
def WrN (F:Nat) (rest:List AV) (K:Int):Prop:=∃m:List Int,aC Tryz.prog F (.v (.slice none 0 0) :: rest)=some (.uniq 5 1 m.length (jX m))∧(m.length:Int)≤K
theorem Wr.at {F:Nat} {rest:List AV} {K:Int} (h:Wr F rest K) (hr:∀x∈rest,Flat x) {l:List Int} (hl:(l.length:Int)+K<900000) :
 ∃m:List Int,(∀s k d c,mvE (aC Tryz.prog) F rest s k d c (some (.row 5 1 l.length (jX l)))=some { dst:=some d,val:=.own d c,dJ:=some (s,k,none),new:=some (d,[.row 5 1 m.length (jX m)])})∧(m.length:Int)≤l.length+K:=by
 obtain⟨m,h1,h2⟩:=h l hl
 exact⟨m,fun s k d c=>LI (vD l) hr h1,h2⟩
theorem WrN.at {F:Nat} {rest:List AV} {K:Int} (h:WrN F rest K) (hr:∀x∈rest,Flat x) :
 ∃m:List Int,(∀(st:St) (d:Nat),lH (aC Tryz.prog) F (.v (.slice none 0 0) :: rest) st (some d)=some { dst:=some d,val:=.own d (st.aQ d),new:=some (d,[.row 5 1 m.length (jX m)])})∧(m.length:Int)≤K:=by
 obtain⟨m,h1,h2⟩:=h
 exact⟨m,fun st d=>SN hr h1,h2⟩
def tb:Nat→Int
 | 0=>18446744073709551616
 | k+1=>tb k / 128+1
theorem tb9:tb 9=3:=by decide
theorem XH (x:Int):x.fdiv (2 ^ min 7 IntKind.u64.bits)=x / 128:=by
 show x.fdiv 128=x / 128
 exact Int.fdiv_eq_ediv_of_nonneg x (by decide)
theorem aBm (l:List Int):jX l=l.map fun x=>.v (.int .u8 x):=by
 induction l with
 | nil=>rfl
 | cons a l ih=>simp only[jX,List.flatMap_cons,List.map_cons,cU8] at *;rw[ih];rfl
theorem LJ (r:cM):aZ r=jX r.toList:=by rw[aBm];rfl
theorem Ui {P:Program} {T:Nat} {k:IntKind} {a b:Int}:fS P .or T (.v (.int k a)) (.v (.int k b))=some (.v (.int k (k.wrap (BitVec.ofInt k.bits a ||| BitVec.ofInt k.bits b).toNat))):=by simp[fS]
theorem aKf:dL Tryz.prog 27=none:=by kernel_rfl
theorem aKg (r:cM) (st:St) (s g o:Nat) (h:st.heap s g=some (.cells (aZ r))):cW Tryz.prog st 27 (.ptr s g o) none none=some (.vw s g o 32):=by
 simp only[cW,aKf,aEY,h]
theorem K8 (st:St) (s g:Nat) (r:cM) (h:st.heap s g=some (.cells (aZ r))):aR st (.vw s g 0 32)=some (r.toList.length,jX r.toList):=by
 have hl:(aZ r).length=32:=aO r
 simp only[aR,h,Nat.zero_add,List.drop_zero];rw[if_pos (by omega),List.take_of_length_le (by omega),LJ]
 simp
theorem We (n:Int) (hn:Rg n):Wr 215 [.v (.int .u64 n)] 10:=by
 intro l hl;suffices h:∃r,aC Tryz.prog 215 [.uniq 5 1 l.length (jX l),.v (.int .u64 n)]=some r∧∃m:List Int,r=.uniq 5 1 m.length (jX m)∧(m.length:Int)≤l.length+10 by
  obtain⟨r,h,m,rfl,h2⟩:=h;exact⟨m,h,h2⟩
 rw[Ik Tryz.prog Tryz.func215 rfl aDY _ _ _ _ _ (rV _ _)];simp only[Z8,seval,iX,mD,iY,kH,mE];refine cH (fun m st=>∃(x:Int) (k:Nat) (l':List Int) (a g:Nat),(st.env 0=.own a g∧st.heap a g=some (.row 5 1 l'.length (jX l'))∧st.env 1=.v (.int .u64 x))∧((a=0∧g=0)∨(a=13∧g<st.aQ 13))∧l'.length=l.length+k∧0≤x∧x<tb k∧k≤9∧m=x.toNat)
  (fun e st=>e=.exit 0∧∃(x:Int) (l':List Int) (a g:Nat),(st.env 0=.own a g∧st.heap a g=some (.row 5 1 l'.length (jX l'))∧st.env 1=.v (.int .u64 x))∧a≠19∧(l'.length:Int)≤l.length+9) n.toNat ?step ?start ?rest
 case step =>
  rintro m st ⟨x,k,l',a,g,hI,FG,Fz,x0,hx,hk,hm⟩
  by_cases bB:127<x
  ·have hk8:k≤8:=by
    rcases Nat.lt_or_ge k 9 with h|h
    ·omega
    ·have:k=9:=by omega
     subst this;rw[tb9] at hx;omega
   have Pm:(l'.length:Int)<1000000:=by omega
   have Il:x / 128<tb (k+1):=by show x / 128<tb k / 128+1;omega
   have ll:∀b:Int,(l'++[b]).length=l.length+(k+1):=fun b=>by rw[List.length_append,List.length_cons,List.length_nil];omega
   rcases FG with ⟨rfl,rfl⟩|⟨rfl,hg⟩
   ·apply oN ((x / 128).toNat)
    ·simp only[Z8,seval,hI,bB,Ui,Ks _ _ _ _ Pm,XH];rfl
    ·exact⟨x / 128,k+1,_,13,_,by and_intros<;>(simp only[E8,seval]<;>rfl),.inr ⟨rfl,by simp only[E8,seval]<;>omega⟩,ll _,by omega,Il,by omega,rfl⟩
   ·have vC:(g=st.aQ 13)=False:=eq_false (by omega)
    apply oN ((x / 128).toNat)
    ·simp only[Z8,seval,hI,bB,vC,Ui,Ks _ _ _ _ Pm,XH];rfl
    ·exact⟨x / 128,k+1,_,13,_,by and_intros<;>(simp only[E8,seval]<;>rfl),.inr ⟨rfl,by simp only[E8,seval]<;>omega⟩,ll _,by omega,Il,by omega,rfl⟩
  ·apply oT (.exit 0)
   ·simp only[Z8,seval,hI,bB];rfl
   ·exact⟨rfl,x,l',a,g,by simp only[E8,seval,hI],by omega,by omega⟩
 case start=>exact⟨n,0,l,0,0,by simp only[E8,seval,iX,mD,iY,kH,mE]<;>rfl,.inl ⟨rfl,rfl⟩,rfl,hn.1,hn.2,by omega,rfl⟩
 case rest =>
  rintro e st ⟨rfl,x,l',a,g,hI,ha,Fz⟩
  have ha':(a=19)=False:=eq_false ha
  have Pm:(l'.length:Int)<1000000:=by omega
  simp only[Z8,seval,hI,ha',Ks _ _ _ _ Pm];exact⟨_,yV (.inl rfl) rfl (by simp only[E8,seval]<;>rfl) (by simp only[E8,seval]<;>rfl) (yW _),_,rfl,by rw[List.length_append,List.length_cons,List.length_nil];omega⟩
theorem o0 (n:Int) (hn:Rg n):WrN 215 [.v (.int .u64 n)] 10:=by
 suffices h:∃r,aC Tryz.prog 215 [.v (.slice none 0 0),.v (.int .u64 n)]=some r∧∃m:List Int,r=.uniq 5 1 m.length (jX m)∧(m.length:Int)≤10 by
  obtain⟨r,h,m,rfl,h2⟩:=h;exact⟨m,h,h2⟩
 rw[cL Tryz.func215 rfl aDY rfl];simp only[Z8,seval];refine cH (fun m st=>∃(x:Int) (k:Nat),st.env 1=.v (.int .u64 x)∧((k=0∧st.env 0=.v (.slice none 0 0))∨∃(l':List Int) (g:Nat),(st.env 0=.own 13 g∧st.heap 13 g=some (.row 5 1 l'.length (jX l')))∧g<st.aQ 13∧l'.length=k)∧0≤x∧x<tb k∧k≤9∧m=x.toNat)
  (fun e st=>e=.exit 0∧∃(x:Int),st.env 1=.v (.int .u64 x)∧(st.env 0=.v (.slice none 0 0)∨∃(l':List Int) (g:Nat),(st.env 0=.own 13 g∧st.heap 13 g=some (.row 5 1 l'.length (jX l')))∧(l'.length:Int)≤9)) n.toNat ?step ?start ?rest
 case step =>
  rintro m st ⟨x,k,hI,h0,x0,hx,hk,hm⟩
  by_cases bB:127<x
  ·have hk8:k≤8:=by
    rcases Nat.lt_or_ge k 9 with h|h
    ·omega
    ·have:k=9:=by omega
     subst this;rw[tb9] at hx;omega
   have Il:x / 128<tb (k+1):=by show x / 128<tb k / 128+1;omega
   rcases h0 with ⟨tP,h0⟩|⟨l',g,h0,hg,Fz⟩
   ·have ll:∀b:Int,([b]:List Int).length=k+1:=fun b=>by rw[List.length_cons,List.length_nil];omega
    apply oN ((x / 128).toNat)
    ·simp only[Z8,seval,hI,h0,bB,Ui,SO,XH];rfl
    ·exact⟨x / 128,k+1,by simp only[E8,seval],.inr ⟨_,_,⟨by simp only[E8,seval]<;>rfl,by simp only[E8,seval]<;>rfl⟩,by simp only[E8,seval]<;>omega,ll _⟩,by omega,Il,by omega,rfl⟩
   ·have Pm:(l'.length:Int)<1000000:=by omega
    have ll:∀b:Int,(l'++[b]).length=k+1:=fun b=>by rw[List.length_append,List.length_cons,List.length_nil];omega
    have vC:(g=st.aQ 13)=False:=eq_false (by omega)
    apply oN ((x / 128).toNat)
    ·simp only[Z8,seval,hI,h0,bB,vC,Ui,Ks _ _ _ _ Pm,XH];rfl
    ·exact⟨x / 128,k+1,by simp only[E8,seval],.inr ⟨_,_,⟨by simp only[E8,seval]<;>rfl,by simp only[E8,seval]<;>rfl⟩,by simp only[E8,seval]<;>omega,ll _⟩,by omega,Il,by omega,rfl⟩
  ·have h0':st.env 0=.v (.slice none 0 0)∨∃(l':List Int) (g:Nat),(st.env 0=.own 13 g∧st.heap 13 g=some (.row 5 1 l'.length (jX l')))∧(l'.length:Int)≤9:=by
    rcases h0 with ⟨_,h0⟩|⟨l',g,h0,hg,Fz⟩
    ·exact .inl h0
    ·exact .inr ⟨l',g,h0,by omega⟩
   apply oT (.exit 0)
   ·simp only[Z8,seval,hI,bB];rfl
   ·exact⟨rfl,x,by simp only[E8,seval,hI],by simpa only[E8,seval] using h0'⟩
 case start=>exact⟨n,0,by simp only[E8,seval]<;>rfl,.inl ⟨rfl,by simp only[E8,seval]<;>rfl⟩,hn.1,hn.2,by omega,rfl⟩
 case rest =>
  rintro e st ⟨rfl,x,hI,h0⟩
  rcases h0 with h0|⟨l',g,h0,Fz⟩
  ·simp only[Z8,seval,hI,h0,SO];exact⟨_,Wf (n:=([IntKind.u8.wrap x]:List Int).length) (cs:=jX [IntKind.u8.wrap x]) (aE (by decide)) (.inl rfl) rfl (by simp only[E8,seval]<;>rfl) (by simp only[E8,seval]<;>rfl) (vD _),_,rfl,by rw[List.length_cons,List.length_nil];omega⟩
  ·have Pm:(l'.length:Int)<1000000:=by omega
   simp only[Z8,seval,hI,h0,Ks _ _ _ _ Pm];exact⟨_,sF rfl (by simp only[E8,seval]<;>rfl) (by simp only[E8,seval]<;>rfl) (vD _),_,rfl,by rw[List.length_append,List.length_cons,List.length_nil];omega⟩
theorem FH (r:cM):Wr 226 [.agg (aZ r)] 32:=by
 intro l hl;suffices h:∃x,aC Tryz.prog 226 [.uniq 5 1 l.length (jX l),.agg (aZ r)]=some x∧∃m:List Int,x=.uniq 5 1 m.length (jX m)∧(m.length:Int)≤l.length+32 by
  obtain⟨r,h,m,rfl,h2⟩:=h;exact⟨m,h,h2⟩
 have Pm:(l.length:Int)<1000000:=by omega
 have hc:aZ r=jX r.toList:=LJ r
 have hr:(r.toList.length:Int)<1000000:=by simp
 rw[Ik Tryz.prog Tryz.func226 rfl aKh _ _ _ _ _ (rV _ _)];simp only[Z8,seval,iX,mD,iY,kH,mE,aKg r,K8 _ _ _ r,SP _ _ _ _ Pm hr];exact⟨_,yV (.inl rfl) rfl (by simp only[E8,seval]<;>rfl) (by simp only[E8,seval]<;>rfl) (yW _),_,rfl,by rw[List.length_append];simp⟩
theorem K9 (c:fR) (h:Rg c.aL):Wr 228 [.agg (bY c)] 42:=by
 intro l hl;suffices h:∃r,aC Tryz.prog 228 [.uniq 5 1 l.length (jX l),.agg (bY c)]=some r∧∃m:List Int,r=.uniq 5 1 m.length (jX m)∧(m.length:Int)≤l.length+42 by
  obtain⟨r,h,m,rfl,h2⟩:=h;exact⟨m,h,h2⟩
 obtain⟨m1,e1,b1⟩:=(We c.aL h).at (cO (.v _)) (l:=l) (by omega)
 obtain⟨m2,e2,b2⟩:=(FH c.root).at (cO (rH _)) (l:=m1) (by omega)
 rw[XG Tryz.prog Tryz.func228 rfl aKi (by kernel_rfl) _ _ _ _ _ (rV _ _)]
 simp only[ZG,seval,Bool.false_and,Prod.mk.injEq,aKj,iX,mD,iY,kH,mE,e1,e2];exact⟨_,yV (.inl rfl) rfl (by simp only[E8,seval]<;>rfl) (by simp only[E8,seval]<;>rfl) (yW _),_,rfl,by omega⟩
end Go.Ab.Tryz
end
namespace Go.Ab.Tryz
open Classical Go.Proofs Go.Ab
theorem aKk (o p:Option (List Int)) (hn:((ol o).length:Int)<1000000):∃r,aC Tryz.prog 105 [ov aK o,ov aK p]=some r∧∃b:Bool,r=.v (.bool b):=by
 rw[cL Tryz.func105 rfl aDZ (by cases o<;>cases p<;>rfl)]
 by_cases g:((ol o).length:Int)=((ol p).length:Int)
 case neg =>
  simp only[Z8,seval,bf g];exact⟨_,bT rfl (by simp only[E8,seval]<;>rfl) (by first|exact .v _|simp only[dY]),_,rfl⟩
 simp only[Z8,seval,bt g];refine cH (fun m st=>∃k:Nat,(st.env 0=ov aK o∧st.env 1=ov aK p∧st.env 5=.v (.int .i64 k))∧k≤(ol o).length∧m=(ol o).length-k)
  (fun e st=>(e=.ret∧st.env 4=.v (.bool false))∨e=.exit 0) (ol o).length ?step ?start ?rest
 case step =>
  rintro m st ⟨k,hI,hk,hm⟩
  by_cases bB:(k:Int)<(ol o).length
  ·have q0:(0:Int)≤k:=by omega
   have q1:(k:Int)<((ol p).length:Int):=by omega
   have hw:IntKind.i64.wrap ((k:Int)+1)=((k+1:Nat):Int):=by rw[qA _ (by omega) (by omega)];omega
   by_cases hh:gx (0:Int) (ol o) (k:Int)=gx (0:Int) (ol p) (k:Int)
   ·apply oN ((ol o).length-(k+1))
    ·simp only[Z8,seval,hI,bB,q0,q1,bt hh,hw];rfl
    ·exact⟨k+1,by simp only[E8,seval,hI],by omega,rfl⟩
   ·apply oT (.ret)
    ·simp only[Z8,seval,hI,bB,q0,q1,bf hh];rfl
    ·exact .inl ⟨rfl,by simp only[E8,seval]⟩
  ·apply oT (.exit 0)
   ·simp only[Z8,seval,hI,bB];rfl
   ·exact .inr rfl
 case start=>exact⟨0,by simp only[E8,seval]<;>rfl,by omega,by omega⟩
 case rest =>
  rintro e st (⟨rfl,h⟩|rfl)
  ·simp only[Z8,seval,h];exact⟨_,bT rfl (by simp only[E8,seval,h]<;>rfl) (by first|exact .v _|simp only[dY,h]),_,rfl⟩
  ·simp only[Z8,seval];exact⟨_,bT rfl (by simp only[E8,seval]<;>rfl) (by first|exact .v _|simp only[dY]),_,rfl⟩
theorem aOP (o p:Option (List Int)) (hn:((ol o).length:Int)<1000000):∃r,aC Tryz.prog 103 [ov bC o,ov bC p]=some r∧∃b:Bool,r=.v (.bool b):=by
 rw[cL Tryz.func103 rfl aD0 (by cases o<;>cases p<;>rfl)]
 by_cases g:((ol o).length:Int)=((ol p).length:Int)
 case neg =>
  simp only[Z8,seval,bf g];exact⟨_,bT rfl (by simp only[E8,seval]<;>rfl) (by first|exact .v _|simp only[dY]),_,rfl⟩
 simp only[Z8,seval,bt g];refine cH (fun m st=>∃k:Nat,(st.env 0=ov bC o∧st.env 1=ov bC p∧st.env 5=.v (.int .i64 k))∧k≤(ol o).length∧m=(ol o).length-k)
  (fun e st=>(e=.ret∧st.env 4=.v (.bool false))∨e=.exit 0) (ol o).length ?step ?start ?rest
 case step =>
  rintro m st ⟨k,hI,hk,hm⟩
  by_cases bB:(k:Int)<(ol o).length
  ·have q0:(0:Int)≤k:=by omega
   have q1:(k:Int)<((ol p).length:Int):=by omega
   have hw:IntKind.i64.wrap ((k:Int)+1)=((k+1:Nat):Int):=by rw[qA _ (by omega) (by omega)];omega
   by_cases hh:gx (0:Int) (ol o) (k:Int)=gx (0:Int) (ol p) (k:Int)
   ·apply oN ((ol o).length-(k+1))
    ·simp only[Z8,seval,hI,bB,q0,q1,bt hh,hw];rfl
    ·exact⟨k+1,by simp only[E8,seval,hI],by omega,rfl⟩
   ·apply oT (.ret)
    ·simp only[Z8,seval,hI,bB,q0,q1,bf hh];rfl
    ·exact .inl ⟨rfl,by simp only[E8,seval]⟩
  ·apply oT (.exit 0)
   ·simp only[Z8,seval,hI,bB];rfl
   ·exact .inr rfl
 case start=>exact⟨0,by simp only[E8,seval]<;>rfl,by omega,by omega⟩
 case rest =>
  rintro e st (⟨rfl,h⟩|rfl)
  ·simp only[Z8,seval,h];exact⟨_,bT rfl (by simp only[E8,seval,h]<;>rfl) (by first|exact .v _|simp only[dY,h]),_,rfl⟩
  ·simp only[Z8,seval];exact⟨_,bT rfl (by simp only[E8,seval]<;>rfl) (by first|exact .v _|simp only[dY]),_,rfl⟩
theorem aOQ (a b:rQ) (ha:Cj a) (hb:Cj b):∃r,aC Tryz.prog 108 [.agg (gV a),.agg (gV b)]=some r∧∃b:Bool,r=.v (.bool b):=by
 obtain⟨V,hV,nV⟩:=ha
 obtain⟨W,hW,nW⟩:=hb
 obtain⟨r1,e1,B,rfl⟩:=aKk V W nV
 have L1:=kx e1 (bE (bO V) (bO W)) (.v _)
 rw[cL Tryz.func108 rfl aD1 rfl];by_cases g1:a.slot=b.slot
 case neg =>
  simp only[Z8,seval,hV,hW,bf g1];exact⟨_,bT rfl (by simp only[E8,seval]<;>rfl) (by first|exact .v _|simp only[dY]),_,rfl⟩
 by_cases g2:a.root=b.root
 case neg =>
  simp only[Z8,seval,hV,hW,bt g1,g2];exact⟨_,bT rfl (by simp only[E8,seval]<;>rfl) (by first|exact .v _|simp only[dY]),_,rfl⟩
 by_cases g3:a.target=b.target
 case neg =>
  simp only[Z8,seval,hV,hW,bt g1,g2,g3];exact⟨_,bT rfl (by simp only[E8,seval]<;>rfl) (by first|exact .v _|simp only[dY]),_,rfl⟩
 simp only[Z8,seval,hV,hW,bt g1,g2,g3,L1];exact⟨_,bT rfl (by simp only[E8,seval]<;>rfl) (by first|exact .v _|simp only[dY]),_,rfl⟩
theorem aOR (a b:Table) (ha:rT a) (hb:rT b):∃r,aC Tryz.prog 159 [.agg (cA a),.agg (cA b)]=some r∧∃b:Bool,r=.v (.bool b):=by
 obtain⟨V,hV,nV⟩:=ha
 obtain⟨W,hW,nW⟩:=hb
 obtain⟨r1,e1,B,rfl⟩:=aOP V W nV
 have L3:=kx e1 (bE (dR V) (dR W)) (.v _)
 rw[cL Tryz.func159 rfl aD2 rfl];by_cases g1:a.ck=b.ck
 case neg =>
  simp only[Z8,seval,hV,hW,g1];exact⟨_,bT rfl (by simp only[E8,seval]<;>rfl) (by first|exact .v _|simp only[dY]),_,rfl⟩
 simp only[Z8,seval,hV,hW,g1,L3];exact⟨_,bT rfl (by simp only[E8,seval]<;>rfl) (by first|exact .v _|simp only[dY]),_,rfl⟩
def wB (a:Claim):Prop:=∃V:Option (List Int),a.eU=ov aK V∧((ol V).length:Int)≤1000
theorem wB.fl {a:Claim} (h:wB a):Flat (.agg (gO a)):=by obtain⟨V,h,_⟩:=h;exact (yO a).2 (by rw[h];exact bO V)
theorem aKl (a b:Claim) (ha:wB a) (hb:wB b):∃r,aC Tryz.prog 232 [.agg (gO a),.agg (gO b)]=some r∧∃b:Bool,r=.v (.bool b):=by
 obtain⟨V,hV,nV⟩:=ha
 obtain⟨W,hW,nW⟩:=hb
 obtain⟨r1,e1,B,rfl⟩:=aKk V W (by omega)
 have L1:=kx e1 (bE (bO V) (bO W)) (.v _)
 rw[cL Tryz.func232 rfl aKm rfl];by_cases g1:a.source=b.source
 case neg =>
  simp only[Z8,seval,hV,hW,bf g1];exact⟨_,bT rfl (by simp only[E8,seval]<;>rfl) (by first|exact .v _|simp only[dY]),_,rfl⟩
 by_cases g2:a.target=b.target
 case neg =>
  simp only[Z8,seval,hV,hW,bt g1,bf g2];exact⟨_,bT rfl (by simp only[E8,seval]<;>rfl) (by first|exact .v _|simp only[dY]),_,rfl⟩
 by_cases g3:a.root=b.root
 case neg =>
  simp only[Z8,seval,hV,hW,bt g1,bt g2,g3];exact⟨_,bT rfl (by simp only[E8,seval]<;>rfl) (by first|exact .v _|simp only[dY]),_,rfl⟩
 simp only[Z8,seval,hV,hW,bt g1,bt g2,g3,L1];exact⟨_,bT rfl (by simp only[E8,seval]<;>rfl) (by first|exact .v _|simp only[dY]),_,rfl⟩
theorem aOS (a b:fW) (h1:wB a.first) (h2:wB a.second) (h3:wB b.first) (h4:wB b.second):∃r,aC Tryz.prog 216 [.agg (bV a),.agg (bV b)]=some r∧∃b:Bool,r=.v (.bool b):=by
 obtain⟨r1,e1,B1,rfl⟩:=aKl a.first b.first h1 h3
 obtain⟨r2,e2,B2,rfl⟩:=aKl a.second b.second h2 h4
 have k1:=kx e1 (bE h1.fl h3.fl) (.v _)
 have k2:=kx e2 (bE h2.fl h4.fl) (.v _)
 rw[cL Tryz.func216 rfl aKn rfl];cases B1
 ·simp only[Z8,seval,k1];exact⟨_,bT rfl (by simp only[E8,seval]<;>rfl) (by first|exact .v _|simp only[dY]),_,rfl⟩
 ·simp only[Z8,seval,k1,k2];exact⟨_,bT rfl (by simp only[E8,seval]<;>rfl) (by first|exact .v _|simp only[dY]),_,rfl⟩
structure pA (x:wM):Prop where
 Fq:∃V:Option (List Int),x.Fq.eU=ov aK V∧((ol V).length:Int)≤1000
 c1:wB x.oM.first
 c2:wB x.oM.second
 SQ:∃b:Option (List Int),x.table.jI=ov bC b∧((ol b).length:Int)≤1000∧∀y∈ol b,Rg y
 rb:RB x.block
 ra:Rg x.Fq.slot∧Rg x.Fq.target.aL
 rs:Rg x.oM.first.source∧Rg x.oM.first.target∧Rg x.oM.second.source∧Rg x.oM.second.target
 rt:Rg x.table.ck.aL
 rv:Rg x.verdict.tagged.tag
theorem pA.aD3 {x:wM} (h:pA x):Cj x.Fq:=by obtain⟨V,h1,h2⟩:=h.Fq;exact⟨V,h1,by omega⟩
theorem pA.L4 {x:wM} (h:pA x):rT x.table:=by obtain⟨V,h1,h2,_⟩:=h.SQ;exact⟨V,h1,by omega⟩
theorem pA.fl {x:wM} (h:pA x):Flat x.Fq.eU∧Flat x.oM.first.eU∧Flat x.oM.second.eU∧Flat x.table.jI:=by
 obtain⟨V,h1,_⟩:=h.Fq;obtain⟨V2,h2,_⟩:=h.c1;obtain⟨V3,h3,_⟩:=h.c2;obtain⟨V4,h4,_⟩:=h.SQ
 rw[h1,h2,h3,h4];exact⟨bO _,bO _,bO _,dR _⟩
theorem pA.flat {x:wM} (h:pA x):Flat (.agg (kX x)):=(RR x).2 h.fl
theorem SR (a b:wM) (ha:pA a) (hb:pA b):∃r,aC Tryz.prog 201 [.agg (kX a),.agg (kX b)]=some r∧∃b:Bool,r=.v (.bool b):=by
 have fa:=ha.fl
 have fb:=hb.fl
 obtain⟨r1,e1,B1,rfl⟩:=aOQ a.Fq b.Fq ha.aD3 hb.aD3
 obtain⟨r2,e2,B2,rfl⟩:=aOS a.oM b.oM ha.c1 ha.c2 hb.c1 hb.c2
 obtain⟨r3,e3,B3,rfl⟩:=aOR a.table b.table ha.L4 hb.L4
 have k1:=kx e1 (bE ((yN _).2 fa.1) ((yN _).2 fb.1)) (.v _)
 have k2:=kx e2 (bE ((mW _).2 ⟨fa.2.1,fa.2.2.1⟩) ((mW _).2 ⟨fb.2.1,fb.2.2.1⟩)) (.v _)
 have k3:=kx e3 (bE ((jZ _).2 fa.2.2.2) ((jZ _).2 fb.2.2.2)) (.v _)
 rw[cL Tryz.func201 rfl aKo rfl];by_cases g1:a.kind=b.kind
 case neg =>
  simp only[Z8,seval,gW,gX,bf g1];exact⟨_,bT rfl (by simp only[E8,seval]<;>rfl) (by first|exact .v _|simp only[dY]),_,rfl⟩
 by_cases g2:a.block=b.block
 case neg =>
  simp only[Z8,seval,gW,gX,bt g1,g2];exact⟨_,bT rfl (by simp only[E8,seval]<;>rfl) (by first|exact .v _|simp only[dY]),_,rfl⟩
 cases B1
 ·simp only[Z8,seval,gW,gX,bt g1,g2,k1];exact⟨_,bT rfl (by simp only[E8,seval]<;>rfl) (by first|exact .v _|simp only[dY]),_,rfl⟩
 cases B2
 ·simp only[Z8,seval,gW,gX,bt g1,g2,k1,k2];exact⟨_,bT rfl (by simp only[E8,seval]<;>rfl) (by first|exact .v _|simp only[dY]),_,rfl⟩
 cases B3
 ·simp only[Z8,seval,gW,gX,bt g1,g2,k1,k2,k3];exact⟨_,bT rfl (by simp only[E8,seval]<;>rfl) (by first|exact .v _|simp only[dY]),_,rfl⟩
 by_cases g3:a.verdict=b.verdict
 case neg =>
  simp only[Z8,seval,gW,gX,bt g1,g2,k1,k2,k3,g3];exact⟨_,bT rfl (by simp only[E8,seval]<;>rfl) (by first|exact .v _|simp only[dY]),_,rfl⟩
 by_cases g4:a.write=b.write
 case neg =>
  simp only[Z8,seval,gW,gX,bt g1,g2,k1,k2,k3,g3,bf g4];exact⟨_,bT rfl (by simp only[E8,seval]<;>rfl) (by first|exact .v _|simp only[dY]),_,rfl⟩
 simp only[Z8,seval,gW,gX,bt g1,g2,k1,k2,k3,g3,bt g4];exact⟨_,bT rfl (by simp only[E8,seval]<;>rfl) (by first|exact .v _|simp only[dY]),_,rfl⟩
theorem aBn (cs:List AV) (o:Nat) (h:32≤cs.length-o):fD Tryz.prog 26 cs o=some (.agg (rd cs o 32)):=by
 have e:fK Tryz.prog 26=some (true,32):=by kernel_rfl
 unfold fD;simp only[e];rw[if_pos ⟨by omega,h⟩]
theorem L5:sU Tryz.prog 26=some 32:=by kernel_rfl
theorem aKp:dZ Tryz.prog 26=some sW:=by kernel_rfl
theorem aKq:jF Tryz.prog 26=some (32,1):=by kernel_rfl
theorem aKr:dL Tryz.prog 26=none:=by kernel_rfl
theorem aKs (r:cM) (st:St) (s g o:Nat) (h:st.heap s g=some (.cells (aZ r))):cW Tryz.prog st 26 (.ptr s g o) none none=some (.vw s g o 32):=by
 simp only[cW,aKr,aKq,h]
theorem aFh (st:St) (x:AV) {k:IntKind} {i:Int} (h0:0≤i) (h1:i<32):bD Tryz.prog st 26 x (.v (.int k i))=uR x (i.toNat * 1):=EO aKq st x h0 h1
theorem wT (x:Int):(IntKind.u64.wrap x<0)=False:=by
 refine eq_false ?_
 unfold IntKind.wrap;simp[IntKind.signed,IntKind.bits]
 omega
theorem aOT (w:qX):∃r:cM,aC Tryz.prog 246 [.agg (gF w)]=some (.agg (aZ r)):=by
 suffices h:∃x,aC Tryz.prog 246 [.agg (gF w)]=some x∧∃r:cM,x=.agg (aZ r) by
  obtain⟨x,h,r,rfl⟩:=h;exact⟨r,h⟩
 rw[cL Tryz.func246 rfl aKt rfl];simp only[Z8,seval,aKp];refine cH (fun m st=>∃(k:Nat) (r:cM),(st.env 1=.ptr 1 0 0∧st.heap 1 0=some (.cells (gF w))∧st.env 3=.ptr 3 0 0∧st.heap 3 0=some (.cells (aZ r))∧st.env 2=.ptr 2 0 0∧st.heap 2 0=some (.cells (aZ dK))∧st.env 4=.v (.int .i64 k))∧k≤32∧m=32-k)
  (fun e st=>e=.exit 0∧∃r:cM,st.env 3=.ptr 3 0 0∧st.heap 3 0=some (.cells (aZ r))∧st.env 2=.ptr 2 0 0∧st.heap 2 0=some (.cells (aZ dK))) 32 ?step ?start ?rest
 case step =>
  rintro m st ⟨k,r,hI,hk,hm⟩
  by_cases bB:(k:Int)<32
  ·have q0:(0:Int)≤k:=by omega
   have hw:IntKind.i64.wrap ((k:Int)+1)=((k+1:Nat):Int):=by rw[qA _ (by omega) (by omega)];omega
   obtain⟨i,hi⟩:∃i:Int,i=31-(k:Int):=⟨_,rfl⟩
   have hi1:IntKind.i64.wrap (31-(k:Int))=i:=by rw[qA _ (by omega) (by omega),hi]
   have i0:0≤i:=by omega
   have i1:i<32:=by omega
   have hj:IntKind.i64.wrap ((k:Int).tdiv 8)=(k:Int) / 8:=by rw[Int.tdiv_eq_ediv_of_nonneg q0,qA _ (by omega) (by omega)]
   have j0:0≤(k:Int) / 8:=by omega
   have j1:(k:Int) / 8<4:=by omega
   have i31:i.toNat≤31:=by omega
   have gw:=Pv w j0 j1
   have Vf:=fun x=>Va r i.toNat (i.toNat+1) x (by omega) rfl
   apply oN (32-(k+1))
   ·simp only[Z8,seval,hI,bB,q0,hi1,i0,i1,hj,j0,j1,Gn,aFh,gw,i31,Vf,wT,Nat.mul_one,hw];rfl
   ·exact⟨k+1,_,by simp only[E8,seval,hI]<;>rfl,by omega,rfl⟩
  ·apply oT (.exit 0)
   ·simp only[Z8,seval,hI,bB];rfl
   ·exact⟨rfl,r,by simp only[E8,seval,hI]⟩
 case start=>exact⟨0,dK,by simp only[E8,seval]<;>rfl,by omega,by omega⟩
 case rest =>
  rintro e st ⟨rfl,r,hI⟩
  simp only[Z8,seval,hI,aBn,L5];exact⟨_,fF rfl (by simp only[E8,seval,hI,aBn,L5]<;>rfl) (by simp only[Z8,seval,hI,aBn,L5]<;>rfl) (by simp only[dY,and_self,hI,aBn,L5]),r,rfl⟩
theorem aOU (w:qX):∃r:cM,∀(st:St) (d:Option Nat),aN (aC Tryz.prog) 246 [.agg (gF w)] st d=some { dst:=d,val:=.agg (aZ r)}:=by
 obtain⟨r,h⟩:=aOT w
 exact⟨r,kx h (cO (.agg _ (iJ w))) (rH r)⟩
theorem aKu (x:qX):Wr 227 [.agg (gF x)] 32:=by
 intro l hl;suffices h:∃r,aC Tryz.prog 227 [.uniq 5 1 l.length (jX l),.agg (gF x)]=some r∧∃m:List Int,r=.uniq 5 1 m.length (jX m)∧(m.length:Int)≤l.length+32 by
  obtain⟨r,h,m,rfl,h2⟩:=h;exact⟨m,h,h2⟩
 have Pm:(l.length:Int)<1000000:=by omega
 obtain⟨r,kr⟩:=aOU x
 have hr:(r.toList.length:Int)<1000000:=by simp
 rw[Ik Tryz.prog Tryz.func227 rfl aKv _ _ _ _ _ (rV _ _)];simp only[Z8,seval,iX,mD,iY,kH,mE,kr,aKp,L5,aKs r,K8 _ _ _ r,SP _ _ _ _ Pm hr];exact⟨_,yV (.inl rfl) rfl (by simp only[E8,seval]<;>rfl) (by simp only[E8,seval]<;>rfl) (yW _),_,rfl,by rw[List.length_append];simp⟩
theorem aOV (b:Bool):Wr 229 [.v (.bool b)] 1:=by
 intro l hl;suffices h:∃r,aC Tryz.prog 229 [.uniq 5 1 l.length (jX l),.v (.bool b)]=some r∧∃m:List Int,r=.uniq 5 1 m.length (jX m)∧(m.length:Int)≤l.length+1 by
  obtain⟨r,h,m,rfl,h2⟩:=h;exact⟨m,h,h2⟩
 have Pm:(l.length:Int)<1000000:=by omega
 rw[Ik Tryz.prog Tryz.func229 rfl aKw _ _ _ _ _ (rV _ _)];cases b
 all_goals
  simp only[Z8,seval,iX,mD,iY,kH,mE,Ks _ _ _ _ Pm];exact⟨_,yV (.inl rfl) rfl (by simp only[E8,seval]<;>rfl) (by simp only[E8,seval]<;>rfl) (yW _),_,rfl,by rw[List.length_append,List.length_cons,List.length_nil];omega⟩
theorem jT (x:Int):Rg (IntKind.u64.wrap x):=by
 unfold Rg IntKind.wrap;simp[IntKind.signed,IntKind.bits]
 omega
theorem aFi (V:Option (List Int)) (nV:((ol V).length:Int)≤1000):Wr 230 [ov aK V] 10010:=by
 intro l hl;suffices h:∃r,aC Tryz.prog 230 [.uniq 5 1 l.length (jX l),ov aK V]=some r∧∃m:List Int,r=.uniq 5 1 m.length (jX m)∧(m.length:Int)≤l.length+10010 by
  obtain⟨r,h,m,rfl,h2⟩:=h;exact⟨m,h,h2⟩
 obtain⟨m1,e1,b1⟩:=(We _ (jT ((ol V).length:Int))).at (cO (.v _)) (l:=l) (by omega)
 rw[Ik Tryz.prog Tryz.func230 rfl aKx _ _ _ _ _ (rV _ _)];simp only[Z8,seval,iX,mD,iY,kH,mE,e1];refine cH (fun m st=>∃(k:Nat) (p:List Int) (a g:Nat),(st.env 0=.own a g∧st.heap a g=some (.row 5 1 p.length (jX p))∧st.env 1=ov aK V∧st.env 5=.v (.int .i64 k))∧((a=10∧g<st.aQ 10)∨(a=24∧g<st.aQ 24)∨(a=38∧g<st.aQ 38))∧(p.length:Int)≤l.length+10+10 * k∧k≤(ol V).length∧m=(ol V).length-k)
  (fun e st=>e=.exit 0∧∃(p:List Int) (a g:Nat),(st.env 0=.own a g∧st.heap a g=some (.row 5 1 p.length (jX p)))∧(p.length:Int)≤l.length+10010) (ol V).length ?step ?start ?rest
 case step =>
  rintro m st ⟨k,p,a,g,hI,FG,hp,hk,hm⟩
  by_cases bB:(k:Int)<(ol V).length
  ·have q0:(0:Int)≤k:=by omega
   have hw:IntKind.i64.wrap ((k:Int)+1)=((k+1:Nat):Int):=by rw[qA _ (by omega) (by omega)];omega
   have fin:∀(p':List Int),(p'.length:Int)≤p.length+10→(p'.length:Int)≤l.length+10+10 * ((k+1:Nat):Int):=fun p' h=>by omega
   by_cases h1:(k:Int)=0
   ·have z0:(0:Int)<((ol V).length:Int):=by omega
    have z1:(0:Int)≤0:=by omega
    obtain⟨p',e2,b2⟩:=(We _ (jT (gx (0:Int) (ol V) (0:Int)))).at (cO (.v _)) (l:=p) (by omega)
    rcases FG with ⟨rfl,hg⟩|⟨rfl,hg⟩|⟨rfl,hg⟩
    ·apply oN ((ol V).length-(k+1))
     ·simp only[Z8,seval,hI,bB,q0,bt h1,z0,z1,e2,hw];rfl
     ·exact⟨k+1,p',_,_,⟨by simp only[E8,seval]<;>rfl,by simp only[E8,seval]<;>rfl,by simp only[E8,seval,hI],by simp only[E8,seval]⟩,.inr (.inl ⟨rfl,by simp only[E8,seval]<;>omega⟩),fin p' b2,by omega,rfl⟩
    ·have vC:(g=st.aQ 24)=False:=eq_false (by omega)
     apply oN ((ol V).length-(k+1))
     ·simp only[Z8,seval,hI,vC,bB,q0,bt h1,z0,z1,e2,hw];rfl
     ·exact⟨k+1,p',_,_,⟨by simp only[E8,seval]<;>rfl,by simp only[E8,seval]<;>rfl,by simp only[E8,seval,hI],by simp only[E8,seval]⟩,.inr (.inl ⟨rfl,by simp only[E8,seval]<;>omega⟩),fin p' b2,by omega,rfl⟩
    ·apply oN ((ol V).length-(k+1))
     ·simp only[Z8,seval,hI,bB,q0,bt h1,z0,z1,e2,hw];rfl
     ·exact⟨k+1,p',_,_,⟨by simp only[E8,seval]<;>rfl,by simp only[E8,seval]<;>rfl,by simp only[E8,seval,hI],by simp only[E8,seval]⟩,.inr (.inl ⟨rfl,by simp only[E8,seval]<;>omega⟩),fin p' b2,by omega,rfl⟩
   ·have I0:IntKind.i64.wrap ((k:Int)-1)=(k:Int)-1:=qA _ (by omega) (by omega)
    have y0:(0:Int)≤(k:Int)-1:=by omega
    have y1:(k:Int)-1<((ol V).length:Int):=by omega
    obtain⟨p',e2,b2⟩:=(We _ (jT (IntKind.i64.wrap (IntKind.i64.wrap (gx (0:Int) (ol V) (k:Int)-gx (0:Int) (ol V) ((k:Int)-1))-1)))).at (cO (.v _)) (l:=p) (by omega)
    rcases FG with ⟨rfl,hg⟩|⟨rfl,hg⟩|⟨rfl,hg⟩
    ·apply oN ((ol V).length-(k+1))
     ·simp only[Z8,seval,hI,bB,q0,bf h1,I0,y0,y1,e2,hw];rfl
     ·exact⟨k+1,p',_,_,⟨by simp only[E8,seval]<;>rfl,by simp only[E8,seval]<;>rfl,by simp only[E8,seval,hI],by simp only[E8,seval]⟩,.inr (.inr ⟨rfl,by simp only[E8,seval]<;>omega⟩),fin p' b2,by omega,rfl⟩
    ·apply oN ((ol V).length-(k+1))
     ·simp only[Z8,seval,hI,bB,q0,bf h1,I0,y0,y1,e2,hw];rfl
     ·exact⟨k+1,p',_,_,⟨by simp only[E8,seval]<;>rfl,by simp only[E8,seval]<;>rfl,by simp only[E8,seval,hI],by simp only[E8,seval]⟩,.inr (.inr ⟨rfl,by simp only[E8,seval]<;>omega⟩),fin p' b2,by omega,rfl⟩
    ·have vC:(g=st.aQ 38)=False:=eq_false (by omega)
     apply oN ((ol V).length-(k+1))
     ·simp only[Z8,seval,hI,vC,bB,q0,bf h1,I0,y0,y1,e2,hw];rfl
     ·exact⟨k+1,p',_,_,⟨by simp only[E8,seval]<;>rfl,by simp only[E8,seval]<;>rfl,by simp only[E8,seval,hI],by simp only[E8,seval]⟩,.inr (.inr ⟨rfl,by simp only[E8,seval]<;>omega⟩),fin p' b2,by omega,rfl⟩
  ·apply oT (.exit 0)
   ·simp only[Z8,seval,hI,bB];rfl
   ·exact⟨rfl,p,a,g,by simp only[E8,seval,hI],by omega⟩
 case start=>exact⟨0,m1,10,0,by and_intros<;>(simp only[E8,seval,iX,mD,iY,kH,mE]<;>rfl),.inl ⟨rfl,by simp only[E8,seval,iX,mD,iY,kH,mE]<;>omega⟩,by omega,by omega,by omega⟩
 case rest =>
  rintro e st ⟨rfl,p,a,g,hI,hp⟩
  simp only[Z8,seval,hI];exact⟨_,yV (.inl rfl) rfl (by simp only[E8,seval]<;>rfl) (by simp only[E8,seval,hI]<;>rfl) (yW _),_,rfl,hp⟩
theorem aOW (c:Claim) (V:Option (List Int)) (hV:c.eU=ov aK V) (nV:((ol V).length:Int)≤1000) (h1:Rg c.source) (h2:Rg c.target):Wr 231 [.agg (gO c)] 10100:=by
 intro l hl;suffices h:∃r,aC Tryz.prog 231 [.uniq 5 1 l.length (jX l),.agg (gO c)]=some r∧∃m:List Int,r=.uniq 5 1 m.length (jX m)∧(m.length:Int)≤l.length+10100 by
  obtain⟨r,h,m,rfl,h2⟩:=h;exact⟨m,h,h2⟩
 obtain⟨m1,e1,b1⟩:=(We c.source h1).at (cO (.v _)) (l:=l) (by omega)
 obtain⟨m2,e2,b2⟩:=(We c.target h2).at (cO (.v _)) (l:=m1) (by omega)
 obtain⟨m3,e3,b3⟩:=(FH c.root).at (cO (rH _)) (l:=m2) (by omega)
 obtain⟨m4,e4,b4⟩:=(aFi V nV).at (cO (bO V)) (l:=m3) (by omega)
 rw[XG Tryz.prog Tryz.func231 rfl aD4 (by kernel_rfl) _ _ _ _ _ (rV _ _)]
 simp only[ZG,seval,Bool.false_and,Prod.mk.injEq,aD5,iX,mD,iY,kH,mE,e1,e2,e3,e4,hV,Am,An,Fb,Fc];exact⟨_,yV (.inl rfl) rfl (by simp only[E8,seval]<;>rfl) (by simp only[E8,seval]<;>rfl) (yW _),_,rfl,by omega⟩
theorem aOX (c:Claim) (V:Option (List Int)) (hV:c.eU=ov aK V) (nV:((ol V).length:Int)≤1000) (h1:Rg c.source) (h2:Rg c.target):WrN 231 [.agg (gO c)] 10100:=by
 suffices h:∃r,aC Tryz.prog 231 [.v (.slice none 0 0),.agg (gO c)]=some r∧∃m:List Int,r=.uniq 5 1 m.length (jX m)∧(m.length:Int)≤10100 by
  obtain⟨r,h,m,rfl,h2⟩:=h;exact⟨m,h,h2⟩
 obtain⟨m1,e1,b1⟩:=(o0 c.source h1).at (cO (.v _))
 obtain⟨m2,e2,b2⟩:=(We c.target h2).at (cO (.v _)) (l:=m1) (by omega)
 obtain⟨m3,e3,b3⟩:=(FH c.root).at (cO (rH _)) (l:=m2) (by omega)
 obtain⟨m4,e4,b4⟩:=(aFi V nV).at (cO (bO V)) (l:=m3) (by omega)
 rw[cG Tryz.func231 rfl aD4 (by kernel_rfl) rfl]
 simp only[ZG,seval,Bool.false_and,Prod.mk.injEq,aD5,e1,e2,e3,e4,hV,Am,An,Fb,Fc];exact⟨_,sF rfl (by simp only[E8,seval]<;>rfl) (by simp only[E8,seval]<;>rfl) (vD _),_,rfl,by omega⟩
theorem aOY (x:Block) (h:RB x):WrN 210 [.agg (aU x)] 400:=by
 suffices h:∃r,aC Tryz.prog 210 [.v (.slice none 0 0),.agg (aU x)]=some r∧∃m:List Int,r=.uniq 5 1 m.length (jX m)∧(m.length:Int)≤400 by
  obtain⟨r,h,m,rfl,h2⟩:=h;exact⟨m,h,h2⟩
 obtain⟨m1,e1,b1⟩:=(o0 x.slot h.sl).at (cO (.v _))
 obtain⟨m2,e2,b2⟩:=(FH x.root).at (cO (rH _)) (l:=m1) (by omega)
 obtain⟨m3,e3,b3⟩:=(FH x.parent).at (cO (rH _)) (l:=m2) (by omega)
 obtain⟨m4,e4,b4⟩:=(FH x.iL).at (cO (rH _)) (l:=m3) (by omega)
 obtain⟨m5,e5,b5⟩:=(aKu x.diff).at (cO (.agg _ (iJ _))) (l:=m4) (by omega)
 obtain⟨m6,e6,b6⟩:=(aKu x.Vt).at (cO (.agg _ (iJ _))) (l:=m5) (by omega)
 obtain⟨m7,e7,b7⟩:=(K9 x.dN h.j).at (cO (.agg _ (dA _))) (l:=m6) (by omega)
 obtain⟨m8,e8,b8⟩:=(K9 x.fin h.f).at (cO (.agg _ (dA _))) (l:=m7) (by omega)
 obtain⟨m9,e9,b9⟩:=(K9 x.dS.pj h.pj).at (cO (.agg _ (dA _))) (l:=m8) (by omega)
 obtain⟨m10,e10,b10⟩:=(K9 x.dS.pf h.pf).at (cO (.agg _ (dA _))) (l:=m9) (by omega)
 obtain⟨m11,e11,b11⟩:=(aOV x.Bk).at (cO (.v _)) (l:=m10) (by omega)
 rw[cG Tryz.func210 rfl aKy (by kernel_rfl) rfl]
 simp only[ZG,seval,Bool.false_and,Prod.mk.injEq,aKz,e1,e2,e3,e4,e5,e6,e7,e8,e9,e10,e11];exact⟨_,sF rfl (by simp only[E8,seval]<;>rfl) (by simp only[E8,seval]<;>rfl) (vD _),_,rfl,by omega⟩
def wU (r:AV):Prop:=∃(o:Option (List Int)) (e:Int),r=.eE [ov jX o,.v (.int .i64 e)]
theorem wU.none (e:Int):wU (.eE [.v (.slice none 0 0),.v (.int .i64 e)]):=⟨Option.none,e,rfl⟩
theorem wU.some (l:List Int) (e:Int):wU (.eE [.sl l.length (jX l),.v (.int .i64 e)]):=⟨Option.some l,e,rfl⟩
theorem aOZ (a:rQ) (V:Option (List Int)) (hV:a.eU=ov aK V) (nV:((ol V).length:Int)≤1000) (h1:Rg a.slot) (h2:Rg a.target.aL):∃r,aC Tryz.prog 211 [.agg (gV a)]=some r∧wU r:=by
 have JJ:=kx (c40 V (by omega) 1024) (bE (bO V) (.v _)) (.v _)
 obtain⟨e,he⟩:∃e,Zs (ol V) 1024=e:=⟨_,rfl⟩
 rw[he] at JJ;obtain⟨m1,e1,b1⟩:=(o0 a.slot h1).at (cO (.v _))
 obtain⟨m2,e2,b2⟩:=(FH a.root).at (cO (rH _)) (l:=m1) (by omega)
 obtain⟨m3,e3,b3⟩:=(K9 a.target h2).at (cO (.agg _ (dA _))) (l:=m2) (by omega)
 obtain⟨m4,e4,b4⟩:=(aFi V nV).at (cO (bO V)) (l:=m3) (by omega)
 rw[cG Tryz.func211 rfl aKA (by kernel_rfl) rfl]
 by_cases g:e=0
 ·simp only[ZG,seval,Bool.false_and,Prod.mk.injEq,aD6,hV,JJ,bt g,e1,e2,e3,e4,Am,An,Fb,Fc];exact⟨_,dO rfl rfl rfl (by simp only[E8,seval,Cn]<;>rfl) (by simp only[E8,seval,Cn]<;>rfl),wU.some _ _⟩
 ·simp only[ZG,seval,Bool.false_and,Prod.mk.injEq,aD6,hV,JJ,bf g];exact⟨_,dO rfl rfl rfl (by simp only[E8,seval]<;>rfl) (by simp only[E8,seval]<;>rfl),wU.none _⟩
theorem aO0 (a:fW) (h1:wB a.first) (h2:wB a.second) (r1:Rg a.first.source) (r2:Rg a.first.target) (r3:Rg a.second.source) (r4:Rg a.second.target):∃r,aC Tryz.prog 212 [.agg (bV a)]=some r∧wU r:=by
 obtain⟨V,hV,nV⟩:=id h1
 obtain⟨W,hW,nW⟩:=id h2
 have kV:=kx (c40 V (by omega) 1024) (bE (bO V) (.v _)) (.v _)
 have kW:=kx (c40 W (by omega) 1024) (bE (bO W) (.v _)) (.v _)
 obtain⟨ev,Zt⟩:∃e,Zs (ol V) 1024=e:=⟨_,rfl⟩
 obtain⟨ew,hew⟩:∃e,Zs (ol W) 1024=e:=⟨_,rfl⟩
 rw[Zt] at kV;rw[hew] at kW;obtain⟨m1,e1,b1⟩:=(aOX a.first V hV nV r1 r2).at (cO h1.fl)
 obtain⟨m2,e2,b2⟩:=(aOW a.second W hW nW r3 r4).at (cO h2.fl) (l:=m1) (by omega)
 rw[cL Tryz.func212 rfl aKB rfl];by_cases g1:ev=0
 case neg =>
  simp only[Z8,seval,hV,hW,kV,bf g1];exact⟨_,dO rfl rfl rfl (by simp only[E8,seval]<;>rfl) (by simp only[E8,seval]<;>rfl),wU.none _⟩
 by_cases g2:ew=0
 case neg =>
  simp only[Z8,seval,hV,hW,kV,kW,bt g1,bf g2];exact⟨_,dO rfl rfl rfl (by simp only[E8,seval]<;>rfl) (by simp only[E8,seval]<;>rfl),wU.none _⟩
 simp only[Z8,seval,hV,hW,kV,kW,bt g1,bt g2,e1,e2];exact⟨_,dO rfl rfl rfl (by simp only[E8,seval,Cn]<;>rfl) (by simp only[E8,seval,Cn]<;>rfl),wU.some _ _⟩
theorem aO1 (t:Table) (b:Option (List Int)) (hb:t.jI=ov bC b) (nb:((ol b).length:Int)≤1000) (rb:∀y∈ol b,Rg y) (rt:Rg t.ck.aL):∃r,aC Tryz.prog 213 [.agg (cA t)]=some r∧wU r:=by
 have hfT:Flat (.agg (cA t)):=(jZ t).2 (by rw[hb];exact dR b)
 obtain⟨m1,e1,b1⟩:=(o0 t.ck.aL rt).at (cO (.v _))
 obtain⟨m2,e2,b2⟩:=(FH t.ck.root).at (cO (rH _)) (l:=m1) (by omega)
 obtain⟨m3,e3,b3⟩:=(We _ (jT ((ol b).length:Int))).at (cO (.v _)) (l:=m2) (by omega)
 rw[cG Tryz.func213 rfl aKC (by kernel_rfl) rfl]
 have g1:¬(1024:Int)<((ol b).length:Int):=by omega
 simp only[ZG,seval,Bool.false_and,Prod.mk.injEq,LK,hb,g1,e1,e2,e3,Am,An,Fb,Fc];refine mC (fun m st=>∃(k:Nat) (p:List Int) (a g:Nat),(st.env 1=.ptr 1 0 0∧st.heap 1 0=some (.cells (cA t))∧st.env 4=.own a g∧st.heap a g=some (.row 5 1 p.length (jX p))∧st.env 5=.v (.int .i64 k))∧((a=22∧g=0)∨(a=36∧g<st.aQ 36))∧(p.length:Int)≤100+10 * k∧k≤(ol b).length∧m=(ol b).length-k)
  (fun e st=>e=.exit 0∧∃(p:List Int) (a g:Nat),st.env 4=.own a g∧st.heap a g=some (.row 5 1 p.length (jX p))) (ol b).length ?step ?start ?rest
 case step =>
  rintro m st ⟨k,p,a,g,hI,FG,hp,hk,hm⟩
  by_cases bB:(k:Int)<(ol b).length
  ·have q0:(0:Int)≤k:=by omega
   have hw:IntKind.i64.wrap ((k:Int)+1)=((k+1:Nat):Int):=by rw[qA _ (by omega) (by omega)];omega
   obtain⟨p',e4,b4⟩:=(We _ (rb _ (uY (z:=(0:Int)) q0 bB))).at (cO (.v _)) (l:=p) (by omega)
   rcases FG with ⟨rfl,rfl⟩|⟨rfl,hg⟩
   ·apply Ea ((ol b).length-(k+1))
    ·simp only[ZG,seval,Bool.false_and,Prod.mk.injEq,LK,hI,bB,q0,hb,e4,hw];rfl
    ·exact⟨k+1,p',36,_,⟨by simp only[E8,seval,hI],by simp only[E8,seval,hI],by simp only[E8,seval]<;>rfl,by simp only[E8,seval]<;>rfl,by simp only[E8,seval]⟩,.inr ⟨rfl,by simp only[E8,seval]<;>omega⟩,by omega,by omega,rfl⟩
   ·have vC:(g=st.aQ 36)=False:=eq_false (by omega)
    apply Ea ((ol b).length-(k+1))
    ·simp only[ZG,seval,Bool.false_and,Prod.mk.injEq,LK,hI,vC,bB,q0,hb,e4,hw];rfl
    ·exact⟨k+1,p',36,_,⟨by simp only[E8,seval,hI],by simp only[E8,seval,hI],by simp only[E8,seval]<;>rfl,by simp only[E8,seval]<;>rfl,by simp only[E8,seval]⟩,.inr ⟨rfl,by simp only[E8,seval]<;>omega⟩,by omega,by omega,rfl⟩
  ·apply JK (.exit 0)
   ·simp only[ZG,seval,Bool.false_and,Prod.mk.injEq,LK,hI,bB,hb];rfl
   ·exact⟨rfl,p,a,g,by simp only[E8,seval,hI],by simp only[E8,seval,hI]⟩
 case start=>exact⟨0,m3,22,0,by and_intros<;>(simp only[E8,seval]<;>rfl),.inl ⟨rfl,rfl⟩,by omega,by omega,by omega⟩
 case rest =>
  rintro e st ⟨rfl,p,a,g,h4,hh⟩
  simp only[ZG,seval,Bool.false_and,Prod.mk.injEq,LK,h4,hh];exact⟨_,dO rfl rfl rfl (by simp only[E8,seval,h4,hh,Cn]<;>rfl) (by simp only[E8,seval,h4,hh,Cn]<;>rfl),wU.some _ _⟩
theorem aO2 (v:eD) (h:Rg v.tagged.tag):∃r,aC Tryz.prog 214 [.agg (bN v)]=some r∧wU r:=by
 obtain⟨m1,e1,b1⟩:=(o0 v.tagged.tag h).at (cO (.v _))
 obtain⟨m2,e2,b2⟩:=(We _ (jT v.kind)).at (cO (.v _)) (l:=m1) (by omega)
 obtain⟨m3,e3,b3⟩:=(FH v.dV).at (cO (rH _)) (l:=m2) (by omega)
 rw[cG Tryz.func214 rfl aKD (by kernel_rfl) rfl]
 by_cases g1:v.kind<1
 ·simp only[ZG,seval,Bool.false_and,Prod.mk.injEq,L6,g1];exact⟨_,dO rfl rfl rfl (by simp only[E8,seval]<;>rfl) (by simp only[E8,seval]<;>rfl),wU.none _⟩
 by_cases g2:4<v.kind
 ·simp only[ZG,seval,Bool.false_and,Prod.mk.injEq,L6,g1,g2];exact⟨_,dO rfl rfl rfl (by simp only[E8,seval]<;>rfl) (by simp only[E8,seval]<;>rfl),wU.none _⟩
 simp only[ZG,seval,Bool.false_and,Prod.mk.injEq,L6,g1,g2,e1,e2,e3];exact⟨_,dO rfl rfl rfl (by simp only[E8,seval,Cn]<;>rfl) (by simp only[E8,seval,Cn]<;>rfl),wU.some _ _⟩
theorem aO3 (x:wM) (h:pA x):∃r,aC Tryz.prog 200 [.agg (kX x)]=some r∧wU r:=by
 have jJ:=h.fl
 obtain⟨V,hV,nV⟩:=h.Fq
 obtain⟨b,hb,nb,rb⟩:=h.SQ
 obtain⟨m1,e1,b1⟩:=(aOY x.block h.rb).at (cO (uI _))
 obtain⟨r2,e2,o2,f2,rfl⟩:=aOZ x.Fq V hV nV h.ra.1 h.ra.2
 obtain⟨r3,e3,o3,f3,rfl⟩:=aO0 x.oM h.c1 h.c2 h.rs.1 h.rs.2.1 h.rs.2.2.1 h.rs.2.2.2
 obtain⟨r4,e4,o4,f4,rfl⟩:=aO1 x.table b hb nb rb h.rt
 obtain⟨r5,e5,o5,f5,rfl⟩:=aO2 x.verdict h.rv
 have k2:=kx e2 (cO ((yN _).2 jJ.1)) (.eE _ (bE (xY _) (.v _)))
 have k3:=kx e3 (cO ((mW _).2 ⟨jJ.2.1,jJ.2.2.1⟩)) (.eE _ (bE (xY _) (.v _)))
 have k4:=kx e4 (cO ((jZ _).2 jJ.2.2.2)) (.eE _ (bE (xY _) (.v _)))
 have k5:=kx e5 (cO (.agg _ (gE _))) (.eE _ (bE (xY _) (.v _)))
 obtain⟨m6,e6,b6⟩:=(o0 _ (jT x.write)).at (cO (.v _))
 obtain⟨m7,e7,b7⟩:=(We _ (jT x.qB)).at (cO (.v _)) (l:=m6) (by omega)
 rw[cL Tryz.func200 rfl aKE rfl];by_cases g2:x.kind=2
 ·simp only[Z8,seval,bt g2,e1];exact⟨_,dO rfl rfl rfl (by simp only[E8,seval,Cn]<;>rfl) (by simp only[E8,seval,Cn]<;>rfl),wU.some _ _⟩
 by_cases g3:x.kind=3
 ·simp only[Z8,seval,bf g2,bt g3,k2,eA];exact⟨_,dO rfl rfl rfl (by simp only[E8,seval,qZ]<;>rfl) (by simp only[E8,seval,qZ]<;>rfl),_,_,rfl⟩
 by_cases g4:x.kind=4
 ·simp only[Z8,seval,bf g2,bf g3,bt g4,k3,eA];exact⟨_,dO rfl rfl rfl (by simp only[E8,seval,qZ]<;>rfl) (by simp only[E8,seval,qZ]<;>rfl),_,_,rfl⟩
 by_cases g5:x.kind=5
 ·simp only[Z8,seval,bf g2,bf g3,bf g4,bt g5,k4,eA];exact⟨_,dO rfl rfl rfl (by simp only[E8,seval,qZ]<;>rfl) (by simp only[E8,seval,qZ]<;>rfl),_,_,rfl⟩
 by_cases g6:x.kind=6
 ·simp only[Z8,seval,bf g2,bf g3,bf g4,bf g5,bt g6,k5,eA];exact⟨_,dO rfl rfl rfl (by simp only[E8,seval,qZ]<;>rfl) (by simp only[E8,seval,qZ]<;>rfl),_,_,rfl⟩
 by_cases g8:x.kind=8
 case neg =>
  simp only[Z8,seval,bf g2,bf g3,bf g4,bf g5,bf g6,bf g8];exact⟨_,dO rfl rfl rfl (by simp only[E8,seval]<;>rfl) (by simp only[E8,seval]<;>rfl),wU.none _⟩
 by_cases w1:x.write<0
 ·simp only[Z8,seval,bf g2,bf g3,bf g4,bf g5,bf g6,bt g8,w1];exact⟨_,dO rfl rfl rfl (by simp only[E8,seval]<;>rfl) (by simp only[E8,seval]<;>rfl),wU.none _⟩
 by_cases w2:32768<x.write
 ·simp only[Z8,seval,bf g2,bf g3,bf g4,bf g5,bf g6,bt g8,w1,w2];exact⟨_,dO rfl rfl rfl (by simp only[E8,seval]<;>rfl) (by simp only[E8,seval]<;>rfl),wU.none _⟩
 by_cases w3:x.qB<0
 ·simp only[Z8,seval,bf g2,bf g3,bf g4,bf g5,bf g6,bt g8,w1,w2,w3];exact⟨_,dO rfl rfl rfl (by simp only[E8,seval]<;>rfl) (by simp only[E8,seval]<;>rfl),wU.none _⟩
 by_cases w4:32768<x.qB
 ·simp only[Z8,seval,bf g2,bf g3,bf g4,bf g5,bf g6,bt g8,w1,w2,w3,w4];exact⟨_,dO rfl rfl rfl (by simp only[E8,seval]<;>rfl) (by simp only[E8,seval]<;>rfl),wU.none _⟩
 simp only[Z8,seval,bf g2,bf g3,bf g4,bf g5,bf g6,bt g8,w1,w2,w3,w4,e6,e7];exact⟨_,dO rfl rfl rfl (by simp only[E8,seval,Cn]<;>rfl) (by simp only[E8,seval,Cn]<;>rfl),wU.some _ _⟩
theorem XI:Rg 0:=⟨by omega,by omega⟩
theorem zOk:pA yX:=⟨⟨none,rfl,by simp[ol]⟩,⟨none,rfl,by simp[ol]⟩,⟨none,rfl,by simp[ol]⟩,⟨none,rfl,by simp[ol],by simp[ol]⟩,⟨XI,XI,XI,XI,XI⟩,⟨XI,XI⟩,⟨XI,XI,XI,XI⟩,XI,XI⟩
theorem aO4 (x:wM) (h:pA x):∃r,aC Tryz.prog 184 [.agg (kX x)]=some r∧∃e:Int,r=.v (.int .i64 e):=by
 have z:=zOk
 have hf:=h.flat
 obtain⟨r1,e1,o1,e,rfl⟩:=aO3 x h
 have LM:=kx e1 (cO hf) (.eE _ (bE (xY _) (.v _)))
 rw[cG Tryz.func184 rfl aKF (by kernel_rfl) rfl]
 by_cases g1:x.kind<1
 ·simp only[ZG,seval,Bool.false_and,Prod.mk.injEq,Jp,g1];exact⟨_,bT rfl (by simp only[E8,seval]<;>rfl) (by first|exact .v _|simp only[dY]),_,rfl⟩
 by_cases g9:8<x.kind
 ·simp only[ZG,seval,Bool.false_and,Prod.mk.injEq,Jp,g1,g9];exact⟨_,bT rfl (by simp only[E8,seval]<;>rfl) (by first|exact .v _|simp only[dY]),_,rfl⟩
 by_cases g0:e=0
 case neg =>
  simp only[ZG,seval,Bool.false_and,Prod.mk.injEq,Jp,g1,g9,LM,eA,bf g0];exact⟨_,bT rfl (by simp only[E8,seval]<;>rfl) (by first|exact .v _|simp only[dY]),_,rfl⟩
 by_cases k2:x.kind=2
 ·have hy:pA { yX with kind:=x.kind,block:=x.block }:=⟨z.Fq,z.c1,z.c2,z.SQ,h.rb,z.ra,z.rs,z.rt,z.rv⟩
  obtain⟨r2,e2,B,rfl⟩:=SR x { yX with kind:=x.kind,block:=x.block } h hy
  have Qc:=kx e2 (bE hf hy.flat) (.v _)
  have QP:=h.fl
  cases B
  all_goals
   simp only[ZG,seval,Bool.false_and,Prod.mk.injEq,Jp,g1,g9,LM,eA,bt g0,bt k2,Qc,Am,An,Fb,Fc];exact⟨_,bT rfl (by simp only[E8,seval]<;>rfl) (by first|exact .v _|simp only[dY]),_,rfl⟩
 by_cases k3:x.kind=3
 ·have hy:pA { yX with kind:=x.kind,Fq:=x.Fq }:=⟨h.Fq,z.c1,z.c2,z.SQ,z.rb,h.ra,z.rs,z.rt,z.rv⟩
  obtain⟨r2,e2,B,rfl⟩:=SR x { yX with kind:=x.kind,Fq:=x.Fq } h hy
  have Qc:=kx e2 (bE hf hy.flat) (.v _)
  have QP:=h.fl
  cases B
  all_goals
   simp only[ZG,seval,Bool.false_and,Prod.mk.injEq,Jp,g1,g9,LM,eA,bt g0,bf k2,bt k3,Qc,Am,An,Fb,Fc];exact⟨_,bT rfl (by simp only[E8,seval]<;>rfl) (by first|exact .v _|simp only[dY]),_,rfl⟩
 by_cases k4:x.kind=4
 ·have hy:pA { yX with kind:=x.kind,oM:=x.oM }:=⟨z.Fq,h.c1,h.c2,z.SQ,z.rb,z.ra,h.rs,z.rt,z.rv⟩
  obtain⟨r2,e2,B,rfl⟩:=SR x { yX with kind:=x.kind,oM:=x.oM } h hy
  have Qc:=kx e2 (bE hf hy.flat) (.v _)
  have QP:=h.fl
  cases B
  all_goals
   simp only[ZG,seval,Bool.false_and,Prod.mk.injEq,Jp,g1,g9,LM,eA,bt g0,bf k2,bf k3,bt k4,Qc,Am,An,Fb,Fc];exact⟨_,bT rfl (by simp only[E8,seval]<;>rfl) (by first|exact .v _|simp only[dY]),_,rfl⟩
 by_cases k5:x.kind=5
 ·have hy:pA { yX with kind:=x.kind,table:=x.table }:=⟨z.Fq,z.c1,z.c2,h.SQ,z.rb,z.ra,z.rs,h.rt,z.rv⟩
  obtain⟨r2,e2,B,rfl⟩:=SR x { yX with kind:=x.kind,table:=x.table } h hy
  have Qc:=kx e2 (bE hf hy.flat) (.v _)
  have QP:=h.fl
  cases B
  all_goals
   simp only[ZG,seval,Bool.false_and,Prod.mk.injEq,Jp,g1,g9,LM,eA,bt g0,bf k2,bf k3,bf k4,bt k5,Qc,Am,An,Fb,Fc];exact⟨_,bT rfl (by simp only[E8,seval]<;>rfl) (by first|exact .v _|simp only[dY]),_,rfl⟩
 by_cases k6:x.kind=6
 ·have hy:pA { yX with kind:=x.kind,verdict:=x.verdict }:=⟨z.Fq,z.c1,z.c2,z.SQ,z.rb,z.ra,z.rs,z.rt,h.rv⟩
  obtain⟨r2,e2,B,rfl⟩:=SR x { yX with kind:=x.kind,verdict:=x.verdict } h hy
  have Qc:=kx e2 (bE hf hy.flat) (.v _)
  have QP:=h.fl
  cases B
  all_goals
   simp only[ZG,seval,Bool.false_and,Prod.mk.injEq,Jp,g1,g9,LM,eA,bt g0,bf k2,bf k3,bf k4,bf k5,bt k6,Qc,Am,An,Fb,Fc];exact⟨_,bT rfl (by simp only[E8,seval]<;>rfl) (by first|exact .v _|simp only[dY]),_,rfl⟩
 by_cases k8:x.kind=8
 ·have hy:pA { yX with kind:=x.kind,write:=x.write,qB:=x.qB }:=⟨z.Fq,z.c1,z.c2,z.SQ,z.rb,z.ra,z.rs,z.rt,z.rv⟩
  obtain⟨r2,e2,B,rfl⟩:=SR x { yX with kind:=x.kind,write:=x.write,qB:=x.qB } h hy
  have Qc:=kx e2 (bE hf hy.flat) (.v _)
  have QP:=h.fl
  cases B
  all_goals
   simp only[ZG,seval,Bool.false_and,Prod.mk.injEq,Jp,g1,g9,LM,eA,bt g0,bf k2,bf k3,bf k4,bf k5,bf k6,bt k8,Qc,Am,An,Fb,Fc];exact⟨_,bT rfl (by simp only[E8,seval]<;>rfl) (by first|exact .v _|simp only[dY]),_,rfl⟩
 have hy:pA { yX with kind:=x.kind }:=⟨z.Fq,z.c1,z.c2,z.SQ,z.rb,z.ra,z.rs,z.rt,z.rv⟩
 obtain⟨r2,e2,B,rfl⟩:=SR x { yX with kind:=x.kind } h hy
 have Qc:=kx e2 (bE hf hy.flat) (.v _)
 have QP:=h.fl
 cases B
 all_goals
  simp only[ZG,seval,Bool.false_and,Prod.mk.injEq,Jp,g1,g9,LM,eA,bt g0,bf k2,bf k3,bf k4,bf k5,bf k6,bf k8,Qc,Am,An,Fb,Fc];exact⟨_,bT rfl (by simp only[E8,seval]<;>rfl) (by first|exact .v _|simp only[dY]),_,rfl⟩
theorem x45 (n bits:Int) (h0:0<n) (h1:n≤1000):∃r,aC Tryz.prog 45 [.v (.int .i64 n),.v (.int .i64 bits)]=some r∧∃l:List Int,r=.uniq 3 1 l.length (aK l)∧(l.length:Int)≤n:=by
 rw[cL Tryz.func45 rfl aO5 rfl];simp only[Z8,seval];refine cH (fun m st=>∃k:Nat,(st.env 0=.v (.int .i64 n)∧st.env 1=.v (.int .i64 bits)∧st.env 6=.v (.int .i64 k))∧(st.env 5=.v (.slice none 0 0)∨∃(l:List Int) (g:Nat),(st.env 5=.own 21 g∧st.heap 21 g=some (.row 3 1 l.length (aK l)))∧g<st.aQ 21∧0<l.length∧l.length≤k)∧(k:Int)≤n∧m=(n-k).toNat)
  (fun e st=>e=.exit 0∧st.env 0=.v (.int .i64 n)∧(st.env 5=.v (.slice none 0 0)∨∃(l:List Int) (g:Nat),(st.env 5=.own 21 g∧st.heap 21 g=some (.row 3 1 l.length (aK l)))∧0<l.length∧(l.length:Int)≤n)) n.toNat ?step ?start ?rest
 case step =>
  rintro m st ⟨k,hI,h5,hk,hm⟩
  by_cases bB:(k:Int)<n
  ·have q0:(0:Int)≤k:=by omega
   have hw:IntKind.i64.wrap ((k:Int)+1)=((k+1:Nat):Int):=by rw[qA _ (by omega) (by omega)];omega
   by_cases hh:IntKind.i64.wrap ((BitVec.ofInt IntKind.i64.bits (bits.fdiv (2 ^ min (IntKind.u64.wrap (k:Int)).toNat IntKind.i64.bits)) &&& BitVec.ofInt IntKind.i64.bits 1).toNat:Int)=1
   ·rcases h5 with h5|⟨l,g,h5,hg,hl0,hl⟩
    ·apply oN ((n-((k+1:Nat):Int)).toNat)
     ·simp only[Z8,seval,hI,h5,bB,q0,wT,bt hh,hw];rfl
     ·exact⟨k+1,by simp only[E8,seval,hI],.inr ⟨[(k:Int)],_,⟨by simp only[E8,seval]<;>rfl,by simp only[E8,seval]<;>rfl⟩,by simp only[E8,seval]<;>omega,by simp,by simp⟩,by omega,rfl⟩
    ·have vC:(g=st.aQ 21)=False:=eq_false (by omega)
     have nl:(l.length:Int)<1000000:=by omega
     apply oN ((n-((k+1:Nat):Int)).toNat)
     ·simp only[Z8,seval,hI,h5,vC,bB,q0,wT,bt hh,hw,Ec _ _ _ _ nl];rfl
     ·exact⟨k+1,by simp only[E8,seval,hI],.inr ⟨l++[(k:Int)],_,⟨by simp only[E8,seval]<;>rfl,by simp only[E8,seval]<;>rfl⟩,by simp only[E8,seval]<;>omega,by simp,by rw[List.length_append,List.length_cons,List.length_nil];omega⟩,by omega,rfl⟩
   ·have h5':st.env 5=.v (.slice none 0 0)∨∃(l:List Int) (g:Nat),(st.env 5=.own 21 g∧st.heap 21 g=some (.row 3 1 l.length (aK l)))∧g<st.aQ 21∧0<l.length∧l.length≤k+1:=h5.imp id fun ⟨l,g,a,b,c,d⟩=>⟨l,g,a,b,c,by omega⟩
    apply oN ((n-((k+1:Nat):Int)).toNat)
    ·simp only[Z8,seval,hI,bB,q0,wT,bf hh,hw];rfl
    ·exact⟨k+1,by simp only[E8,seval,hI],by simpa only[E8,seval] using h5',by omega,rfl⟩
  ·have h5':st.env 5=.v (.slice none 0 0)∨∃(l:List Int) (g:Nat),(st.env 5=.own 21 g∧st.heap 21 g=some (.row 3 1 l.length (aK l)))∧0<l.length∧(l.length:Int)≤n:=h5.imp id fun ⟨l,g,a,b,c,d⟩=>⟨l,g,a,c,by omega⟩
   apply oT (.exit 0)
   ·simp only[Z8,seval,hI,bB];rfl
   ·exact⟨rfl,by simp only[E8,seval,hI],by simpa only[E8,seval] using h5'⟩
 case start=>exact⟨0,by simp only[E8,seval]<;>rfl,.inl (by simp only[E8,seval]),by omega,by simp⟩
 case rest =>
  rintro e st ⟨rfl,h0',h5|⟨l,g,h5,hl0,hl⟩⟩
  ·simp only[Z8,seval,h0',h5,h0];exact⟨_,Wf (n:=([0]:List Int).length) (cs:=aK [0]) (aE (by decide)) (.inl rfl) rfl (by simp only[E8,seval]<;>rfl) (by simp only[E8,seval]<;>rfl) (gD _),_,rfl,by simp;omega⟩
  ·have hn0:¬((l.length:Int)=0):=by omega
   simp only[Z8,seval,h0',h5,bf hn0];exact⟨_,sF rfl (by simp only[E8,seval,h5]<;>rfl) (by simp only[E8,seval,h5]<;>rfl) (gD _),l,rfl,hl⟩
theorem k45 (n bits:Int) (h0:0<n) (h1:n≤1000):∃l:List Int,(∀(st:St) (d:Nat),aN (aC Tryz.prog) 45 [.v (.int .i64 n),.v (.int .i64 bits)] st (some d)=some { dst:=some d,val:=.own d (st.aQ d),new:=some (d,[.row 3 1 l.length (aK l)])})∧(l.length:Int)≤n:=by
 obtain⟨r,hr,l,rfl,hl⟩:=x45 n bits h0 h1
 exact⟨l,fun st d=>jB (bE (.v _) (.v _)) hr,hl⟩
theorem x92 {s:aP} {v:SV} {q:Int} (h:GI s v q) (r:RG s v) (i e:Int) (he:Rg e):∃x,aC Tryz.prog 92 [.agg (aB s),.v (.int .i64 i),.v (.int .u64 e)]=some x∧∃c:fR,x=.agg (bY c)∧Rg c.aL:=by
 have L7:=JY v.ns h.up h.sd.nn i (IntKind.u64.wrap (e * s.cFg.qK))
 have hr:=CZ h.up (i:=i) (s:=IntKind.u64.wrap (e * s.cFg.qK))
 obtain⟨k,hk⟩:∃k,EK v.ns i (IntKind.u64.wrap (e * s.cFg.qK))=k:=⟨_,rfl⟩
 rw[hk] at L7 hr
 rw[cL Tryz.func92 rfl aO8 rfl];by_cases g1:k<0
 ·simp only[Z8,seval,h.sd.tree,L7,g1];exact⟨_,fF rfl (by simp only[E8,seval,Ak]<;>rfl) (by simp only[Z8,seval,Ak]<;>rfl) (by simp only[dY,and_self,Ak]),_,rfl,r.f⟩
 ·have k0:0≤k:=by omega
  have k1:k<v.ns.length:=by omega
  simp only[Z8,seval,h.sd.tree,L7,g1,k0,k1];exact⟨_,fF rfl (by simp only[E8,seval,Ak]<;>rfl) (by simp only[Z8,seval,Ak]<;>rfl) (by simp only[dY,and_self,Ak]),_,rfl,he⟩
end Go.Ab.Tryz
