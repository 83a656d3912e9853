/-
  Part 13 of the proof: an evaluator of programs, its soundness, and what functions of this program compute.
-/
import Derived.Test.YtmcjkemalibacaaGreatK12
import Derived.Test.YtmcjkemalibacaaGreatK9
import Derived.Test.YtmcjkemalibacaaGreatK11
set_option linter.all false
set_option maxRecDepth 20000
set_option maxHeartbeats 40000000
namespace Go.Ab.Tryz
open Classical Go.Proofs Go.Ab
theorem aFq (ns:List Node) (i x:Int):∀k:Nat,x∈Sj ns i k→(0≤x∧x<k)∧(nd ns x).up=i:=by
 intro k;induction k with
 | zero=>intro h;simp[Sj] at h
 | succ k ih =>
   intro h;unfold Sj at h;split at h
   ·rename_i hc;rcases List.mem_append.1 h with h|h
    ·have:=ih h;omega
    ·have hx:=List.mem_singleton.1 h
     subst hx;exact⟨by omega,hc⟩
   ·have:=ih h;omega
theorem FW {ns:List Node} (hu:fZ ns) (hr:(nd ns 0).up=-1) {i x:Int} (h:x∈vO ns i):i<x∧0≤x∧x<ns.length:=by
 unfold vO at h;split at h
 ·simp at h
 ·rename_i hi;obtain⟨⟨x0,x1⟩,Uo⟩:=aFq ns i x _ h
  by_cases hx:x=0
  ·subst hx;rw[hr] at Uo;omega
  ·have:=(hu x (by omega) x1).2;omega
theorem aKk {s:aM} {v:SV} (hs:SD s v) (hu:fZ v.ns) (hr:(nd v.ns 0).up=-1) (hp:s.cFg.jK≠0):∀(n:Nat) (i:Int),((v.ns.length:Int)-i).toNat≤n→∃b:Bool,aB Tryz.prog 244 [.agg (aA s),.v (.int .i64 i)]=some (.v (.bool b)):=by
 have base:∀(i:Int),vO v.ns i=[]→∃b:Bool,aB Tryz.prog 244 [.agg (aA s),.v (.int .i64 i)]=some (.v (.bool b)):=by
  intro i hc;obtain⟨r,hr9,b,rfl⟩:=aKi hs hp i
  have L3:=kx hr9 (bA hs.flat (.v _)) (.v _)
  have kc:=fun st d=>aDT v.ns hu hr hs.nn i hc st d
  suffices h:∃r,aB Tryz.prog 244 [.agg (aA s),.v (.int .i64 i)]=some r∧∃b:Bool,r=.v (.bool b) by
   obtain⟨r,h,b,rfl⟩:=h;exact⟨b,h⟩
  rw[cL Tryz.func244 rfl aD9 rfl];cases b
  ·simp only[Z8,seval,L3,hs.tree,kc];refine cJ (fun m st=>st.env 5=.v (.slice none 0 0)∧st.env 6=.v (.int .i64 0)∧m=0) (fun e st=>e=.exit 0) 0 ?step ?start ?rest
   case step =>
    rintro m st ⟨h5,h6,_⟩
    apply oT (.exit 0)
    ·simp only[Z8,seval,h5,h6,Int.lt_irrefl];rfl
    ·exact rfl
   case start=>exact⟨by simp only[E8,seval]<;>rfl,by simp only[E8,seval]<;>rfl,rfl⟩
   case rest =>
    rintro e st rfl
    simp only[Z8,seval];exact⟨_,bP rfl (by simp only[E8,seval]<;>rfl) (by first|exact .v _|simp only[eA]),_,rfl⟩
  ·simp only[Z8,seval,L3];exact⟨_,bP rfl (by simp only[E8,seval]<;>rfl) (by first|exact .v _|simp only[eA]),_,rfl⟩
 intro n;induction n with
 | zero =>
   intro i hi;exact base i (KQ hu hr (by omega))
 | succ n ih =>
   intro i hi;by_cases hc:vO v.ns i=[]
   ·exact base i hc
   obtain⟨r,hr9,b,rfl⟩:=aKi hs hp i
   have L3:=kx hr9 (bA hs.flat (.v _)) (.v _)
   have kc:=fun st d=>aI5 v.ns hu hr hs.nn i hc st d
   have hB:∀x:Int,∃b:Bool,x∈vO v.ns i→aB Tryz.prog 244 [.agg (aA s),.v (.int .i64 x)]=some (.v (.bool b)):=by
    intro x;by_cases hx:x∈vO v.ns i
    ·have:=FW hu hr hx
     obtain⟨b,hb⟩:=ih x (by omega)
     exact⟨b,fun _=>hb⟩
    ·exact⟨false,fun h=>absurd h hx⟩
   obtain⟨B,hB⟩:∃B:Int→Bool,∀x,x∈vO v.ns i→aB Tryz.prog 244 [.agg (aA s),.v (.int .i64 x)]=some (.v (.bool (B x))):=⟨fun x=>Classical.choose (hB x),fun x=>Classical.choose_spec (hB x)⟩
   have hgt:∀x∈vO v.ns i,i<x∧0≤x∧x<v.ns.length:=fun x hx=>FW hu hr hx
   have hin:((vO v.ns i).length:Int)<1000000:=by
    have h1:(vO v.ns i).length≤v.ns.length:=by
     unfold vO;split
     ·simp
     ·exact Uq v.ns i v.ns.length
    have:=hs.nn;omega
   obtain⟨l,el⟩:∃l,vO v.ns i=l:=⟨_,rfl⟩
   rw[el] at kc hB hin;suffices h:∃r,aB Tryz.prog 244 [.agg (aA s),.v (.int .i64 i)]=some r∧∃b:Bool,r=.v (.bool b) by
    obtain⟨r,h,b,rfl⟩:=h;exact⟨b,h⟩
   rw[cL Tryz.func244 rfl aD9 rfl];cases b
   case true =>
    simp only[Z8,seval,L3];exact⟨_,bP rfl (by simp only[E8,seval]<;>rfl) (by first|exact .v _|simp only[eA]),_,rfl⟩
   simp only[Z8,seval,L3,hs.tree,kc];refine cJ (fun m st=>∃k:Nat,(st.env 2=.ptr 2 0 0∧st.heap 2 0=some (.cells (aA s))∧st.env 5=.own 13 0∧st.heap 13 0=some (.row 3 1 l.length (aH l))∧st.env 6=.v (.int .i64 k))∧(∀j:Nat,j<k→¬(B (it l (j:Int))=true))∧k≤l.length∧m=l.length-k)
    (fun e st=>(e=.ret∧∃k:Nat,k<l.length∧(B (it l (k:Int))=true)∧(∀j:Nat,j<k→¬(B (it l (j:Int))=true))∧st.env 4=.v (.bool true))∨(e=.exit 0∧(∀j:Nat,j<l.length→¬(B (it l (j:Int))=true))∧st.env 2=.ptr 2 0 0∧st.heap 2 0=some (.cells (aA s))∧st.env 5=.own 13 0∧st.heap 13 0=some (.row 3 1 l.length (aH l)))) (l.length) ?step ?start ?rest
   case step =>
    rintro m st ⟨k,hI,hj,hk,hm⟩
    by_cases aZ:(k:Int)<l.length
    ·have q0:(0:Int)≤k:=by omega
     have hw:IntKind.i64.wrap ((k:Int)+1)=((k+1:Nat):Int):=by rw[pV _ (by omega) (by omega)];omega
     have gi:=oS q0 aZ
     have hm2:it l (k:Int)∈l:=by obtain⟨h1,h2⟩:=wK q0 aZ;rw[h2];exact List.getElem_mem h1
     have kb:=kx (hB _ hm2) (bA hs.flat (.v _)) (.v _)
     by_cases hh:B (it l (k:Int))=true
     ·apply oT (.ret)
      ·simp only[Z8,seval,hI,aZ,q0,kb,gi,hh];rfl
      ·exact .inl ⟨rfl,k,by omega,hh,hj,by simp only[E8,seval,kb,gi]⟩
     ·have hn:B (it l (k:Int))=false:=by simpa using hh
      apply oN (l.length-(k+1))
      ·simp only[Z8,seval,hI,aZ,q0,kb,gi,hn,hw];rfl
      ·exact⟨k+1,by simp only[E8,seval,hI],fun j h=>(Nat.lt_succ_iff_lt_or_eq.1 h).elim (hj j) fun e=>by subst e;exact hh,by omega,rfl⟩
    ·apply oT (.exit 0)
     ·simp only[Z8,seval,hI,aZ,aZ];rfl
     ·exact .inr ⟨rfl,fun j h=>hj j (by omega),by simp only[E8,seval,hI]⟩
   case start=>exact⟨0,by simp only[E8,seval]<;>rfl,fun j h=>by omega,by omega,by omega⟩
   case rest =>
    rintro e st (⟨rfl,k,hk,hh,hj,h⟩|⟨rfl,hj,hI⟩)
    ·simp only[Z8,seval];exact⟨_,bP rfl (by simp only[E8,seval,h]<;>rfl) (by first|exact .v _|simp only[eA,h]),_,rfl⟩
    ·simp only[Z8,seval];exact⟨_,bP rfl (by simp only[E8,seval]<;>rfl) (by first|exact .v _|simp only[eA]),_,rfl⟩
theorem aO7 {s:aM} {v:SV} {q:Int} (h:GI s v q):∃x,aB Tryz.prog 224 [.agg (aA s)]=some x∧∃m:List Bool,x=.uniq 4 1 m.length (mE m)∧m.length=v.ns.length:=by
 have hn:=h.sd.nn
 have h0:=h.pos
 obtain⟨B,hB⟩:∃B:Int→Bool,∀x,aB Tryz.prog 244 [.agg (aA s),.v (.int .i64 x)]=some (.v (.bool (B x))):=⟨fun x=>Classical.choose (aKk h.sd h.up h.To h.sp _ x (Nat.le_refl _)),fun x=>Classical.choose_spec (aKk h.sd h.up h.To h.sp _ x (Nat.le_refl _))⟩
 have kb:∀(x:Int) (st:St) (d:Option Nat),aN (aB Tryz.prog) 244 [.agg (aA s),.v (.int .i64 x)] st d=some { dst:=d,val:=.v (.bool (B x))}:=fun x=>kx (hB x) (bA h.sd.flat (.v _)) (.v _)
 rw[cL Tryz.func224 rfl aKl rfl];simp only[Z8,seval];refine cJ (fun m st=>∃k:Nat,(st.env 1=.ptr 1 0 0∧st.heap 1 0=some (.cells (aA s))∧st.env 4=.v (.int .i64 k))∧((k=0∧st.env 3=.v (.slice none 0 0))∨∃(l:List Bool) (g:Nat),st.env 3=.own 18 g∧g<st.aQ 18∧st.heap 18 g=some (.row 4 1 l.length (mE l))∧l.length=k)∧k≤v.ns.length∧m=v.ns.length-k)
  (fun e st=>e=.exit 0∧∃(l:List Bool) (g:Nat),st.env 3=.own 18 g∧st.heap 18 g=some (.row 4 1 l.length (mE l))∧l.length=v.ns.length) v.ns.length ?step ?start ?rest
 case step =>
  rintro m st ⟨k,hI,h5,hk,hm⟩
  by_cases aZ:(k:Int)<v.ns.length
  ·have q0:(0:Int)≤k:=by omega
   have hw:IntKind.i64.wrap ((k:Int)+1)=((k+1:Nat):Int):=by rw[pV _ (by omega) (by omega)];omega
   rcases h5 with ⟨vM,h5⟩|⟨l',g,h5,hg,zN,Fa⟩
   ·apply oN (v.ns.length-(k+1))
    ·simp only[Z8,seval,hI,h5,aZ,q0,h.sd.tree,kb,hw];rfl
    ·exact⟨k+1,by simp only[E8,seval,hI],.inr ⟨[B k],st.aQ 18,by simp only[E8,seval]<;>rfl,by simp only[E8,seval]<;>omega,by simp only[E8,seval]<;>rfl,by simp;omega⟩,by omega,rfl⟩
   ·have nl:(l'.length:Int)<1000000:=by omega
    apply oN (v.ns.length-(k+1))
    ·simp only[Z8,seval,hI,h5,zN,aZ,q0,h.sd.tree,kb,hw,LQ _ _ _ _ nl];rfl
    ·exact⟨k+1,by simp only[E8,seval,hI],.inr ⟨l'++[B k],st.aQ 18,by simp only[E8,seval]<;>rfl,by simp only[E8,seval]<;>omega,by simp only[E8,seval]<;>rfl,by rw[List.length_append];simp;omega⟩,by omega,rfl⟩
  ·have Ez:k=v.ns.length:=by omega
   rcases h5 with ⟨vM,h5⟩|⟨l,g,h5,hg,zN,hl⟩
   ·omega
   ·apply oT (.exit 0)
    ·simp only[Z8,seval,hI,aZ,h.sd.tree];rfl
    ·exact⟨rfl,l,g,by simp only[E8,seval,h5],by simp only[E8,seval,zN],by omega⟩
 case start=>exact⟨0,by simp only[E8,seval]<;>rfl,.inl ⟨rfl,by simp only[E8,seval]⟩,by omega,by omega⟩
 case rest =>
  rintro e st ⟨rfl,l,g,h5,zN,hl⟩
  simp only[Z8,seval,h5];exact⟨_,sU rfl (by simp only[E8,seval,h5]<;>rfl) (by simp only[E8,seval,zN]<;>rfl) (Sm _),l,rfl,hl⟩
theorem xS {x:AV} (h:Flat x):iQ x=[]:=by
 have one:∀c,Flat c→gK c=[]:=fun c hc=>by cases hc<;>rfl
 cases h with
 | agg cs h =>
   simp only[iQ];rw[List.flatMap_eq_nil_iff];exact fun c hc=>one c (h c hc)
 | _=>rfl
theorem SY {args:List AV} (h:∀x∈args,Flat x):args.flatMap iQ=[]:=List.flatMap_eq_nil_iff.2 fun x hx=>xS (h x hx)
theorem LR {call:Nat→List AV→Option AV} {g:Nat} {args:List AV} {st:St} {d:Option Nat} (h:∀x∈args,Flat x):eQ call g args st d=aN call g args st d:=by
 unfold eQ;rw[SY h]
theorem Gz {call:Nat→List AV→Option AV} {g:Nat} {args:List AV} {r:AV} {st:St} {d:Option Nat} (hf:∀x∈args,Flat x) (h:call g args=some r) (hr:Flat r):eQ call g args st d=some { dst:=d,val:=r }:=by
 rw[LR hf];exact bF hf h hr
noncomputable def La (call:Nat→List AV→Option AV) (g:Nat) (xs:Option (List AV)) (s k:Nat) (st:St) (d:Option Nat):Option qW :=
 cH xs fun xs=>cH (call g xs) fun r=>Dj r st d s k
theorem It {call:Nat→List AV→Option AV} {g:Nat} {args:List AV} {st:St} {d:Option Nat} {s k:Nat} (hk:args.flatMap iQ=[(s,k)]) (he:∀x∈args,JY x):eQ call g args st d=La call g (bY (args.map (fV st))) s k st d:=by
 unfold eQ La;rw[hk];simp only
 rw[if_pos he];cases bY (args.map (fV st))<;>rfl
theorem DR {call:Nat→List AV→Option AV} {g:Nat} {xs:List AV} {r:AV} {s k:Nat} {st:St} {d:Option Nat} (h:call g xs=some r) (hr:Flat r):La call g (some xs) s k st d=some { dst:=d,val:=r,dP:=some (s,k,none)}:=by
 unfold La Dj;simp only[cN,h,if_pos hr]
theorem aBw {call:Nat→List AV→Option AV} {g:Nat} {xs:List AV} {e sz n:Nat} {cs:List AV} {s k:Nat} {st:St} {d:Nat} (h:call g xs=some (.uniq e sz n cs)) (hm:∀c∈cs,gE c):La call g (some xs) s k st (some d)=some { dst:=some d,val:=.own d (st.aQ d),dP:=some (s,k,none),new:=some (d,[.row e sz n cs])}:=by
 have hnf:¬Flat (.uniq e sz n cs):=by intro h;cases h
 unfold La Dj;simp only[cN,h,if_neg hnf,if_pos hm]
theorem L4 {call:Nat→List AV→Option AV} {g:Nat} {args:List AV} {e sz n:Nat} {cs:List AV} {st:St} {d:Nat} (hf:∀x∈args,Flat x) (h:call g args=some (.uniq e sz n cs)):eQ call g args st (some d)=some { dst:=some d,val:=.own d (st.aQ d),new:=some (d,[.row e sz n cs])}:=by
 have hnf:¬Flat (.uniq e sz n cs):=by intro h;cases h
 rw[LR hf];unfold aN;rw[if_pos hf,h];simp only[cN];unfold iP;rw[if_neg hnf];rfl
theorem Iu {st:St} {a g:Nat} {L:List Int} (hh:st.heap a g=some (.row 3 1 L.length (aH L))):fV st (.own a g)=some (ov aH (some L)):=by
 rw[uQ,hh];exact iZ L.length L
theorem aKm (o:Option (List Int)) (hn:((ol o).length:Int)<999999) (x:Int) :
 ((∀(st:St) (d:Nat),eQ (aB Tryz.prog) 235 [ov aH o,.v (.int .i64 x)] st (some d)=some { dst:=some d,val:=ov aH o }) ∧
  ∀(st:St) (d a g:Nat) (L:List Int),o=some L→st.heap a g=some (.row 3 1 L.length (aH L))→eQ (aB Tryz.prog) 235 [.own a g,.v (.int .i64 x)] st (some d)=some { dst:=some d,val:=ov aH (some L),dP:=some (a,g,none)}) ∨
 ∃M:List Int,M.length=(ol o).length+1∧(∀(st:St) (d:Nat),eQ (aB Tryz.prog) 235 [ov aH o,.v (.int .i64 x)] st (some d)=some { dst:=some d,val:=.own d (st.aQ d),new:=some (d,[.row 3 1 M.length (aH M)])}) ∧
  ∀(st:St) (d a g:Nat) (L:List Int),o=some L→st.heap a g=some (.row 3 1 L.length (aH L))→eQ (aB Tryz.prog) 235 [.own a g,.v (.int .i64 x)] st (some d)=some { dst:=some d,val:=.own d (st.aQ d),dP:=some (a,g,none),new:=some (d,[.row 3 1 M.length (aH M)])}:=by
 have one:∀(st:St) (d a g:Nat) (L:List Int),o=some L→st.heap a g=some (.row 3 1 L.length (aH L))→eQ (aB Tryz.prog) 235 [.own a g,.v (.int .i64 x)] st (some d)=La (aB Tryz.prog) 235 (some [ov aH o,.v (.int .i64 x)]) a g st (some d):=by
  rintro st d a g L rfl hh
  rw[It (s:=a) (k:=g) rfl (by intro y hy;simp only[List.mem_cons,List.not_mem_nil,or_false] at hy;rcases hy with rfl|rfl;exact .inr (.inl ⟨a,g,rfl⟩);exact .inl (.v _)),
   List.map_cons,List.map_cons,List.map_nil,Iu hh,Qh,bR,bR,gU]
  rfl
 obtain⟨r,hr,h⟩:=aOX o hn x
 rcases h with rfl|⟨M,rfl,hM⟩
 ·refine .inl ⟨fun st d=>Gz (bA (bE o) (.v _)) hr (bE o),fun st d a g L ho hh=>?_⟩
  rw[one st d a g L ho hh];subst ho;exact DR hr (bE _)
 ·refine .inr ⟨M,hM,fun st d=>L4 (bA (bE o) (.v _)) hr,fun st d a g L ho hh=>?_⟩
  rw[one st d a g L ho hh];exact aBw hr (p8 M)
theorem aKn (x:fQ) (V W:Option (List Int)) (hV:x.first.dX=ov aH V) (hW:x.second.dX=ov aH W) (nV:((ol V).length:Int)<99999) (nW:((ol W).length:Int)<99999) :
 ∃r,aB Tryz.prog 221 [.agg (bT x)]=some r∧∃o:Option (List Int),((ol o).length:Int)≤(ol V).length∧(r=ov aH o∨∃L,o=some L∧r=.uniq 3 1 L.length (aH L)):=by
 have f1:Flat x.first.dX:=by rw[hV];exact bE V
 have f2:Flat x.second.dX:=by rw[hW];exact bE W
 rw[cL Tryz.func221 rfl aKo rfl];simp only[Z8,seval];refine cJ (fun m st=>∃k:Nat,(st.env 1=.ptr 1 0 0∧st.heap 1 0=some (.cells (bT x))∧st.env 4=.v (.int .i64 k))∧(∃o:Option (List Int),(ol o).length≤k∧(st.env 3=ov aH o∨∃g L,o=some L∧st.env 3=.own 30 g∧g<st.aQ 30∧st.heap 30 g=some (.row 3 1 L.length (aH L))))∧k≤(ol V).length∧m=(ol V).length-k)
  (fun e st=>e=.exit 0∧∃o:Option (List Int),(ol o).length≤(ol V).length∧(st.env 3=ov aH o∨∃g L,o=some L∧st.env 3=.own 30 g∧st.heap 30 g=some (.row 3 1 L.length (aH L)))) (ol V).length ?step ?start ?rest
 case step =>
  rintro m st ⟨k,hI,⟨o,ho,h3⟩,hk,hm⟩
  by_cases aZ:(k:Int)<(ol V).length
  ·have q0:(0:Int)≤k:=by omega
   have hw:IntKind.i64.wrap ((k:Int)+1)=((k+1:Nat):Int):=by rw[pV _ (by omega) (by omega)];omega
   have L5:=aBs W (by omega) (gx (0:Int) (ol V) (k:Int))
   by_cases h1:gx (0:Int) (ol V) (k:Int)∈ol W
   ·have Sf:=eq_true h1
    rcases aKm o (by omega) (gx (0:Int) (ol V) (k:Int)) with ⟨ea,eb⟩|⟨M,hM,ea,eb⟩
    ·rcases h3 with h3|⟨g,L,hL,h3,hg,hh⟩
     ·apply oN ((ol V).length-(k+1))
      ·simp only[Z8,seval,hI,h3,aZ,q0,hV,hW,L5,Sf,ea,hw];rfl
      ·exact⟨k+1,by simp only[E8,seval,hI],⟨o,by omega,.inl (by simp only[E8,seval])⟩,by omega,rfl⟩
     ·have L6:=fun st d a g=>eb st d a g L hL
      have ho':(ol (some L)).length≤k:=by rw[← hL];exact ho
      apply oN ((ol V).length-(k+1))
      ·simp only[Z8,seval,hI,h3,hh,aZ,q0,hV,hW,L5,Sf,L6,hw];rfl
      ·exact⟨k+1,by simp only[E8,seval,hI],⟨some L,by omega,.inl (by simp only[E8,seval])⟩,by omega,rfl⟩
    ·rcases h3 with h3|⟨g,L,hL,h3,hg,hh⟩
     ·apply oN ((ol V).length-(k+1))
      ·simp only[Z8,seval,hI,h3,aZ,q0,hV,hW,L5,Sf,ea,hw];rfl
      ·exact⟨k+1,by simp only[E8,seval,hI],⟨some M,by show M.length≤_;omega,.inr ⟨_,M,rfl,by simp only[E8,seval]<;>rfl,by simp only[E8,seval]<;>omega,by simp only[E8,seval]<;>rfl⟩⟩,by omega,rfl⟩
     ·have L6:=fun st d a g=>eb st d a g L hL
      have uR:(g=st.aQ 30)=False:=eq_false (by omega)
      apply oN ((ol V).length-(k+1))
      ·simp only[Z8,seval,hI,h3,hh,uR,aZ,q0,hV,hW,L5,Sf,L6,hw];rfl
      ·exact⟨k+1,by simp only[E8,seval,hI],⟨some M,by show M.length≤_;omega,.inr ⟨_,M,rfl,by simp only[E8,seval]<;>rfl,by simp only[E8,seval]<;>omega,by simp only[E8,seval]<;>rfl⟩⟩,by omega,rfl⟩
   ·have Sf:=eq_false h1
    have h3':st.env 3=ov aH o∨∃g L,o=some L∧st.env 3=.own 30 g∧g<st.aQ 30∧st.heap 30 g=some (.row 3 1 L.length (aH L)):=h3
    apply oN ((ol V).length-(k+1))
    ·simp only[Z8,seval,hI,aZ,q0,hV,hW,L5,Sf,hw];rfl
    ·exact⟨k+1,by simp only[E8,seval,hI],⟨o,by omega,by simpa only[E8,seval] using h3'⟩,by omega,rfl⟩
  ·have h3':st.env 3=ov aH o∨∃g L,o=some L∧st.env 3=.own 30 g∧st.heap 30 g=some (.row 3 1 L.length (aH L)):=h3.imp id fun ⟨g,L,a,b,_,c⟩=>⟨g,L,a,b,c⟩
   apply oT (.exit 0)
   ·simp only[Z8,seval,hI,aZ,hV];rfl
   ·exact⟨rfl,o,by omega,by simpa only[E8,seval] using h3'⟩
 case start=>exact⟨0,by simp only[E8,seval]<;>rfl,⟨none,by simp[ol],.inl (by simp only[E8,seval]<;>rfl)⟩,by omega,by omega⟩
 case rest =>
  rintro e st ⟨rfl,o,ho,h3⟩
  rcases h3 with h3|⟨g,L,hL,h3,hh⟩
  ·simp only[Z8,seval,h3];exact⟨_,bP rfl (by simp only[E8,seval,h3]<;>rfl) (bE o),o,by omega,.inl rfl⟩
  ·simp only[Z8,seval,h3];exact⟨_,sU rfl (by simp only[E8,seval,h3]<;>rfl) (by simp only[E8,seval,hh]<;>rfl) (gB _),o,by omega,.inr ⟨L,hL,rfl⟩⟩
theorem aKp {o:Option (List Int)} {L:List Int} (h:(ol o).length≤L.length):IntKind.i64.wrap ((L.length:Int)-((ol o).length:Int))≠0→L≠[]:=by
 rintro hn rfl
 have h0:(ol o).length=0:=by simpa using h
 rw[h0] at hn;exact hn (by decide)
theorem aO8 (o V:Option (List Int)) (no:((ol o).length:Int)<900000) (nV:((ol V).length:Int)<99999) :
 ∃r,aB Tryz.prog 220 [ov aH o,ov aH V]=some r∧∃(L:List Int) (n:Int),r=.eE [ov aH (some L),.v (.int .i64 n)]∧L.length≤(ol o).length+(ol V).length∧(n≠0→L≠[]):=by
 rw[cL Tryz.func220 rfl aKq (by cases o<;>cases V<;>rfl)]
 have no':((ol o).length:Int)<1000000:=by omega
 simp only[Z8,seval,Nl _ no'];refine cJ (fun m st=>∃k:Nat,(st.env 0=ov aH o∧st.env 1=ov aH V∧st.env 7=.v (.int .i64 k))∧(∃L:List Int,((ol o).length≤L.length∧L.length≤(ol o).length+k)∧(st.env 6=ov aH (some L)∨(∃g,st.env 6=.own 21 g∧g<st.aQ 21∧st.heap 21 g=some (.row 3 1 L.length (aH L)))∨(st.env 6=.own 9 0∧st.heap 9 0=some (.row 3 1 L.length (aH L)))))∧k≤(ol V).length∧m=(ol V).length-k)
  (fun e st=>e=.exit 0∧(st.env 0=ov aH o)∧∃L:List Int,((ol o).length≤L.length∧L.length≤(ol o).length+(ol V).length)∧(st.env 6=ov aH (some L)∨∃a g,st.env 6=.own a g∧st.heap a g=some (.row 3 1 L.length (aH L)))) (ol V).length ?step ?start ?rest
 case step =>
  rintro m st ⟨k,hI,⟨L,hL,h3⟩,hk,hm⟩
  by_cases aZ:(k:Int)<(ol V).length
  ·have q0:(0:Int)≤k:=by omega
   have hw:IntKind.i64.wrap ((k:Int)+1)=((k+1:Nat):Int):=by rw[pV _ (by omega) (by omega)];omega
   rcases aKm (some L) (by show (L.length:Int)<_;omega) (gx (0:Int) (ol V) (k:Int)) with ⟨ea,eb⟩|⟨M,hM,ea,eb⟩
   ·rcases h3 with h3|⟨g,h3,hg,hh⟩|⟨h3,hh⟩
    ·apply oN ((ol V).length-(k+1))
     ·simp only[Z8,seval,hI,h3,aZ,q0,ea,hw];rfl
     ·exact⟨k+1,by simp only[E8,seval,hI],⟨L,by omega,.inl (by simp only[E8,seval])⟩,by omega,rfl⟩
    ·have L6:=fun st d a g=>eb st d a g L rfl
     apply oN ((ol V).length-(k+1))
     ·simp only[Z8,seval,hI,h3,hh,aZ,q0,L6,hw];rfl
     ·exact⟨k+1,by simp only[E8,seval,hI],⟨L,by omega,.inl (by simp only[E8,seval])⟩,by omega,rfl⟩
    ·have L6:=fun st d a g=>eb st d a g L rfl
     apply oN ((ol V).length-(k+1))
     ·simp only[Z8,seval,hI,h3,hh,aZ,q0,L6,hw];rfl
     ·exact⟨k+1,by simp only[E8,seval,hI],⟨L,by omega,.inl (by simp only[E8,seval])⟩,by omega,rfl⟩
   ·have hM':M.length=L.length+1:=hM
    rcases h3 with h3|⟨g,h3,hg,hh⟩|⟨h3,hh⟩
    ·apply oN ((ol V).length-(k+1))
     ·simp only[Z8,seval,hI,h3,aZ,q0,ea,hw];rfl
     ·exact⟨k+1,by simp only[E8,seval,hI],⟨M,by omega,.inr (.inl ⟨_,by simp only[E8,seval]<;>rfl,by simp only[E8,seval]<;>omega,by simp only[E8,seval]<;>rfl⟩)⟩,by omega,rfl⟩
    ·have L6:=fun st d a g=>eb st d a g L rfl
     have uR:(g=st.aQ 21)=False:=eq_false (by omega)
     apply oN ((ol V).length-(k+1))
     ·simp only[Z8,seval,hI,h3,hh,uR,aZ,q0,L6,hw];rfl
     ·exact⟨k+1,by simp only[E8,seval,hI],⟨M,by omega,.inr (.inl ⟨_,by simp only[E8,seval]<;>rfl,by simp only[E8,seval]<;>omega,by simp only[E8,seval]<;>rfl⟩)⟩,by omega,rfl⟩
    ·have L6:=fun st d a g=>eb st d a g L rfl
     apply oN ((ol V).length-(k+1))
     ·simp only[Z8,seval,hI,h3,hh,aZ,q0,L6,hw];rfl
     ·exact⟨k+1,by simp only[E8,seval,hI],⟨M,by omega,.inr (.inl ⟨_,by simp only[E8,seval]<;>rfl,by simp only[E8,seval]<;>omega,by simp only[E8,seval]<;>rfl⟩)⟩,by omega,rfl⟩
  ·have h3':st.env 6=ov aH (some L)∨∃a g,st.env 6=.own a g∧st.heap a g=some (.row 3 1 L.length (aH L)):=by
    rcases h3 with h3|⟨g,h3,hg,hh⟩|⟨h3,hh⟩
    ·exact .inl h3
    ·exact .inr ⟨21,g,h3,hh⟩
    ·exact .inr ⟨9,0,h3,hh⟩
   apply oT (.exit 0)
   ·simp only[Z8,seval,hI,aZ];rfl
   ·exact⟨rfl,by simp only[E8,seval,hI],L,by omega,by simpa only[E8,seval] using h3'⟩
 case start=>exact⟨0,by simp only[E8,seval]<;>rfl,⟨ol o,by omega,.inr (.inr ⟨by simp only[E8,seval],by simp only[E8,seval]⟩)⟩,by omega,by omega⟩
 case rest =>
  rintro e st ⟨rfl,h0,L,hL,h3⟩
  rcases h3 with h3|⟨a,g,h3,hh⟩
  ·simp only[Z8,seval,h3,h0];exact⟨_,dC rfl rfl rfl (by simp only[E8,seval,h3,Ee]<;>rfl) (by simp only[E8,seval,h3,Ee]<;>rfl),L,_,rfl,hL.2,aKp hL.1⟩
  ·simp only[Z8,seval,h3,hh,h0];exact⟨_,dC rfl rfl rfl (by simp only[E8,seval,h3,hh,iZ]<;>rfl) (by simp only[E8,seval,h3,hh,iZ]<;>rfl),L,_,rfl,hL.2,aKp hL.1⟩
theorem aO9 (x:fQ) (V W:Option (List Int)) (hV:x.first.dX=ov aH V) (hW:x.second.dX=ov aH W) (nV:((ol V).length:Int)<99999) (nW:((ol W).length:Int)<99999) (n:Int) :
 ∃r,aB Tryz.prog 219 [.agg (bT x),.v (.int .i64 n)]=some r∧∃e:Int,r=.v (.int .i64 e)∧e≠21:=by
 have f1:Flat x.first.dX:=by rw[hV];exact bE V
 have f2:Flat x.second.dX:=by rw[hW];exact bE W
 have fx:Flat (.agg (bT x)):=(mJ x).2 ⟨f1,f2⟩
 have kV:=kx (c40 V (by omega) n) (bA (bE V) (.v _)) (.v _)
 have kW:=kx (c40 W (by omega) n) (bA (bE W) (.v _)) (.v _)
 obtain⟨ev,AB⟩:∃e,Dy (ol V) n=e:=⟨_,rfl⟩
 obtain⟨ew,hew⟩:∃e,Dy (ol W) n=e:=⟨_,rfl⟩
 rw[AB] at kV;rw[hew] at kW;obtain⟨r1,G8,c,rfl⟩:=aOT x.first x.second f1 f2
 have L7:=kx G8 (bA ((yL _).2 f1) ((yL _).2 f2)) (.v _)
 obtain⟨r2,hr2,o,ho,hro⟩:=aKn x V W hV hW nV nW
 rw[cL Tryz.func219 rfl aKr rfl];by_cases g1:ev=0
 case neg =>
  simp only[Z8,seval,hV,hW,kV,bf g1];exact⟨_,bP rfl (by simp only[E8,seval]<;>rfl) (by first|exact .v _|simp only[eA]),_,rfl,by rw[← AB];exact SN _ _⟩
 by_cases g2:ew=0
 case neg =>
  simp only[Z8,seval,hV,hW,kV,kW,bt g1,bf g2];exact⟨_,bP rfl (by simp only[E8,seval]<;>rfl) (by first|exact .v _|simp only[eA]),_,rfl,by rw[← hew];exact SN _ _⟩
 by_cases g3:x.first.target<x.first.source
 ·simp only[Z8,seval,hV,hW,kV,kW,bt g1,bt g2,g3];exact⟨_,bP rfl (by simp only[E8,seval]<;>rfl) (by first|exact .v _|simp only[eA]),_,rfl,by decide⟩
 by_cases g4:x.second.target<x.second.source
 ·simp only[Z8,seval,hV,hW,kV,kW,bt g1,bt g2,g3,g4];exact⟨_,bP rfl (by simp only[E8,seval]<;>rfl) (by first|exact .v _|simp only[eA]),_,rfl,by decide⟩
 cases c
 ·simp only[Z8,seval,hV,hW,kV,kW,bt g1,bt g2,g3,g4,L7];exact⟨_,bP rfl (by simp only[E8,seval]<;>rfl) (by first|exact .v _|simp only[eA]),_,rfl,by decide⟩
 rcases hro with rfl|⟨L,hL,rfl⟩
 ·have Wm:=kx hr2 (cK fx) (bE o)
  by_cases g5:((ol o).length:Int)=0
  ·simp only[Z8,seval,hV,hW,kV,kW,bt g1,bt g2,g3,g4,L7,Wm,bt g5];exact⟨_,bP rfl (by simp only[E8,seval]<;>rfl) (by first|exact .v _|simp only[eA]),_,rfl,by decide⟩
  ·simp only[Z8,seval,hV,hW,kV,kW,bt g1,bt g2,g3,g4,L7,Wm,bf g5];exact⟨_,bP rfl (by simp only[E8,seval]<;>rfl) (by first|exact .v _|simp only[eA]),_,rfl,by decide⟩
 ·have Wm:∀(st:St) (d:Nat),aN (aB Tryz.prog) 221 [.agg (bT x)] st (some d)=_:=fun st d=>jA (st:=st) (d:=d) (cK fx) hr2
  by_cases g5:(L.length:Int)=0
  ·simp only[Z8,seval,hV,hW,kV,kW,bt g1,bt g2,g3,g4,L7,Wm,bt g5];exact⟨_,bP rfl (by simp only[E8,seval]<;>rfl) (by first|exact .v _|simp only[eA]),_,rfl,by decide⟩
  ·simp only[Z8,seval,hV,hW,kV,kW,bt g1,bt g2,g3,g4,L7,Wm,bf g5];exact⟨_,bP rfl (by simp only[E8,seval]<;>rfl) (by first|exact .v _|simp only[eA]),_,rfl,by decide⟩
theorem aPb {s:aM} {v:SV} {q:Int} (h:GI s v q) (r:RG s v) (x:fQ) (V W:Option (List Int)) (hV:x.first.dX=ov aH V) (hW:x.second.dX=ov aH W) (nV:((ol V).length:Int)≤1000) (nW:((ol W).length:Int)≤1000) (hq:q+1000≤900000) :
 ∃r,aB Tryz.prog 205 [.agg (aA s),.agg (bT x)]=some r∧StN s v (q+1000) r:=by
 have hf:=h.sd.flat
 have oD:=h.sd.fl
 have hz:=Ir
 have f1:Flat x.first.dX:=by rw[hV];exact bE V
 have f2:Flat x.second.dX:=by rw[hW];exact bE W
 have fx:Flat (.agg (bT x)):=(mJ x).2 ⟨f1,f2⟩
 obtain⟨r1,G8,e1,rfl,he1⟩:=aO9 x V W hV hW (by omega) (by omega) (ol v.B).length
 have L9:=kx G8 (bA fx (.v _)) (.v _)
 obtain⟨r2,hr2,o,ho,hro⟩:=aKn x V W hV hW (by omega) (by omega)
 have nq:=h.nQ
 obtain⟨r3,hr3,L,n,rfl,hL,AN⟩:=aO8 v.Q o (by omega) (by omega)
 have fr:Flat (.eE [ov aH (some L),.v (.int .i64 n)]):=.eE _ (bA (bE _) (.v _))
 have k220:∀(st:St) (d:Option Nat),eQ (aB Tryz.prog) 220 [ov aH v.Q,ov aH o] st d=_:=fun st d=>Gz (st:=st) (d:=d) (bA (bE _) (bE _)) hr3 fr
 rw[cL Tryz.func205 rfl aKs rfl];by_cases g1:e1=0
 case neg =>
  simp only[Z8,seval,Wb h.sd,L9,bf g1];exact⟨_,by apply dC;rfl;all_goals simp only[aE,bK,Z8,seval,hz]<;>rfl,gC,e1,rfl,hz,he1,fun h=>absurd h g1⟩
 have hQ:((ol (some L)).length:Int)≤q+1000:=by show (L.length:Int)≤_;omega
 have h':GI { s with eZ:={ s.eZ with gT:=ov aH (some L)} } { v with Q:=some L } (q+1000) :=
  ⟨⟨h.sd.iA,h.sd.dR,rfl,h.sd.early,h.sd.bS,h.sd.tree,h.sd.tables,h.sd.eV,h.sd.tB,h.sd.nB,h.sd.nL,by show ((ol (some L)).length:Int)<1000000;omega,h.sd.nE,h.sd.nO,h.sd.nT,h.sd.nn⟩,h.up,h.To,h.pos,h.nl,h.SQ,h.jK,h.FQ,h.nB,h.nO,h.LN,h.nE,h.RE,h.nT,h.SR,hQ,hq,h.dS⟩
 have LS:=h'.sd.flat
 rcases hro with rfl|⟨M,hM,rfl⟩
 ·have Wm:=kx hr2 (cK fx) (bE o)
  by_cases g2:n=0
  ·simp only[Z8,seval,Wb h.sd,L9,bt g1,h.sd.gT,Wm,k220,dM,bt g2];exact⟨_,by apply dC;rfl;all_goals simp only[aE,bK,Z8,seval,hz]<;>rfl,gC,9,rfl,hz,by decide,fun h=>by cases h⟩
  ·simp only[Z8,seval,Wb h.sd,L9,bt g1,h.sd.gT,Wm,k220,dM,bf g2];exact⟨_,by apply dC;rfl;all_goals simp only[aE,bK,Z8,seval,LS]<;>rfl,_,0,rfl,LS,by decide,fun _=>⟨_,h',⟨r.now,r.j,r.f,r.nd,r.or,r.rt,r.fe,r.ds,r.tb,⟨fun e=>AN g2 (by injection e),r.ne.e,r.ne.o,r.ne.t,r.ne.ea,r.ne.tb⟩⟩,rfl,rfl⟩⟩
 ·have Wm:∀(st:St) (d:Nat),aN (aB Tryz.prog) 221 [.agg (bT x)] st (some d)=_:=fun st d=>jA (st:=st) (d:=d) (cK fx) hr2
  have k220':∀(st:St) (a g:Nat) (d:Option Nat),st.heap a g=some (.row 3 1 M.length (aH M))→eQ (aB Tryz.prog) 220 [ov aH v.Q,.own a g] st d=some { dst:=d,val:=.eE [ov aH (some L),.v (.int .i64 n)],dP:=some (a,g,none)}:=by
   intro st a g d hh;rw[It (s:=a) (k:=g) (by rw[List.flatMap_cons,xS (bE v.Q)];rfl) (by intro y hy;simp only[List.mem_cons,List.not_mem_nil,or_false] at hy;rcases hy with rfl|rfl;exact .inl (bE _);exact .inr (.inl ⟨a,g,rfl⟩)),
    List.map_cons,List.map_cons,List.map_nil,Ee,Iu hh,bR,bR,gU,← hM]
   exact DR hr3 fr
  by_cases g2:n=0
  ·simp only[Z8,seval,Wb h.sd,L9,bt g1,h.sd.gT,Wm,k220',dM,bt g2];exact⟨_,by apply dC;rfl;all_goals simp only[aE,bK,Z8,seval,hz]<;>rfl,gC,9,rfl,hz,by decide,fun h=>by cases h⟩
  ·simp only[Z8,seval,Wb h.sd,L9,bt g1,h.sd.gT,Wm,k220',dM,bf g2];exact⟨_,by apply dC;rfl;all_goals simp only[aE,bK,Z8,seval,LS]<;>rfl,_,0,rfl,LS,by decide,fun _=>⟨_,h',⟨r.now,r.j,r.f,r.nd,r.or,r.rt,r.fe,r.ds,r.tb,⟨fun e=>AN g2 (by injection e),r.ne.e,r.ne.o,r.ne.t,r.ne.ea,r.ne.tb⟩⟩,rfl,rfl⟩⟩
theorem Wn {l:List Int} {n:Int} (h:Dy l n=0):∀x∈l,0≤x∧x<n:=by
 intro x hx;unfold Dy at h;have gR:l≠[]:=fun e=>by subst e;cases hx
 rw[if_neg gR] at h;by_cases g:Ji (Dx l n) l.length<0
 ·rcases Dv (Dx l n) l.length with ⟨_,hj⟩|⟨k,h1,_,_,h3⟩
  ·obtain⟨j,hj1,rfl⟩:=List.getElem_of_mem hx
   have hb:=hj j hj1
   have e:gx (0:Int) l j=l[j]:=by simp[gx,hj1]
   unfold Dx at hb;rw[e] at hb;omega
  ·omega
 ·rw[if_neg g] at h;split at h<;>omega
theorem FX {s:aM} {v:SV} {a:oY} {V:List Int} (h:(qY s v a V).2=0):Dy V (ol v.B).length=0:=by
 unfold qY at h;by_cases g:Dy V (ol v.B).length≠0
 ·rw[if_pos g] at h;exact h
 ·exact Classical.not_not.1 g
theorem GI.cast {s:aM} {v:SV} {q:Int} (h:GI s v q) (a:oY) (V:List Int):GI (Eb s v a V) { v with L:=some (pC (ol v.L) a.target.aI a.root V).1 } q:=by
 have hl:(pC (ol v.L) a.target.aI a.root V).1.length=(ol v.L).length:=Ch _ _ _ _
 exact⟨⟨h.sd.iA,rfl,h.sd.gT,h.sd.early,h.sd.bS,h.sd.tree,h.sd.tables,h.sd.eV,h.sd.tB,h.sd.nB,by show ((pC (ol v.L) a.target.aI a.root V).1.length:Int)<1000000;rw[hl];exact h.sd.nL,h.sd.nQ,h.sd.nE,h.sd.nO,h.sd.nT,h.sd.nn⟩,h.up,h.To,h.pos,h.nl,h.SQ,h.jK,hl.trans h.FQ,h.nB,h.nO,h.LN,h.nE,h.RE,h.nT,h.SR,h.nQ,h.K0,h.dS⟩
def vS (s:aM) (x:AV):aM:={ s with dZ:={ s.dZ with early:=x }}
theorem SZ {e sz n:Nat} {cs:List AV} (h:¬ ∀c∈cs,Flat c):iX (some (.row e sz n cs))=none:=by
 unfold iX;simp only[if_neg h]
theorem aFs {a:oY} {x g:Nat} (h:a.dX=.own x g) (l:List oY):¬ ∀c∈dO (l++[a]),Flat c:=by
 intro hf;have hm:AV.own x g∈dO (l++[a]):=by
  unfold dO;rw[List.flatMap_append,List.mem_append];refine .inr ?_
  rw[List.flatMap_cons,List.flatMap_nil,List.append_nil];unfold eH;rw[h];simp
 have:=hf _ hm
 cases this
theorem lE {α:Type} {a b:List (Option α)} {x y:List α} (ha:bY a=some x) (hb:bY b=some y):bY (a++b)=some (x++y):=by
 induction a generalizing x with
 | nil=>simp only[gU,Option.some.injEq] at ha;subst ha;simpa using hb
 | cons c a ih =>
   cases c with
   | none=>simp[bY] at ha
   | some c =>
     rw[bR] at ha;simp only[Option.map_eq_some_iff] at ha;obtain⟨z,hz,rfl⟩:=ha
     rw[List.cons_append,bR,ih hz];rfl
theorem Ck {cs:List AV} {f:AV→Option AV} (h:∀c∈cs,f c=some c):bY (cs.map f)=some cs:=by
 induction cs with
 | nil=>rfl
 | cons c cs ih=>rw[List.map_cons,h c (List.mem_cons_self ..),bR,ih fun x hx=>h x (List.mem_cons_of_mem _ hx)];rfl
theorem Wo {st:St} {c:AV} (h:Flat c):dA st c=some c:=by unfold dA;rw[if_pos h]
theorem M0 {st:St} {c:AV} (h:Flat c):Bw st c=some c:=by
 unfold Bw;cases h<;>exact Wo (by constructor;try assumption)
theorem p9 {s:aM} {v:SV} (h:SD s v) (st:St) {E:List oY} (hE:∀x∈E,Flat x.dX) {a:oY} {V:List Int} {x g x' g' n:Nat}
 (hh:st.heap x g=some (.row 87 67 n (dO (E++[{ a with dX:=.own x' g' }])))) (tU:st.heap x' g'=some (.row 3 1 V.length (aH V))) :
 Mh st (.agg (aA (vS s (.own x g))))=some (.agg (aA (vS s (.sl n (dO (E++[{ a with dX:=ov aH (some V)}])))))):=by
 obtain⟨h1,h2,h3,h4,h5,h6,h7⟩:=h.fl
 have fl:∀ {cs:List AV},(∀c∈cs,Flat c)→bY (cs.map (Bw st))=some cs:=fun hc=>Ck fun c m=>M0 (hc c m)
 have fl1:∀ {cs:List AV},(∀c∈cs,Flat c)→bY (cs.map (dA st))=some cs:=fun hc=>Ck fun c m=>Wo (hc c m)
 have hv:dA st (.own x' g')=some (ov aH (some V)):=by rw[bG,tU];exact iZ _ _
 have hatt:bY ((dO (E++[{ a with dX:=.own x' g' }])).map (dA st))=some (dO (E++[{ a with dX:=ov aH (some V)}])):=by
  unfold dO;rw[List.flatMap_append,List.flatMap_append,List.map_append];refine lE (fl1 (uS E hE)) ?_
  simp only[List.flatMap_cons,List.flatMap_nil,List.append_nil];unfold eH;rw[List.map_append,List.map_append,List.map_append];refine lE (fl1 (eM _)) (lE (fl1 (dH _)) (lE (fl1 (cT _)) ?_))
  rw[List.map_cons,List.map_nil,hv];rfl
 have hea:Bw st (.own x g)=some (.sl n (dO (E++[{ a with dX:=ov aH (some V)}]))):=by
  unfold Bw;simp only[hh,hatt];rfl
 unfold Mh;simp only
 have:bY ((aA (vS s (.own x g))).map (Bw st))=some (aA (vS s (.sl n (dO (E++[{ a with dX:=ov aH (some V)}]))))):=by
  unfold vS aA jQ;simp only[List.map_append];refine lE (fl (tD _ h1)) (lE (fl (pZ _ h2 h3)) (lE (fl (kO _)) (lE (lE ?_ (fl (by simpa using h5))) (lE (fl (vP _ h6)) (lE (fl (eM _)) (lE (fl (dH _)) (fl (by simpa using h7))))))))
  rw[List.map_cons,List.map_nil,hea];rfl
 rw[this];rfl
theorem M1 {s:aM} {v:SV} (h:SD s v) (st:St) {E:List oY} {a:oY} {x g x' g' n:Nat} (ha:a.dX=.own x' g')
 (hh:st.heap x g=some (.row 87 67 n (dO (E++[a])))):fV st (.agg (aA (vS s (.own x g))))=none:=by
 have oD:=h.fl
 have hn:=SZ (e:=87) (sz:=67) (n:=n) (aFs ha E)
 unfold vS;simp only[bM,gD,bG,hh,hn,cY,eA,oD,cN,LU]
theorem GI.early {s:aM} {v:SV} {q:Int} (h:GI s v q) (E:Option (List oY)) (hE:∀a∈ol E,Ce a) (hn:((ol E).length:Int)≤s.cFg.lS.pM):GI (vS s (ov dO E)) { v with E:=E } q :=
 ⟨⟨h.sd.iA,h.sd.dR,h.sd.gT,rfl,h.sd.bS,h.sd.tree,h.sd.tables,hE,h.sd.tB,h.sd.nB,h.sd.nL,h.sd.nQ,by have:=h.RE;show ((ol E).length:Int)<1000000;omega,h.sd.nO,h.sd.nT,h.sd.nn⟩,h.up,h.To,h.pos,h.nl,h.SQ,h.jK,h.FQ,h.nB,h.nO,h.LN,hn,h.RE,h.nT,h.SR,h.nQ,h.K0,h.dS⟩
theorem aFt (s:aM) (v:SV) (a:oY) (V:List Int):(qY s v a V).2≠21:=by
 unfold qY;split
 ·exact SN _ _
 repeat (split;simp)
 simp
theorem aPc {s:aM} {v:SV} {q:Int} (h:GI s v q) (r:RG s v) (a:oY) (V:Option (List Int)) (hV:a.dX=ov aH V) (nV:((ol V).length:Int)<99999) :
 ∃r,aB Tryz.prog 204 [.agg (aA s),.agg (eH a)]=some r∧StN s v q r:=by
 have hf:=h.sd.flat
 have oD:=h.sd.fl
 have hz:=Ir
 have fa:Flat (.agg (eH a)):=(qE a).2 (by rw[hV];exact bE V)
 have k39:=kx (c39 h.sd h.up h.sp a V hV (by omega)) (bA hf fa) (.eE _ (bA (.v _) (.v _)))
 rw[cL Tryz.func204 rfl aKt rfl];by_cases g1:(qY s v a (ol V)).2=0
 case neg =>
  simp only[Z8,seval,k39,dM,bf g1];exact⟨_,by apply dC;rfl;all_goals simp only[aE,bK,Z8,seval,hz]<;>rfl,gC,_,rfl,hz,aFt _ _ _ _,fun h=>absurd h g1⟩
 cases g2:(qY s v a (ol V)).1
 ·have hr:∀x∈ol V,0≤x∧x<(ol v.L).length:=by rw[h.FQ];exact Wn (FX g1)
  have h':=h.cast a (ol V)
  have LS:=h'.sd.flat
  have k44:=kx (c44 h.sd a V hV (by omega) hr) (bA hf fa) LS
  simp only[Z8,seval,k39,dM,bt g1,g2,k44];exact⟨_,by apply dC;rfl;all_goals simp only[aE,bK,Z8,seval,LS]<;>rfl,_,0,rfl,LS,by decide,fun _=>⟨_,h',⟨r.now,r.j,r.f,r.nd,r.or,r.rt,r.fe,r.ds,r.tb,⟨r.ne.q,r.ne.e,r.ne.o,r.ne.t,r.ne.ea,r.ne.tb⟩⟩,rfl,rfl⟩⟩
 ·by_cases g3:s.cFg.lS.pM≤((ol v.E).length:Int)
  ·simp only[Z8,seval,k39,dM,bt g1,g2,h.sd.early,g3];exact⟨_,by apply dC;rfl;all_goals simp only[aE,bK,Z8,seval,hz]<;>rfl,gC,11,rfl,hz,by decide,fun h=>by cases h⟩
  ·have hE:∀b∈ol (some (ol v.E++[{ a with dX:=ov aH (some (ol V))}])),Ce b:=by
    intro b hb;rcases List.mem_append.1 (show b∈ol v.E++[{ a with dX:=ov aH (some (ol V))}] from hb) with hb|hb
    ·exact h.sd.eV b hb
    ·rw[List.mem_singleton] at hb;subst hb;exact⟨some (ol V),rfl,by show ((ol V).length:Int)<_;omega⟩
   have hVne:ol V≠[]:=fun e=>by have h0:=FX g1;rw[e] at h0;simp[Dy] at h0
   have hEa:∀b∈ol (some (ol v.E++[{ a with dX:=ov aH (some (ol V))}])),∃W,b.dX=ov aH (some W)∧W≠[]:=by
    intro b hb;rcases List.mem_append.1 (show b∈ol v.E++[{ a with dX:=ov aH (some (ol V))}] from hb) with hb|hb
    ·exact r.ne.ea b hb
    ·rw[List.mem_singleton] at hb;subst hb;exact⟨ol V,rfl,hVne⟩
   have h':=h.early (some (ol v.E++[{ a with dX:=ov aH (some (ol V))}])) hE (by show (((ol v.E++[{ a with dX:=ov aH (some (ol V))}]).length:Nat):Int)≤_;rw[List.length_append,List.length_cons,List.length_nil];omega)
   have LS:=h'.sd.flat
   have nE:=h.sd.nE
   have hEf:∀x∈ol v.E,Flat x.dX:=fun x m=>(h.sd.eV x m).fl
   simp only[Z8,seval,k39,dM,bt g1,g2,h.sd.early,g3,hV,Nl _ (show ((ol V).length:Int)<1000000 by omega),XQ _ nE,Uv _ _ _ _ nE]
   have hlen:(ol v.E++[{ a with dX:=.own 35 0 }]).length=(ol v.E++[{ a with dX:=ov aH (some (ol V))}]).length:=by rw[List.length_append,List.length_append];rfl
   exact⟨_,aKu rfl (by simp only[bK,Z8,seval]<;>rfl) (by simp only[bK,E8,seval]<;>rfl)
    (M1 h.sd _ rfl (by simp only[E8,seval]<;>rfl)) (p9 (x':=35) (g':=0) h.sd _ hEf (by simp only[E8,seval,hlen]<;>rfl) (by simp only[E8,seval]<;>rfl)) (by simp only[Z8,seval]<;>rfl),_,0,rfl,LS,by decide,fun _=>⟨_,h',⟨r.now,r.j,r.f,r.nd,r.or,r.rt,r.fe,r.ds,r.tb,⟨r.ne.q,by simp,r.ne.o,r.ne.t,hEa,r.ne.tb⟩⟩,rfl,rfl⟩⟩
theorem aPe (ns:List Node) (hu:fZ ns) (hr:(nd ns 0).up=-1) (hn:(ns.length:Int)<1000000) (w:List Int) (hw:w.length=ns.length) (b:List Bool) (hb:b.length=ns.length) (i:Int) :
 ∃r,aB Tryz.prog 225 [.agg (cD ⟨ns⟩),.sl w.length (bH w),.sl b.length (mE b),.v (.int .i64 i)]=some r∧∃k:Int,r=.v (.int .i64 k)∧(k=-1∨(i<k∧0≤k∧k<ns.length)):=by
 rw[cL Tryz.func225 rfl aKv rfl];by_cases hc:vO ns i=[]
 ·have kc:=fun st d=>aDT ns hu hr hn i hc st d
  simp only[Z8,seval,kc];refine cJ (fun m st=>st.env 9=.v (.int .i64 (-1))∧st.env 10=.v (.slice none 0 0)∧st.env 11=.v (.int .i64 0)∧m=0) (fun e st=>e=.exit 0∧st.env 9=.v (.int .i64 (-1))) 0 ?step ?start ?rest
  case step =>
   rintro m st ⟨h9,h10,h11,_⟩
   apply oT (.exit 0)
   ·simp only[Z8,seval,h9,h10,h11,Int.lt_irrefl];rfl
   ·exact⟨rfl,by simp only[E8,seval,h9]⟩
  case start=>exact⟨by simp only[E8,seval]<;>rfl,by simp only[E8,seval]<;>rfl,by simp only[E8,seval]<;>rfl,rfl⟩
  case rest =>
   rintro e st ⟨rfl,h9⟩
   simp only[Z8,seval,h9];exact⟨_,bP rfl (by simp only[E8,seval,h9]<;>rfl) (by first|exact .v _|simp only[eA,h9]),-1,rfl,.inl rfl⟩
 have kc:=fun st d=>aI5 ns hu hr hn i hc st d
 have hgt:∀x∈vO ns i,i<x∧0≤x∧x<ns.length:=fun x hx=>FW hu hr hx
 have hin:((vO ns i).length:Int)<1000000:=by
  have h1:(vO ns i).length≤ns.length:=by
   unfold vO;split
   ·simp
   ·exact Uq ns i ns.length
  omega
 obtain⟨l,el⟩:∃l,vO ns i=l:=⟨_,rfl⟩
 rw[el] at kc hgt hin;simp only[Z8,seval,kc];refine cJ (fun m st=>∃(k:Nat) (wP:Int),(st.env 4=.ptr 4 0 0∧st.heap 4 0=some (.cells (cD ⟨ns⟩))∧st.env 1=.sl w.length (bH w)∧st.env 2=.sl b.length (mE b)∧st.env 10=.own 15 0∧st.heap 15 0=some (.row 3 1 l.length (aH l))∧st.env 9=.v (.int .i64 wP)∧st.env 11=.v (.int .i64 k))∧(wP=-1∨(i<wP∧0≤wP∧wP<ns.length))∧k≤l.length∧m=l.length-k)
  (fun e st=>e=.exit 0∧∃wP:Int,st.env 9=.v (.int .i64 wP)∧(wP=-1∨(i<wP∧0≤wP∧wP<ns.length))) l.length ?step ?start ?rest
 case step =>
  rintro m st ⟨k,wP,hI,DS,hk,hm⟩
  by_cases aZ:(k:Int)<l.length
  case neg =>
   apply oT (.exit 0)
   ·simp only[Z8,seval,hI,aZ];rfl
   ·exact⟨rfl,wP,by simp only[E8,seval,hI],DS⟩
  have q0:(0:Int)≤k:=by omega
  have hwr:IntKind.i64.wrap ((k:Int)+1)=((k+1:Nat):Int):=by rw[pV _ (by omega) (by omega)];omega
  have gi:=oS q0 aZ
  obtain⟨c,ec⟩:∃c,it l (k:Int)=c:=⟨_,rfl⟩
  have hc:=hgt c (by rw[← ec];obtain⟨h1,h2⟩:=wK q0 aZ;rw[h2];exact List.getElem_mem h1)
  obtain⟨c0,c1,c2⟩:=hc
  have c3:c<(w.length:Int):=by rw[hw];exact c2
  have c4:c<(b.length:Int):=by rw[hb];exact c2
  cases g1:gx false b c
  ·apply oN (l.length-(k+1))
   ·simp only[Z8,seval,hI,aZ,q0,gi,ec,c1,c3,c4,g1,hwr,iF,iG];rfl
   ·exact⟨k+1,wP,by simp only[E8,seval,hI],DS,by omega,rfl⟩
  by_cases g2:wP<0
  ·apply oN (l.length-(k+1))
   ·simp only[Z8,seval,hI,aZ,q0,gi,ec,c1,c3,c4,g1,g2,hwr,iF,iG];rfl
   ·exact⟨k+1,c,by simp only[E8,seval,hI],.inr ⟨c0,c1,c2⟩,by omega,rfl⟩
  have b1:0≤wP:=by omega
  have b2:wP<ns.length:=by omega
  have b3:wP<(w.length:Int):=by rw[hw];exact b2
  by_cases g3:gx (0:Int) w wP<gx (0:Int) w c
  ·apply oN (l.length-(k+1))
   ·simp only[Z8,seval,hI,aZ,q0,gi,ec,c1,c3,c4,g1,g2,b1,b3,g3,hwr,iF,iG];rfl
   ·exact⟨k+1,c,by simp only[E8,seval,hI],.inr ⟨c0,c1,c2⟩,by omega,rfl⟩
  by_cases g4:gx (0:Int) w c=gx (0:Int) w wP
  case neg =>
   apply oN (l.length-(k+1))
   ·simp only[Z8,seval,hI,aZ,q0,gi,ec,c1,c3,c4,g1,g2,b1,b3,g3,bf g4,hwr,iF,iG];rfl
   ·exact⟨k+1,wP,by simp only[E8,seval,hI],DS,by omega,rfl⟩
  by_cases g5:0<aJu (nd ns c).block.root (nd ns wP).block.root
  ·apply oN (l.length-(k+1))
   ·simp only[Z8,seval,hI,aZ,q0,gi,ec,c1,c2,c3,c4,g1,g2,b1,b2,b3,g3,bt g4,aFh,g5,hwr,iF,iG];rfl
   ·exact⟨k+1,c,by simp only[E8,seval,hI],.inr ⟨c0,c1,c2⟩,by omega,rfl⟩
  ·apply oN (l.length-(k+1))
   ·simp only[Z8,seval,hI,aZ,q0,gi,ec,c1,c2,c3,c4,g1,g2,b1,b2,b3,g3,bt g4,aFh,g5,hwr,iF,iG];rfl
   ·exact⟨k+1,wP,by simp only[E8,seval,hI],DS,by omega,rfl⟩
 case start=>exact⟨0,-1,by simp only[E8,seval]<;>rfl,.inl rfl,by omega,by omega⟩
 case rest =>
  rintro e st ⟨rfl,wP,h9,DS⟩
  simp only[Z8,seval,h9];exact⟨_,bP rfl (by simp only[E8,seval,h9]<;>rfl) (by first|exact .v _|simp only[eA,h9]),wP,rfl,DS⟩
theorem aPf {s:aM} {v:SV} {q:Int} (h:GI s v q):∃r,aB Tryz.prog 208 [.agg (aA s)]=some r∧∃k:Int,r=.v (.int .i64 k)∧0≤k∧k<v.ns.length:=by
 have hf:=h.sd.flat
 have hn:=h.sd.nn
 obtain⟨r1,e1,w,rfl,hw⟩:=aO3 h
 obtain⟨r2,e2,b,rfl,hb⟩:=aO7 h
 have k223:∀(st:St) (d:Nat),aN (aB Tryz.prog) 223 [.agg (aA s)] st (some d)=_:=fun st d=>jA (st:=st) (d:=d) (cK hf) e1
 have k224:∀(st:St) (d:Nat),aN (aB Tryz.prog) 224 [.agg (aA s)] st (some d)=_:=fun st d=>jA (st:=st) (d:=d) (cK hf) e2
 have hB:∀i:Int,∃k:Int,aB Tryz.prog 225 [.agg (cD ⟨v.ns⟩),.sl w.length (bH w),.sl b.length (mE b),.v (.int .i64 i)]=some (.v (.int .i64 k))∧(k=-1∨(i<k∧0≤k∧k<v.ns.length)):=fun i=>by
  obtain⟨r,hr,k,rfl,hk⟩:=aPe v.ns h.up h.To hn w hw b hb i
  exact⟨k,hr,hk⟩
 have kB:∀(i:Int) (k:Int),aB Tryz.prog 225 [.agg (cD ⟨v.ns⟩),.sl w.length (bH w),.sl b.length (mE b),.v (.int .i64 i)]=some (.v (.int .i64 k))→∀(st:St) (g1 g2:Nat) (d:Option Nat),st.heap 8 g1=some (.row 23 1 w.length (bH w))→st.heap 10 g2=some (.row 4 1 b.length (mE b)) →
  aN (aB Tryz.prog) 225 [.agg (cD ⟨v.ns⟩),.own 8 g1,.own 10 g2,.v (.int .i64 i)] st d=some { dst:=d,val:=.v (.int .i64 k)}:=by
  intro i k hk st g1 g2 d hh1 tU;rw[nH,List.map_cons,List.map_cons,List.map_cons,List.map_cons,List.map_nil,Is,uQ,hh1,uP,uQ,tU,XR,Qh,bR,bR,bR,bR,gU];exact KO hk
 rw[cL Tryz.func208 rfl aKy rfl];simp only[Z8,seval,k223,k224,h.sd.tree,iY _ _ hn];refine cJ (fun m st=>∃i:Int,(st.env 1=.ptr 1 0 0∧st.heap 1 0=some (.cells (aA s))∧st.env 3=.own 8 0∧st.heap 8 0=some (.row 23 1 w.length (bH w))∧st.env 4=.own 10 0∧st.heap 10 0=some (.row 4 1 b.length (mE b))∧st.env 5=.v (.int .i64 i))∧0≤i∧i<v.ns.length∧m=v.ns.length-i.toNat)
  (fun e st=>e=.ret∧∃i:Int,st.env 2=.v (.int .i64 i)∧0≤i∧i<v.ns.length) (v.ns.length-(aJ v.ns s.aG.dS.root).toNat) ?step ?start ?rest
 case step =>
  rintro m st ⟨i,hI,i0,i1,hm⟩
  obtain⟨k,hk,JX⟩:=hB i
  have kb:=kB i k hk
  by_cases aZ:k<0
  ·apply oT (.ret)
   ·simp only[Z8,seval,hI,h.sd.tree,kb,aZ];rfl
   ·exact⟨rfl,i,by simp only[E8,seval],i0,i1⟩
  ·apply oN (v.ns.length-k.toNat)
   ·simp only[Z8,seval,hI,h.sd.tree,kb,aZ];rfl
   ·exact⟨k,by simp only[E8,seval,hI],by omega,by omega,rfl⟩
 case start=>exact⟨_,by simp only[E8,seval]<;>rfl,h.dS,(dJ _ _).2,rfl⟩
 case rest =>
  rintro e st ⟨rfl,i,h2,i0,i1⟩
  simp only[Z8,seval];exact⟨_,bP rfl (by simp only[E8,seval,h2]<;>rfl) (by first|exact .v _|simp only[eA,h2]),i,rfl,i0,i1⟩
theorem TA (r:Command):Flat (.agg (eI r))=True:=eq_true (.agg _ (rM r))
theorem aPg {s:aM} {v:SV} {q:Int} (h:GI s v q):∃r,aB Tryz.prog 199 [.agg (aA s)]=some r∧∃c:Command,r=.agg (eI c):=by
 have hf:=h.sd.flat
 obtain⟨r1,e1,k,rfl,k0,k1⟩:=aPf h
 have k208:=kx e1 (cK hf) (.v _)
 obtain⟨r2,e2,r,rfl⟩:=aOU h.sd
 have k209:=kx e2 (cK hf) (pY r)
 rw[cL Tryz.func199 rfl aKz rfl];simp only[Z8,seval,k208,k209,h.sd.tree,k0,k1];exact⟨_,fI rfl (by simp only[E8,seval,TA]<;>rfl) (by simp only[Z8,seval,TA]<;>rfl) (by simp only[eA,and_self,TA]),_,rfl⟩
theorem aKA (t:State) (hf:Flat (.agg (aP t))) {v:SV} {q:Int} (h:GI t.store v q):∃r,aB Tryz.prog 181 [.agg (aP t)]=some r∧∃(b:Bool) (c:Command) (y:AV),r=.eE [.agg (aP { t with Lb:=b,last:=c }),y]∧Flat y:=by
 have XA:=h.sd.flat
 have oD:=(tE t).1 hf
 obtain⟨r1,e1,c,rfl⟩:=aPg h
 have aFv:=kx e1 (cK XA) (.agg _ (rM c))
 have hfc:∀x∈eI c,Flat x:=rM c
 have ex:iX (some (.row 56 96 1 (eI c)))=some (.sl 1 (eI c)):=by
  unfold iX;simp only[if_pos hfc]
 rw[cG Tryz.func181 rfl aKB (by kernel_rfl) rfl]
 have LS:Flat (.agg (aP { t with Lb:=true,last:=c })):=(tE _).2 oD
 cases g1:t.Lb
 ·simp only[ZG,seval,Bool.false_and,Prod.mk.injEq,M3,aFv,g1];exact⟨_,by apply dC;rfl;all_goals simp only[aE,bK,Z8,seval,LS,ex]<;>rfl,true,c,_,rfl,.sl _ _ hfc⟩
 ·by_cases g2:t.last=c
  ·simp only[ZG,seval,Bool.false_and,Prod.mk.injEq,M3,aFv,g1,g2];exact⟨_,by apply dC;rfl;all_goals simp only[aE,bK,Z8,seval,hf]<;>rfl,t.Lb,t.last,_,rfl,.v _⟩
  ·simp only[ZG,seval,Bool.false_and,Prod.mk.injEq,M3,aFv,g1,g2];exact⟨_,by apply dC;rfl;all_goals simp only[aE,bK,Z8,seval,LS,ex]<;>rfl,true,c,_,rfl,.sl _ _ hfc⟩
theorem wrap_u64 (x:Int) (h1:0≤x) (h2:x<18446744073709551616):IntKind.u64.wrap x=x:=by
 unfold IntKind.wrap;simp[IntKind.signed,IntKind.bits]
 omega
theorem aKC (o:Option (List Int)) (hn:((ol o).length:Int)≤1000) (hb:∀x∈ol o,0≤x∧x≤1000):∃a:Int,aB Tryz.prog 175 [ov bH o]=some (.eE [.v (.int .u64 a),.v (.int .i64 0)])∧0≤a∧a≤1000000:=by
 suffices h:∃r,aB Tryz.prog 175 [ov bH o]=some r∧∃a:Int,r=.eE [.v (.int .u64 a),.v (.int .i64 0)]∧0≤a∧a≤1000000 by
  obtain⟨r,h,a,rfl,h1⟩:=h;exact⟨a,h,h1⟩
 have add:∀(a:Int) (k:Nat),0≤a∧a≤1000 * k→k<(ol o).length→AI a (gx (0:Int) (ol o) (k:Int))=(a+gx (0:Int) (ol o) (k:Int),0)∧0≤a+gx (0:Int) (ol o) (k:Int)∧a+gx (0:Int) (ol o) (k:Int)≤1000 * ((k+1:Nat):Int):=by
  intro a k ha hk;have hx:=hb _ (tI (z:=(0:Int)) (show (0:Int)≤k by omega) (show (k:Int)<(ol o).length by omega))
  obtain⟨x,ex⟩:∃x,gx (0:Int) (ol o) (k:Int)=x:=⟨_,rfl⟩
  rw[ex] at hx ⊢;have w1:IntKind.u64.wrap (18446744073709551615-x)=18446744073709551615-x:=wrap_u64 _ (by omega) (by omega)
  have w2:IntKind.u64.wrap (a+x)=a+x:=wrap_u64 _ (by omega) (by omega)
  unfold AI;rw[w1,w2,if_neg (by omega)]
  exact⟨rfl,by omega,by omega⟩
 rw[cL Tryz.func175 rfl aD1 (by cases o<;>rfl)]
 simp only[Z8,seval];refine cJ (fun m st=>∃(k:Nat) (a:Int),(st.env 0=ov bH o∧st.env 4=.v (.int .u64 a)∧st.env 5=.v (.int .i64 k))∧(0≤a∧a≤1000 * k)∧k≤(ol o).length∧m=(ol o).length-k)
  (fun e st=>e=.exit 0∧∃a:Int,st.env 4=.v (.int .u64 a)∧0≤a∧a≤1000000) (ol o).length ?step ?start ?rest
 case step =>
  rintro m st ⟨k,a,hI,ha,hk,hm⟩
  by_cases aZ:(k:Int)<(ol o).length
  ·have q0:(0:Int)≤k:=by omega
   have hw:IntKind.i64.wrap ((k:Int)+1)=((k+1:Nat):Int):=by rw[pV _ (by omega) (by omega)];omega
   obtain⟨h1,h2⟩:=add a k ha (by omega)
   apply oN ((ol o).length-(k+1))
   ·simp only[Z8,seval,hI,aZ,q0,aE3,dM,h1,hw];rfl
   ·exact⟨k+1,_,by simp only[E8,seval,hI]<;>rfl,h2,by omega,rfl⟩
  ·apply oT (.exit 0)
   ·simp only[Z8,seval,hI,aZ];rfl
   ·exact⟨rfl,a,by simp only[E8,seval,hI],by omega⟩
 case start=>exact⟨0,0,by simp only[E8,seval]<;>exact⟨rfl,rfl⟩,by omega,by omega,by omega⟩
 case rest =>
  rintro e st ⟨rfl,a,h,ha⟩
  simp only[Z8,seval,h];exact⟨_,dC rfl rfl rfl (by simp only[E8,seval,h]<;>rfl) (by simp only[E8,seval,h]<;>rfl),_,rfl,ha⟩
theorem aKD (t:Table) (b:Option (List Int)) (ht:t.iA=ov bH b) (hn:((ol b).length:Int)≤1000) (hb:∀x∈ol b,0≤x∧x≤1000):aB Tryz.prog 130 [.agg (bZ t),.v (.int .i64 (ol b).length)]=some (.v (.int .i64 0)):=by
 obtain⟨a,hr,a0,a1⟩:=aKC b hn hb
 have n5:=kx hr (cK (dU b)) (.eE _ (bA (.v _) (.v _)))
 rw[cL Tryz.func130 rfl aD3 rfl];refine jB ?_
 have h3:(4611686018427387904<a)=False:=eq_false (by omega)
 simp only[Z8,seval,ht,bt (rfl:((ol b).length:Int)=(ol b).length),n5,dM,h3];exact⟨_,bP rfl (by simp only[E8,seval]<;>rfl) (by first|exact .v _|simp only[eA]),rfl⟩
theorem aBx:mkRoot 1≠dT:=by decide
structure Fe (c:Config) (b:List Int):Prop where
 iA:c.iA=ov bH (some b)
 nb:1≤b.length∧b.length≤64
 bv:∀x∈b,0≤x∧x≤1000
 jK:1≤c.jK∧c.jK≤64
 bp:c.Gx≤100
 rL:1≤c.lS.rL∧c.lS.rL≤4096
 vQ:0≤c.lS.vQ∧c.lS.vQ≤64
 pM:0≤c.lS.pM∧c.lS.pM≤256
 qH:1≤c.lS.qH∧c.lS.qH≤64
 nK:0≤c.lS.nK∧c.lS.nK≤256
 back:1≤c.lS.qQ∧c.lS.qQ≤1048576
 gen:c.dY=mkRoot 1
 n6:6≤c.lS.rL
theorem aFw (n:Nat):((List.range n).flatMap fun _=>jC gI)=bW (List.replicate n gI):=by
 induction n with
 | zero=>rfl
 | succ n ih=>rw[List.range_succ,List.flatMap_append,ih,List.replicate_succ',bW,bW,List.flatMap_append];simp
theorem LV (t:Table):aR [t]=bZ t:=by simp[aR]
def TB (c:Config):Block:={ fM with root:=c.dY,dS:=⟨0,c.dY⟩,fin:=⟨0,c.dY⟩,dV:=⟨⟨0,c.dY⟩,⟨0,c.dY⟩⟩}
def vT (c:Config) (b:List Int):aM:=⟨c,⟨ov bW (some (List.replicate b.length gI)),.v (.slice none 0 0)⟩,⟨⟨0,c.dY⟩,⟨0,c.dY⟩⟩,Ea,⟨.sl 1 (cF [⟨TB c,-1,1⟩])⟩,0,dT,ov aR (some [⟨⟨0,c.dY⟩,ov bH (some b)⟩])⟩
def wQ (c:Config) (b:List Int):SV:={ B:=some b,L:=some (List.replicate b.length gI),Q:=none,E:=none,O:=none,ns:=[⟨TB c,-1,1⟩],T:=some [⟨⟨0,c.dY⟩,ov bH (some b)⟩]}
theorem GI.new {c:Config} {b:List Int} (h:Fe c b):GI (vT c b) (wQ c b) 0:=by
 have hb:=h.nb
 refine⟨⟨h.iA,rfl,rfl,rfl,rfl,rfl,rfl, ?_, ?_, ?_, ?_, ?_, ?_, ?_, ?_, ?_⟩, ?_, ?_, ?_, ?_,h.rL.2,h.jK, ?_, ?_, ?_,h.vQ.2, ?_,h.pM.2, ?_,h.qH.2, ?_,by omega, ?_⟩
 ·intro a ha;cases ha
 ·intro t ht;rw[show t=⟨⟨0,c.dY⟩,ov bH (some b)⟩ by simpa [wQ,ol] using ht]
  exact⟨some b,rfl,by show (b.length:Int)<_;omega⟩
 ·show (b.length:Int)<_;omega
 ·show ((List.replicate b.length gI).length:Int)<_;rw[List.length_replicate];omega
 ·show ((0:Nat):Int)<_;omega
 ·show ((0:Nat):Int)<_;omega
 ·show ((0:Nat):Int)<_;omega
 ·show ((1:Nat):Int)<_;omega
 ·show ((1:Nat):Int)<_;omega
 ·intro i h0 h1;have:i<((1:Nat):Int):=h1;omega
 ·rfl
 ·show 0<1;omega
 ·show ((1:Nat):Int)≤c.lS.rL;have:=h.rL.1;omega
 ·show (List.replicate b.length gI).length=b.length;rw[List.length_replicate]
 ·show (b.length:Int)≤1024;omega
 ·show ((0:Nat):Int)≤c.lS.vQ;have:=h.vQ.1;omega
 ·show ((0:Nat):Int)≤c.lS.pM;have:=h.pM.1;omega
 ·show ((1:Nat):Int)≤c.lS.qH;have:=h.qH.1;omega
 ·show ((0:Nat):Int)≤0;omega
 ·exact Ni (j:=0) (by omega) (by show (0:Int)<((1:Nat):Int);omega) rfl
theorem aKE {c:Config} {b:List Int} (h:Fe c b):aB Tryz.prog 102 [.agg (bQ c)]=some (.eE [.agg (aA (vT c b)),.v (.int .i64 0)]):=by
 obtain⟨AO,hnb,hbv,hspe,hbp,h1,h2,h3,h4,h5,h6,hg0,_⟩:=h
 have hg:c.dY≠dT:=by rw[hg0];exact aBx
 have f1:=hspe.1;have f2:¬64<c.jK:=by omega
 have f1':¬c.jK<1:=by omega
 have f3:¬100<c.Gx:=by omega
 have f4:¬(1024:Int)<(b.length:Int):=by omega
 have f6:¬c.lS.qQ<1:=by omega
 have f7:¬1048576<c.lS.qQ:=by omega
 have n1:((ol (some b)).length:Int)<1000000:=by show (b.length:Int)<_;omega
 have hb0:(0:Int)≤(b.length:Int):=by omega
 have RM:(b.length:Int) * 48≤140737488355328:=by omega
 have WY:(b.length:Int)≤(maxLen:Int):=by unfold maxLen;omega
 have zE:iB.aI=0:=rfl
 have kt:∀(st:St) (d:Option Nat),aN (aB Tryz.prog) 130 [.agg (bZ ⟨⟨0,c.dY⟩,ov bH (some b)⟩),.v (.int .i64 b.length)] st d=some { dst:=d,val:=.v (.int .i64 0)}:=kx (aKD ⟨⟨0,c.dY⟩,ov bH (some b)⟩ (some b) rfl (by show (b.length:Int)≤_;omega) hbv) (bA ((jX ⟨⟨0,c.dY⟩,ov bH (some b)⟩).2 (dU (some b))) (.v _)) (.v _)
 have aFl:=kx (aJK ⟨⟨0,c.dY⟩,ov bH (some b)⟩ (some b) rfl n1) (cK ((jX ⟨⟨0,c.dY⟩,ov bH (some b)⟩).2 (dU (some b)))) ((jX ⟨⟨0,c.dY⟩,ov bH (some b)⟩).2 (dU (some b)))
 rw[cL Tryz.func102 rfl aKF rfl];refine jB ?_
 simp only[Z8,seval,iF,iG,AO,f1',f2,f3,f4,f6,f7,aNM,h1.1,h1.2,h2.1,h2.2,h3.1,h3.2,h4.1,h4.2,h5.1,h5.2,hg,zE,kt,hb0,RM,WY,Int.toNat_natCast,aFw,aFl,aNC,Dz b (show (b.length:Int)<1000000 by omega)]
 have exT:=Nf 1 [⟨⟨0,c.dY⟩,ov bH (some b)⟩] (by intro y hy;rw[List.mem_singleton] at hy;subst hy;exact dU (some b))
 rw[LV] at exT;have hcc:∀x,x=c.iA→({ lS:=c.lS,jK:=c.jK,Gx:=c.Gx,AK:=c.AK,dY:=c.dY,iA:=x }:Config)=c:=by rintro _ rfl;rfl
 have zs:gC.eZ.gT=.v (.slice none 0 0)∧gC.dZ.early=.v (.slice none 0 0)∧gC.dZ.bS=.v (.slice none 0 0):=⟨rfl,rfl,rfl⟩
 exact⟨_,by apply dC;rfl;all_goals simp only[aE,bK,Z8,seval,bM,gD,bG,uP,Nh,exT,cY,eA,zs]<;>rfl,by unfold vT;simp only[ov,List.length_replicate,LV,hcc (.sl b.length (bH b)) AO.symm]<;>rfl⟩
end Go.Ab.Tryz
section
namespace Go.Ab
open Classical
theorem Nm [Ext] (P:Program) {f:Nat} {fn:Func} {c:Code} (hf:P.funcs[f]? = some fn) (hb:fn.body=some c) (rE:bI fn=true) (e sz m:Nat) (cs xs:List AV) (hx:Ext.ext f (.uniq e sz m cs :: xs)=none) :
 aB P f (.uniq e sz m cs :: xs)=cH (yG P c (St.sJ e sz m cs xs)) (M4 P fn):=by
 simp only[bI,hb,Bool.and_eq_true,Bool.not_eq_true'] at rE;rw[LW P hf hb rE.1 e sz m cs xs hx,rE.2];rfl
theorem XS [Ext] (P:Program) {f:Nat} {fn:Func} {c:Code} (hf:P.funcs[f]? = some fn) (hb:fn.body=some c) (rE:sY fn=true) (hc:mZ c=true) (e sz m:Nat) (cs xs:List AV) (hx:Ext.ext f (.uniq e sz m cs :: xs)=none) :
 aB P f (.uniq e sz m cs :: xs)=cH (vU P true c (St.sJ e sz m cs xs)) (M4 P fn):=by
 rw[LW P hf hb rE e sz m cs xs hx,hc]
theorem yR [Ext] {P:Program} {fn:Func} {st:St} {e:Ex} {t s g ee sz n:Nat} {cs:List AV} (he:e=.ret∨e=.normal) (hr:fn.results.toList=[.tmp t]) (h1:st.env t=.own s g) (h2:st.heap s g=some (.row ee sz n cs)) (hm:∀c∈cs,gE c) :
 M4 P fn (e,st)=some (.uniq ee sz n cs):=M5 he hr (by unfold lB;simp only[h1]) h2 hm
end Go.Ab
namespace Go.Ab.Tryz
open Classical Go.Proofs Go.Ab
theorem yS (l:List Int):∀c∈jU l,gE c:=by
 intro c hc;unfold jU at hc;obtain⟨x,_,hx⟩:=List.mem_flatMap.1 hc
 rw[cU8,List.mem_singleton] at hx;subst hx;exact .v _
def Wr (F:Nat) (rest:List AV) (K:Int):Prop:=∀l:List Int,(l.length:Int)+K<900000→∃m:List Int,aB Tryz.prog F (.uniq 5 1 l.length (jU l) :: rest)=some (.uniq 5 1 m.length (jU m))∧(m.length:Int)≤l.length+K
def WrN (F:Nat) (rest:List AV) (K:Int):Prop:=∃m:List Int,aB Tryz.prog F (.v (.slice none 0 0) :: rest)=some (.uniq 5 1 m.length (jU m))∧(m.length:Int)≤K
theorem Wr.at {F:Nat} {rest:List AV} {K:Int} (h:Wr F rest K) (hr:∀x∈rest,Flat x) {l:List Int} (hl:(l.length:Int)+K<900000) :
 ∃m:List Int,(∀s k d c,mvE (aB Tryz.prog) F rest s k d c (some (.row 5 1 l.length (jU l)))=some { dst:=some d,val:=.own d c,dP:=some (s,k,none),new:=some (d,[.row 5 1 m.length (jU m)])})∧(m.length:Int)≤l.length+K:=by
 obtain⟨m,h1,h2⟩:=h l hl
 exact⟨m,fun s k d c=>M6 (uT l) hr h1,h2⟩
theorem WrN.at {F:Nat} {rest:List AV} {K:Int} (h:WrN F rest K) (hr:∀x∈rest,Flat x) :
 ∃m:List Int,(∀(st:St) (d:Nat),lA (aB Tryz.prog) F (.v (.slice none 0 0) :: rest) st (some d)=some { dst:=some d,val:=.own d (st.aQ d),new:=some (d,[.row 5 1 m.length (jU m)])})∧(m.length:Int)≤K:=by
 obtain⟨m,h1,h2⟩:=h
 exact⟨m,fun st d=>TC hr h1,h2⟩
def tb:Nat→Int
 | 0=>18446744073709551616
 | k+1=>tb k / 128+1
theorem tb9:tb 9=3:=by decide
theorem XT (x:Int):x.fdiv (2 ^ min 7 IntKind.u64.bits)=x / 128:=by
 show x.fdiv 128=x / 128
 exact Int.fdiv_eq_ediv_of_nonneg x (by decide)
theorem aBy (l:List Int):jU l=l.map fun x=>.v (.int .u8 x):=by
 induction l with
 | nil=>rfl
 | cons a l ih=>simp only[jU,List.flatMap_cons,List.map_cons,cU8] at *;rw[ih];rfl
theorem LX (r:bX):aY r=jU r.toList:=by rw[aBy];rfl
theorem Uw {P:Program} {T:Nat} {k:IntKind} {a b:Int}:gA P .or T (.v (.int k a)) (.v (.int k b))=some (.v (.int k (k.wrap (BitVec.ofInt k.bits a ||| BitVec.ofInt k.bits b).toNat))):=by simp[gA]
theorem aKH:dQ Tryz.prog 27=none:=by kernel_rfl
theorem aKI (r:bX) (st:St) (s g o:Nat) (h:st.heap s g=some (.cells (aY r))):dL Tryz.prog st 27 (.ptr s g o) none none=some (.vw s g o 32):=by
 simp only[dL,aKH,aFg,h]
theorem M7 (st:St) (s g:Nat) (r:bX) (h:st.heap s g=some (.cells (aY r))):aT st (.vw s g 0 32)=some (r.toList.length,jU r.toList):=by
 have hl:(aY r).length=32:=aO r
 simp only[aT,h,Nat.zero_add,List.drop_zero];rw[if_pos (by omega),List.take_of_length_le (by omega),LX]
 simp
theorem Wp (n:Int) (hn:Rg n):Wr 215 [.v (.int .u64 n)] 10:=by
 intro l hl;suffices h:∃r,aB Tryz.prog 215 [.uniq 5 1 l.length (jU l),.v (.int .u64 n)]=some r∧∃m:List Int,r=.uniq 5 1 m.length (jU m)∧(m.length:Int)≤l.length+10 by
  obtain⟨r,h,m,rfl,h2⟩:=h;exact⟨m,h,h2⟩
 rw[Nm Tryz.prog Tryz.func215 rfl aEe _ _ _ _ _ (tK _ _)];simp only[Z8,seval,lU,nM,lV,lW,nN];refine cJ (fun m st=>∃(x:Int) (k:Nat) (l':List Int) (a g:Nat),(st.env 0=.own a g∧st.heap a g=some (.row 5 1 l'.length (jU l'))∧st.env 1=.v (.int .u64 x))∧((a=0∧g=0)∨(a=13∧g<st.aQ 13))∧l'.length=l.length+k∧0≤x∧x<tb k∧k≤9∧m=x.toNat)
  (fun e st=>e=.exit 0∧∃(x:Int) (l':List Int) (a g:Nat),(st.env 0=.own a g∧st.heap a g=some (.row 5 1 l'.length (jU l'))∧st.env 1=.v (.int .u64 x))∧a≠19∧(l'.length:Int)≤l.length+9) n.toNat ?step ?start ?rest
 case step =>
  rintro m st ⟨x,k,l',a,g,hI,FY,Fa,x0,hx,hk,hm⟩
  by_cases aZ:127<x
  ·have hk8:k≤8:=by
    rcases Nat.lt_or_ge k 9 with h|h
    ·omega
    ·have:k=9:=by omega
     subst this;rw[tb9] at hx;omega
   have Pz:(l'.length:Int)<1000000:=by omega
   have Iv:x / 128<tb (k+1):=by show x / 128<tb k / 128+1;omega
   have ll:∀b:Int,(l'++[b]).length=l.length+(k+1):=fun b=>by rw[List.length_append,List.length_cons,List.length_nil];omega
   rcases FY with ⟨rfl,rfl⟩|⟨rfl,hg⟩
   ·apply oN ((x / 128).toNat)
    ·simp only[Z8,seval,hI,aZ,Uw,Lc _ _ _ _ Pz,XT];rfl
    ·exact⟨x / 128,k+1,_,13,_,by and_intros<;>(simp only[E8,seval]<;>rfl),.inr ⟨rfl,by simp only[E8,seval]<;>omega⟩,ll _,by omega,Iv,by omega,rfl⟩
   ·have uR:(g=st.aQ 13)=False:=eq_false (by omega)
    apply oN ((x / 128).toNat)
    ·simp only[Z8,seval,hI,aZ,uR,Uw,Lc _ _ _ _ Pz,XT];rfl
    ·exact⟨x / 128,k+1,_,13,_,by and_intros<;>(simp only[E8,seval]<;>rfl),.inr ⟨rfl,by simp only[E8,seval]<;>omega⟩,ll _,by omega,Iv,by omega,rfl⟩
  ·apply oT (.exit 0)
   ·simp only[Z8,seval,hI,aZ];rfl
   ·exact⟨rfl,x,l',a,g,by simp only[E8,seval,hI],by omega,by omega⟩
 case start=>exact⟨n,0,l,0,0,by simp only[E8,seval,lU,nM,lV,lW,nN]<;>rfl,.inl ⟨rfl,rfl⟩,rfl,hn.1,hn.2,by omega,rfl⟩
 case rest =>
  rintro e st ⟨rfl,x,l',a,g,hI,ha,Fa⟩
  have ha':(a=19)=False:=eq_false ha
  have Pz:(l'.length:Int)<1000000:=by omega
  simp only[Z8,seval,hI,ha',Lc _ _ _ _ Pz];exact⟨_,yR (.inl rfl) rfl (by simp only[E8,seval]<;>rfl) (by simp only[E8,seval]<;>rfl) (yS _),_,rfl,by rw[List.length_append,List.length_cons,List.length_nil];omega⟩
theorem r7 (n:Int) (hn:Rg n):WrN 215 [.v (.int .u64 n)] 10:=by
 suffices h:∃r,aB Tryz.prog 215 [.v (.slice none 0 0),.v (.int .u64 n)]=some r∧∃m:List Int,r=.uniq 5 1 m.length (jU m)∧(m.length:Int)≤10 by
  obtain⟨r,h,m,rfl,h2⟩:=h;exact⟨m,h,h2⟩
 rw[cL Tryz.func215 rfl aEe rfl];simp only[Z8,seval];refine cJ (fun m st=>∃(x:Int) (k:Nat),st.env 1=.v (.int .u64 x)∧((k=0∧st.env 0=.v (.slice none 0 0))∨∃(l':List Int) (g:Nat),(st.env 0=.own 13 g∧st.heap 13 g=some (.row 5 1 l'.length (jU l')))∧g<st.aQ 13∧l'.length=k)∧0≤x∧x<tb k∧k≤9∧m=x.toNat)
  (fun e st=>e=.exit 0∧∃(x:Int),st.env 1=.v (.int .u64 x)∧(st.env 0=.v (.slice none 0 0)∨∃(l':List Int) (g:Nat),(st.env 0=.own 13 g∧st.heap 13 g=some (.row 5 1 l'.length (jU l')))∧(l'.length:Int)≤9)) n.toNat ?step ?start ?rest
 case step =>
  rintro m st ⟨x,k,hI,h0,x0,hx,hk,hm⟩
  by_cases aZ:127<x
  ·have hk8:k≤8:=by
    rcases Nat.lt_or_ge k 9 with h|h
    ·omega
    ·have:k=9:=by omega
     subst this;rw[tb9] at hx;omega
   have Iv:x / 128<tb (k+1):=by show x / 128<tb k / 128+1;omega
   rcases h0 with ⟨vM,h0⟩|⟨l',g,h0,hg,Fa⟩
   ·have ll:∀b:Int,([b]:List Int).length=k+1:=fun b=>by rw[List.length_cons,List.length_nil];omega
    apply oN ((x / 128).toNat)
    ·simp only[Z8,seval,hI,h0,aZ,Uw,TE,XT];rfl
    ·exact⟨x / 128,k+1,by simp only[E8,seval],.inr ⟨_,_,⟨by simp only[E8,seval]<;>rfl,by simp only[E8,seval]<;>rfl⟩,by simp only[E8,seval]<;>omega,ll _⟩,by omega,Iv,by omega,rfl⟩
   ·have Pz:(l'.length:Int)<1000000:=by omega
    have ll:∀b:Int,(l'++[b]).length=k+1:=fun b=>by rw[List.length_append,List.length_cons,List.length_nil];omega
    have uR:(g=st.aQ 13)=False:=eq_false (by omega)
    apply oN ((x / 128).toNat)
    ·simp only[Z8,seval,hI,h0,aZ,uR,Uw,Lc _ _ _ _ Pz,XT];rfl
    ·exact⟨x / 128,k+1,by simp only[E8,seval],.inr ⟨_,_,⟨by simp only[E8,seval]<;>rfl,by simp only[E8,seval]<;>rfl⟩,by simp only[E8,seval]<;>omega,ll _⟩,by omega,Iv,by omega,rfl⟩
  ·have h0':st.env 0=.v (.slice none 0 0)∨∃(l':List Int) (g:Nat),(st.env 0=.own 13 g∧st.heap 13 g=some (.row 5 1 l'.length (jU l')))∧(l'.length:Int)≤9:=by
    rcases h0 with ⟨_,h0⟩|⟨l',g,h0,hg,Fa⟩
    ·exact .inl h0
    ·exact .inr ⟨l',g,h0,by omega⟩
   apply oT (.exit 0)
   ·simp only[Z8,seval,hI,aZ];rfl
   ·exact⟨rfl,x,by simp only[E8,seval,hI],by simpa only[E8,seval] using h0'⟩
 case start=>exact⟨n,0,by simp only[E8,seval]<;>rfl,.inl ⟨rfl,by simp only[E8,seval]<;>rfl⟩,hn.1,hn.2,by omega,rfl⟩
 case rest =>
  rintro e st ⟨rfl,x,hI,h0⟩
  rcases h0 with h0|⟨l',g,h0,Fa⟩
  ·simp only[Z8,seval,hI,h0,TE];exact⟨_,Wq (n:=([IntKind.u8.wrap x]:List Int).length) (cs:=jU [IntKind.u8.wrap x]) (aE (by decide)) (.inl rfl) rfl (by simp only[E8,seval]<;>rfl) (by simp only[E8,seval]<;>rfl) (uT _),_,rfl,by rw[List.length_cons,List.length_nil];omega⟩
  ·have Pz:(l'.length:Int)<1000000:=by omega
   simp only[Z8,seval,hI,h0,Lc _ _ _ _ Pz];exact⟨_,sU rfl (by simp only[E8,seval]<;>rfl) (by simp only[E8,seval]<;>rfl) (uT _),_,rfl,by rw[List.length_append,List.length_cons,List.length_nil];omega⟩
theorem FZ (r:bX):Wr 226 [.agg (aY r)] 32:=by
 intro l hl;suffices h:∃x,aB Tryz.prog 226 [.uniq 5 1 l.length (jU l),.agg (aY r)]=some x∧∃m:List Int,x=.uniq 5 1 m.length (jU m)∧(m.length:Int)≤l.length+32 by
  obtain⟨r,h,m,rfl,h2⟩:=h;exact⟨m,h,h2⟩
 have Pz:(l.length:Int)<1000000:=by omega
 have hc:aY r=jU r.toList:=LX r
 have hr:(r.toList.length:Int)<1000000:=by simp
 rw[Nm Tryz.prog Tryz.func226 rfl aKJ _ _ _ _ _ (tK _ _)];simp only[Z8,seval,lU,nM,lV,lW,nN,aKI r,M7 _ _ _ r,TF _ _ _ _ Pz hr];exact⟨_,yR (.inl rfl) rfl (by simp only[E8,seval]<;>rfl) (by simp only[E8,seval]<;>rfl) (yS _),_,rfl,by rw[List.length_append];simp⟩
theorem M8 (c:fB) (h:Rg c.aI):Wr 228 [.agg (bV c)] 42:=by
 intro l hl;suffices h:∃r,aB Tryz.prog 228 [.uniq 5 1 l.length (jU l),.agg (bV c)]=some r∧∃m:List Int,r=.uniq 5 1 m.length (jU m)∧(m.length:Int)≤l.length+42 by
  obtain⟨r,h,m,rfl,h2⟩:=h;exact⟨m,h,h2⟩
 obtain⟨m1,e1,b1⟩:=(Wp c.aI h).at (cK (.v _)) (l:=l) (by omega)
 obtain⟨m2,e2,b2⟩:=(FZ c.root).at (cK (pY _)) (l:=m1) (by omega)
 rw[XS Tryz.prog Tryz.func228 rfl aKK (by kernel_rfl) _ _ _ _ _ (tK _ _)]
 simp only[ZG,seval,Bool.false_and,Prod.mk.injEq,aKL,lU,nM,lV,lW,nN,e1,e2];exact⟨_,yR (.inl rfl) rfl (by simp only[E8,seval]<;>rfl) (by simp only[E8,seval]<;>rfl) (yS _),_,rfl,by omega⟩
end Go.Ab.Tryz
end
namespace Go.Ab.Tryz
open Classical Go.Proofs Go.Ab
theorem aKM (o p:Option (List Int)) (hn:((ol o).length:Int)<1000000):∃r,aB Tryz.prog 105 [ov aH o,ov aH p]=some r∧∃b:Bool,r=.v (.bool b):=by
 rw[cL Tryz.func105 rfl aEf (by cases o<;>cases p<;>rfl)]
 by_cases g:((ol o).length:Int)=((ol p).length:Int)
 case neg =>
  simp only[Z8,seval,bf g];exact⟨_,bP rfl (by simp only[E8,seval]<;>rfl) (by first|exact .v _|simp only[eA]),_,rfl⟩
 simp only[Z8,seval,bt g];refine cJ (fun m st=>∃k:Nat,(st.env 0=ov aH o∧st.env 1=ov aH p∧st.env 5=.v (.int .i64 k))∧k≤(ol o).length∧m=(ol o).length-k)
  (fun e st=>(e=.ret∧st.env 4=.v (.bool false))∨e=.exit 0) (ol o).length ?step ?start ?rest
 case step =>
  rintro m st ⟨k,hI,hk,hm⟩
  by_cases aZ:(k:Int)<(ol o).length
  ·have q0:(0:Int)≤k:=by omega
   have q1:(k:Int)<((ol p).length:Int):=by omega
   have hw:IntKind.i64.wrap ((k:Int)+1)=((k+1:Nat):Int):=by rw[pV _ (by omega) (by omega)];omega
   by_cases hh:gx (0:Int) (ol o) (k:Int)=gx (0:Int) (ol p) (k:Int)
   ·apply oN ((ol o).length-(k+1))
    ·simp only[Z8,seval,hI,aZ,q0,q1,bt hh,hw];rfl
    ·exact⟨k+1,by simp only[E8,seval,hI],by omega,rfl⟩
   ·apply oT (.ret)
    ·simp only[Z8,seval,hI,aZ,q0,q1,bf hh];rfl
    ·exact .inl ⟨rfl,by simp only[E8,seval]⟩
  ·apply oT (.exit 0)
   ·simp only[Z8,seval,hI,aZ];rfl
   ·exact .inr rfl
 case start=>exact⟨0,by simp only[E8,seval]<;>rfl,by omega,by omega⟩
 case rest =>
  rintro e st (⟨rfl,h⟩|rfl)
  ·simp only[Z8,seval,h];exact⟨_,bP rfl (by simp only[E8,seval,h]<;>rfl) (by first|exact .v _|simp only[eA,h]),_,rfl⟩
  ·simp only[Z8,seval];exact⟨_,bP rfl (by simp only[E8,seval]<;>rfl) (by first|exact .v _|simp only[eA]),_,rfl⟩
theorem aPh (o p:Option (List Int)) (hn:((ol o).length:Int)<1000000):∃r,aB Tryz.prog 103 [ov bH o,ov bH p]=some r∧∃b:Bool,r=.v (.bool b):=by
 rw[cL Tryz.func103 rfl aEg (by cases o<;>cases p<;>rfl)]
 by_cases g:((ol o).length:Int)=((ol p).length:Int)
 case neg =>
  simp only[Z8,seval,bf g];exact⟨_,bP rfl (by simp only[E8,seval]<;>rfl) (by first|exact .v _|simp only[eA]),_,rfl⟩
 simp only[Z8,seval,bt g];refine cJ (fun m st=>∃k:Nat,(st.env 0=ov bH o∧st.env 1=ov bH p∧st.env 5=.v (.int .i64 k))∧k≤(ol o).length∧m=(ol o).length-k)
  (fun e st=>(e=.ret∧st.env 4=.v (.bool false))∨e=.exit 0) (ol o).length ?step ?start ?rest
 case step =>
  rintro m st ⟨k,hI,hk,hm⟩
  by_cases aZ:(k:Int)<(ol o).length
  ·have q0:(0:Int)≤k:=by omega
   have q1:(k:Int)<((ol p).length:Int):=by omega
   have hw:IntKind.i64.wrap ((k:Int)+1)=((k+1:Nat):Int):=by rw[pV _ (by omega) (by omega)];omega
   by_cases hh:gx (0:Int) (ol o) (k:Int)=gx (0:Int) (ol p) (k:Int)
   ·apply oN ((ol o).length-(k+1))
    ·simp only[Z8,seval,hI,aZ,q0,q1,bt hh,hw];rfl
    ·exact⟨k+1,by simp only[E8,seval,hI],by omega,rfl⟩
   ·apply oT (.ret)
    ·simp only[Z8,seval,hI,aZ,q0,q1,bf hh];rfl
    ·exact .inl ⟨rfl,by simp only[E8,seval]⟩
  ·apply oT (.exit 0)
   ·simp only[Z8,seval,hI,aZ];rfl
   ·exact .inr rfl
 case start=>exact⟨0,by simp only[E8,seval]<;>rfl,by omega,by omega⟩
 case rest =>
  rintro e st (⟨rfl,h⟩|rfl)
  ·simp only[Z8,seval,h];exact⟨_,bP rfl (by simp only[E8,seval,h]<;>rfl) (by first|exact .v _|simp only[eA,h]),_,rfl⟩
  ·simp only[Z8,seval];exact⟨_,bP rfl (by simp only[E8,seval]<;>rfl) (by first|exact .v _|simp only[eA]),_,rfl⟩
theorem aPi (a b:oY) (ha:Ce a) (hb:Ce b):∃r,aB Tryz.prog 108 [.agg (eH a),.agg (eH b)]=some r∧∃b:Bool,r=.v (.bool b):=by
 obtain⟨V,hV,nV⟩:=ha
 obtain⟨W,hW,nW⟩:=hb
 obtain⟨r1,e1,B,rfl⟩:=aKM V W nV
 have M9:=kx e1 (bA (bE V) (bE W)) (.v _)
 rw[cL Tryz.func108 rfl aEh rfl];by_cases g1:a.slot=b.slot
 case neg =>
  simp only[Z8,seval,hV,hW,bf g1];exact⟨_,bP rfl (by simp only[E8,seval]<;>rfl) (by first|exact .v _|simp only[eA]),_,rfl⟩
 by_cases g2:a.root=b.root
 case neg =>
  simp only[Z8,seval,hV,hW,bt g1,g2];exact⟨_,bP rfl (by simp only[E8,seval]<;>rfl) (by first|exact .v _|simp only[eA]),_,rfl⟩
 by_cases g3:a.target=b.target
 case neg =>
  simp only[Z8,seval,hV,hW,bt g1,g2,g3];exact⟨_,bP rfl (by simp only[E8,seval]<;>rfl) (by first|exact .v _|simp only[eA]),_,rfl⟩
 simp only[Z8,seval,hV,hW,bt g1,g2,g3,M9];exact⟨_,bP rfl (by simp only[E8,seval]<;>rfl) (by first|exact .v _|simp only[eA]),_,rfl⟩
theorem aPj (a b:Table) (ha:rK a) (hb:rK b):∃r,aB Tryz.prog 159 [.agg (bZ a),.agg (bZ b)]=some r∧∃b:Bool,r=.v (.bool b):=by
 obtain⟨V,hV,nV⟩:=ha
 obtain⟨W,hW,nW⟩:=hb
 obtain⟨r1,e1,B,rfl⟩:=aPh V W nV
 have aBz:=kx e1 (bA (dU V) (dU W)) (.v _)
 rw[cL Tryz.func159 rfl aEi rfl];by_cases g1:a.ck=b.ck
 case neg =>
  simp only[Z8,seval,hV,hW,g1];exact⟨_,bP rfl (by simp only[E8,seval]<;>rfl) (by first|exact .v _|simp only[eA]),_,rfl⟩
 simp only[Z8,seval,hV,hW,g1,aBz];exact⟨_,bP rfl (by simp only[E8,seval]<;>rfl) (by first|exact .v _|simp only[eA]),_,rfl⟩
def vV (a:Claim):Prop:=∃V:Option (List Int),a.dX=ov aH V∧((ol V).length:Int)≤1000
theorem vV.fl {a:Claim} (h:vV a):Flat (.agg (gM a)):=by obtain⟨V,h,_⟩:=h;exact (yL a).2 (by rw[h];exact bE V)
theorem aKN (a b:Claim) (ha:vV a) (hb:vV b):∃r,aB Tryz.prog 232 [.agg (gM a),.agg (gM b)]=some r∧∃b:Bool,r=.v (.bool b):=by
 obtain⟨V,hV,nV⟩:=ha
 obtain⟨W,hW,nW⟩:=hb
 obtain⟨r1,e1,B,rfl⟩:=aKM V W (by omega)
 have M9:=kx e1 (bA (bE V) (bE W)) (.v _)
 rw[cL Tryz.func232 rfl aKO rfl];by_cases g1:a.source=b.source
 case neg =>
  simp only[Z8,seval,hV,hW,bf g1];exact⟨_,bP rfl (by simp only[E8,seval]<;>rfl) (by first|exact .v _|simp only[eA]),_,rfl⟩
 by_cases g2:a.target=b.target
 case neg =>
  simp only[Z8,seval,hV,hW,bt g1,bf g2];exact⟨_,bP rfl (by simp only[E8,seval]<;>rfl) (by first|exact .v _|simp only[eA]),_,rfl⟩
 by_cases g3:a.root=b.root
 case neg =>
  simp only[Z8,seval,hV,hW,bt g1,bt g2,g3];exact⟨_,bP rfl (by simp only[E8,seval]<;>rfl) (by first|exact .v _|simp only[eA]),_,rfl⟩
 simp only[Z8,seval,hV,hW,bt g1,bt g2,g3,M9];exact⟨_,bP rfl (by simp only[E8,seval]<;>rfl) (by first|exact .v _|simp only[eA]),_,rfl⟩
theorem aPk (a b:fQ) (h1:vV a.first) (h2:vV a.second) (h3:vV b.first) (h4:vV b.second):∃r,aB Tryz.prog 216 [.agg (bT a),.agg (bT b)]=some r∧∃b:Bool,r=.v (.bool b):=by
 obtain⟨r1,e1,B1,rfl⟩:=aKN a.first b.first h1 h3
 obtain⟨r2,e2,B2,rfl⟩:=aKN a.second b.second h2 h4
 have k1:=kx e1 (bA h1.fl h3.fl) (.v _)
 have k2:=kx e2 (bA h2.fl h4.fl) (.v _)
 rw[cL Tryz.func216 rfl aKP rfl];cases B1
 ·simp only[Z8,seval,k1];exact⟨_,bP rfl (by simp only[E8,seval]<;>rfl) (by first|exact .v _|simp only[eA]),_,rfl⟩
 ·simp only[Z8,seval,k1,k2];exact⟨_,bP rfl (by simp only[E8,seval]<;>rfl) (by first|exact .v _|simp only[eA]),_,rfl⟩
structure oU (x:wH):Prop where
 Ft:∃V:Option (List Int),x.Ft.dX=ov aH V∧((ol V).length:Int)≤1000
 c1:vV x.oG.first
 c2:vV x.oG.second
 TG:∃b:Option (List Int),x.table.iA=ov bH b∧((ol b).length:Int)≤1000∧∀y∈ol b,Rg y
 rb:RB x.block
 ra:Rg x.Ft.slot∧Rg x.Ft.target.aI
 rs:Rg x.oG.first.source∧Rg x.oG.first.target∧Rg x.oG.second.source∧Rg x.oG.second.target
 rt:Rg x.table.ck.aI
 rv:Rg x.verdict.tagged.tag
theorem oU.aEj {x:wH} (h:oU x):Ce x.Ft:=by obtain⟨V,h1,h2⟩:=h.Ft;exact⟨V,h1,by omega⟩
theorem oU.N0 {x:wH} (h:oU x):rK x.table:=by obtain⟨V,h1,h2,_⟩:=h.TG;exact⟨V,h1,by omega⟩
theorem oU.fl {x:wH} (h:oU x):Flat x.Ft.dX∧Flat x.oG.first.dX∧Flat x.oG.second.dX∧Flat x.table.iA:=by
 obtain⟨V,h1,_⟩:=h.Ft;obtain⟨V2,h2,_⟩:=h.c1;obtain⟨V3,h3,_⟩:=h.c2;obtain⟨V4,h4,_⟩:=h.TG
 rw[h1,h2,h3,h4];exact⟨bE _,bE _,bE _,dU _⟩
theorem oU.flat {x:wH} (h:oU x):Flat (.agg (kI x)):=(SJ x).2 h.fl
theorem TH (a b:wH) (ha:oU a) (hb:oU b):∃r,aB Tryz.prog 201 [.agg (kI a),.agg (kI b)]=some r∧∃b:Bool,r=.v (.bool b):=by
 have fa:=ha.fl
 have fb:=hb.fl
 obtain⟨r1,e1,B1,rfl⟩:=aPi a.Ft b.Ft ha.aEj hb.aEj
 obtain⟨r2,e2,B2,rfl⟩:=aPk a.oG b.oG ha.c1 ha.c2 hb.c1 hb.c2
 obtain⟨r3,e3,B3,rfl⟩:=aPj a.table b.table ha.N0 hb.N0
 have k1:=kx e1 (bA ((qE _).2 fa.1) ((qE _).2 fb.1)) (.v _)
 have k2:=kx e2 (bA ((mJ _).2 ⟨fa.2.1,fa.2.2.1⟩) ((mJ _).2 ⟨fb.2.1,fb.2.2.1⟩)) (.v _)
 have k3:=kx e3 (bA ((jX _).2 fa.2.2.2) ((jX _).2 fb.2.2.2)) (.v _)
 rw[cL Tryz.func201 rfl aKQ rfl];by_cases g1:a.kind=b.kind
 case neg =>
  simp only[Z8,seval,iF,iG,bf g1];exact⟨_,bP rfl (by simp only[E8,seval]<;>rfl) (by first|exact .v _|simp only[eA]),_,rfl⟩
 by_cases g2:a.block=b.block
 case neg =>
  simp only[Z8,seval,iF,iG,bt g1,g2];exact⟨_,bP rfl (by simp only[E8,seval]<;>rfl) (by first|exact .v _|simp only[eA]),_,rfl⟩
 cases B1
 ·simp only[Z8,seval,iF,iG,bt g1,g2,k1];exact⟨_,bP rfl (by simp only[E8,seval]<;>rfl) (by first|exact .v _|simp only[eA]),_,rfl⟩
 cases B2
 ·simp only[Z8,seval,iF,iG,bt g1,g2,k1,k2];exact⟨_,bP rfl (by simp only[E8,seval]<;>rfl) (by first|exact .v _|simp only[eA]),_,rfl⟩
 cases B3
 ·simp only[Z8,seval,iF,iG,bt g1,g2,k1,k2,k3];exact⟨_,bP rfl (by simp only[E8,seval]<;>rfl) (by first|exact .v _|simp only[eA]),_,rfl⟩
 by_cases g3:a.verdict=b.verdict
 case neg =>
  simp only[Z8,seval,iF,iG,bt g1,g2,k1,k2,k3,g3];exact⟨_,bP rfl (by simp only[E8,seval]<;>rfl) (by first|exact .v _|simp only[eA]),_,rfl⟩
 by_cases g4:a.write=b.write
 case neg =>
  simp only[Z8,seval,iF,iG,bt g1,g2,k1,k2,k3,g3,bf g4];exact⟨_,bP rfl (by simp only[E8,seval]<;>rfl) (by first|exact .v _|simp only[eA]),_,rfl⟩
 simp only[Z8,seval,iF,iG,bt g1,g2,k1,k2,k3,g3,bt g4];exact⟨_,bP rfl (by simp only[E8,seval]<;>rfl) (by first|exact .v _|simp only[eA]),_,rfl⟩
theorem aBA (cs:List AV) (o:Nat) (h:32≤cs.length-o):fF Tryz.prog 26 cs o=some (.agg (rd cs o 32)):=by
 have e:fL Tryz.prog 26=some (true,32):=by kernel_rfl
 unfold fF;simp only[e];rw[if_pos ⟨by omega,h⟩]
theorem N1:sN Tryz.prog 26=some 32:=by kernel_rfl
theorem aKR:eF Tryz.prog 26=some tL:=by kernel_rfl
theorem aKS:jE Tryz.prog 26=some (32,1):=by kernel_rfl
theorem aKT:dQ Tryz.prog 26=none:=by kernel_rfl
theorem aKU (r:bX) (st:St) (s g o:Nat) (h:st.heap s g=some (.cells (aY r))):dL Tryz.prog st 26 (.ptr s g o) none none=some (.vw s g o 32):=by
 simp only[dL,aKT,aKS,h]
theorem aFz (st:St) (x:AV) {k:IntKind} {i:Int} (h0:0≤i) (h1:i<32):bD Tryz.prog st 26 x (.v (.int k i))=uG x (i.toNat * 1):=FG aKS st x h0 h1
theorem wR (x:Int):(IntKind.u64.wrap x<0)=False:=by
 refine eq_false ?_
 unfold IntKind.wrap;simp[IntKind.signed,IntKind.bits]
 omega
theorem aPl (w:qP):∃r:bX,aB Tryz.prog 246 [.agg (fY w)]=some (.agg (aY r)):=by
 suffices h:∃x,aB Tryz.prog 246 [.agg (fY w)]=some x∧∃r:bX,x=.agg (aY r) by
  obtain⟨x,h,r,rfl⟩:=h;exact⟨r,h⟩
 rw[cL Tryz.func246 rfl aKV rfl];simp only[Z8,seval,aKR];refine cJ (fun m st=>∃(k:Nat) (r:bX),(st.env 1=.ptr 1 0 0∧st.heap 1 0=some (.cells (fY w))∧st.env 3=.ptr 3 0 0∧st.heap 3 0=some (.cells (aY r))∧st.env 2=.ptr 2 0 0∧st.heap 2 0=some (.cells (aY dT))∧st.env 4=.v (.int .i64 k))∧k≤32∧m=32-k)
  (fun e st=>e=.exit 0∧∃r:bX,st.env 3=.ptr 3 0 0∧st.heap 3 0=some (.cells (aY r))∧st.env 2=.ptr 2 0 0∧st.heap 2 0=some (.cells (aY dT))) 32 ?step ?start ?rest
 case step =>
  rintro m st ⟨k,r,hI,hk,hm⟩
  by_cases aZ:(k:Int)<32
  ·have q0:(0:Int)≤k:=by omega
   have hw:IntKind.i64.wrap ((k:Int)+1)=((k+1:Nat):Int):=by rw[pV _ (by omega) (by omega)];omega
   obtain⟨i,hi⟩:∃i:Int,i=31-(k:Int):=⟨_,rfl⟩
   have hi1:IntKind.i64.wrap (31-(k:Int))=i:=by rw[pV _ (by omega) (by omega),hi]
   have i0:0≤i:=by omega
   have i1:i<32:=by omega
   have hj:IntKind.i64.wrap ((k:Int).tdiv 8)=(k:Int) / 8:=by rw[Int.tdiv_eq_ediv_of_nonneg q0,pV _ (by omega) (by omega)]
   have j0:0≤(k:Int) / 8:=by omega
   have j1:(k:Int) / 8<4:=by omega
   have i31:i.toNat≤31:=by omega
   have gw:=Qg w j0 j1
   have Uo:=fun x=>Vm r i.toNat (i.toNat+1) x (by omega) rfl
   apply oN (32-(k+1))
   ·simp only[Z8,seval,hI,aZ,q0,hi1,i0,i1,hj,j0,j1,Gv,aFz,gw,i31,Uo,wR,Nat.mul_one,hw];rfl
   ·exact⟨k+1,_,by simp only[E8,seval,hI]<;>rfl,by omega,rfl⟩
  ·apply oT (.exit 0)
   ·simp only[Z8,seval,hI,aZ];rfl
   ·exact⟨rfl,r,by simp only[E8,seval,hI]⟩
 case start=>exact⟨0,dT,by simp only[E8,seval]<;>rfl,by omega,by omega⟩
 case rest =>
  rintro e st ⟨rfl,r,hI⟩
  simp only[Z8,seval,hI,aBA,N1];exact⟨_,fI rfl (by simp only[E8,seval,hI,aBA,N1]<;>rfl) (by simp only[Z8,seval,hI,aBA,N1]<;>rfl) (by simp only[eA,and_self,hI,aBA,N1]),r,rfl⟩
theorem aPm (w:qP):∃r:bX,∀(st:St) (d:Option Nat),aN (aB Tryz.prog) 246 [.agg (fY w)] st d=some { dst:=d,val:=.agg (aY r)}:=by
 obtain⟨r,h⟩:=aPl w
 exact⟨r,kx h (cK (.agg _ (iE w))) (pY r)⟩
theorem aKW (x:qP):Wr 227 [.agg (fY x)] 32:=by
 intro l hl;suffices h:∃r,aB Tryz.prog 227 [.uniq 5 1 l.length (jU l),.agg (fY x)]=some r∧∃m:List Int,r=.uniq 5 1 m.length (jU m)∧(m.length:Int)≤l.length+32 by
  obtain⟨r,h,m,rfl,h2⟩:=h;exact⟨m,h,h2⟩
 have Pz:(l.length:Int)<1000000:=by omega
 obtain⟨r,kr⟩:=aPm x
 have hr:(r.toList.length:Int)<1000000:=by simp
 rw[Nm Tryz.prog Tryz.func227 rfl aKX _ _ _ _ _ (tK _ _)];simp only[Z8,seval,lU,nM,lV,lW,nN,kr,aKR,N1,aKU r,M7 _ _ _ r,TF _ _ _ _ Pz hr];exact⟨_,yR (.inl rfl) rfl (by simp only[E8,seval]<;>rfl) (by simp only[E8,seval]<;>rfl) (yS _),_,rfl,by rw[List.length_append];simp⟩
theorem aPn (b:Bool):Wr 229 [.v (.bool b)] 1:=by
 intro l hl;suffices h:∃r,aB Tryz.prog 229 [.uniq 5 1 l.length (jU l),.v (.bool b)]=some r∧∃m:List Int,r=.uniq 5 1 m.length (jU m)∧(m.length:Int)≤l.length+1 by
  obtain⟨r,h,m,rfl,h2⟩:=h;exact⟨m,h,h2⟩
 have Pz:(l.length:Int)<1000000:=by omega
 rw[Nm Tryz.prog Tryz.func229 rfl aKY _ _ _ _ _ (tK _ _)];cases b
 all_goals
  simp only[Z8,seval,lU,nM,lV,lW,nN,Lc _ _ _ _ Pz];exact⟨_,yR (.inl rfl) rfl (by simp only[E8,seval]<;>rfl) (by simp only[E8,seval]<;>rfl) (yS _),_,rfl,by rw[List.length_append,List.length_cons,List.length_nil];omega⟩
theorem jJ (x:Int):Rg (IntKind.u64.wrap x):=by
 unfold Rg IntKind.wrap;simp[IntKind.signed,IntKind.bits]
 omega
theorem aFA (V:Option (List Int)) (nV:((ol V).length:Int)≤1000):Wr 230 [ov aH V] 10010:=by
 intro l hl;suffices h:∃r,aB Tryz.prog 230 [.uniq 5 1 l.length (jU l),ov aH V]=some r∧∃m:List Int,r=.uniq 5 1 m.length (jU m)∧(m.length:Int)≤l.length+10010 by
  obtain⟨r,h,m,rfl,h2⟩:=h;exact⟨m,h,h2⟩
 obtain⟨m1,e1,b1⟩:=(Wp _ (jJ ((ol V).length:Int))).at (cK (.v _)) (l:=l) (by omega)
 rw[Nm Tryz.prog Tryz.func230 rfl aKZ _ _ _ _ _ (tK _ _)];simp only[Z8,seval,lU,nM,lV,lW,nN,e1];refine cJ (fun m st=>∃(k:Nat) (p:List Int) (a g:Nat),(st.env 0=.own a g∧st.heap a g=some (.row 5 1 p.length (jU p))∧st.env 1=ov aH V∧st.env 5=.v (.int .i64 k))∧((a=10∧g<st.aQ 10)∨(a=24∧g<st.aQ 24)∨(a=38∧g<st.aQ 38))∧(p.length:Int)≤l.length+10+10 * k∧k≤(ol V).length∧m=(ol V).length-k)
  (fun e st=>e=.exit 0∧∃(p:List Int) (a g:Nat),(st.env 0=.own a g∧st.heap a g=some (.row 5 1 p.length (jU p)))∧(p.length:Int)≤l.length+10010) (ol V).length ?step ?start ?rest
 case step =>
  rintro m st ⟨k,p,a,g,hI,FY,hp,hk,hm⟩
  by_cases aZ:(k:Int)<(ol V).length
  ·have q0:(0:Int)≤k:=by omega
   have hw:IntKind.i64.wrap ((k:Int)+1)=((k+1:Nat):Int):=by rw[pV _ (by omega) (by omega)];omega
   have fin:∀(p':List Int),(p'.length:Int)≤p.length+10→(p'.length:Int)≤l.length+10+10 * ((k+1:Nat):Int):=fun p' h=>by omega
   by_cases h1:(k:Int)=0
   ·have z0:(0:Int)<((ol V).length:Int):=by omega
    have z1:(0:Int)≤0:=by omega
    obtain⟨p',e2,b2⟩:=(Wp _ (jJ (gx (0:Int) (ol V) (0:Int)))).at (cK (.v _)) (l:=p) (by omega)
    rcases FY with ⟨rfl,hg⟩|⟨rfl,hg⟩|⟨rfl,hg⟩
    ·apply oN ((ol V).length-(k+1))
     ·simp only[Z8,seval,hI,aZ,q0,bt h1,z0,z1,e2,hw];rfl
     ·exact⟨k+1,p',_,_,⟨by simp only[E8,seval]<;>rfl,by simp only[E8,seval]<;>rfl,by simp only[E8,seval,hI],by simp only[E8,seval]⟩,.inr (.inl ⟨rfl,by simp only[E8,seval]<;>omega⟩),fin p' b2,by omega,rfl⟩
    ·have uR:(g=st.aQ 24)=False:=eq_false (by omega)
     apply oN ((ol V).length-(k+1))
     ·simp only[Z8,seval,hI,uR,aZ,q0,bt h1,z0,z1,e2,hw];rfl
     ·exact⟨k+1,p',_,_,⟨by simp only[E8,seval]<;>rfl,by simp only[E8,seval]<;>rfl,by simp only[E8,seval,hI],by simp only[E8,seval]⟩,.inr (.inl ⟨rfl,by simp only[E8,seval]<;>omega⟩),fin p' b2,by omega,rfl⟩
    ·apply oN ((ol V).length-(k+1))
     ·simp only[Z8,seval,hI,aZ,q0,bt h1,z0,z1,e2,hw];rfl
     ·exact⟨k+1,p',_,_,⟨by simp only[E8,seval]<;>rfl,by simp only[E8,seval]<;>rfl,by simp only[E8,seval,hI],by simp only[E8,seval]⟩,.inr (.inl ⟨rfl,by simp only[E8,seval]<;>omega⟩),fin p' b2,by omega,rfl⟩
   ·have DA:IntKind.i64.wrap ((k:Int)-1)=(k:Int)-1:=pV _ (by omega) (by omega)
    have y0:(0:Int)≤(k:Int)-1:=by omega
    have y1:(k:Int)-1<((ol V).length:Int):=by omega
    obtain⟨p',e2,b2⟩:=(Wp _ (jJ (IntKind.i64.wrap (IntKind.i64.wrap (gx (0:Int) (ol V) (k:Int)-gx (0:Int) (ol V) ((k:Int)-1))-1)))).at (cK (.v _)) (l:=p) (by omega)
    rcases FY with ⟨rfl,hg⟩|⟨rfl,hg⟩|⟨rfl,hg⟩
    ·apply oN ((ol V).length-(k+1))
     ·simp only[Z8,seval,hI,aZ,q0,bf h1,DA,y0,y1,e2,hw];rfl
     ·exact⟨k+1,p',_,_,⟨by simp only[E8,seval]<;>rfl,by simp only[E8,seval]<;>rfl,by simp only[E8,seval,hI],by simp only[E8,seval]⟩,.inr (.inr ⟨rfl,by simp only[E8,seval]<;>omega⟩),fin p' b2,by omega,rfl⟩
    ·apply oN ((ol V).length-(k+1))
     ·simp only[Z8,seval,hI,aZ,q0,bf h1,DA,y0,y1,e2,hw];rfl
     ·exact⟨k+1,p',_,_,⟨by simp only[E8,seval]<;>rfl,by simp only[E8,seval]<;>rfl,by simp only[E8,seval,hI],by simp only[E8,seval]⟩,.inr (.inr ⟨rfl,by simp only[E8,seval]<;>omega⟩),fin p' b2,by omega,rfl⟩
    ·have uR:(g=st.aQ 38)=False:=eq_false (by omega)
     apply oN ((ol V).length-(k+1))
     ·simp only[Z8,seval,hI,uR,aZ,q0,bf h1,DA,y0,y1,e2,hw];rfl
     ·exact⟨k+1,p',_,_,⟨by simp only[E8,seval]<;>rfl,by simp only[E8,seval]<;>rfl,by simp only[E8,seval,hI],by simp only[E8,seval]⟩,.inr (.inr ⟨rfl,by simp only[E8,seval]<;>omega⟩),fin p' b2,by omega,rfl⟩
  ·apply oT (.exit 0)
   ·simp only[Z8,seval,hI,aZ];rfl
   ·exact⟨rfl,p,a,g,by simp only[E8,seval,hI],by omega⟩
 case start=>exact⟨0,m1,10,0,by and_intros<;>(simp only[E8,seval,lU,nM,lV,lW,nN]<;>rfl),.inl ⟨rfl,by simp only[E8,seval,lU,nM,lV,lW,nN]<;>omega⟩,by omega,by omega,by omega⟩
 case rest =>
  rintro e st ⟨rfl,p,a,g,hI,hp⟩
  simp only[Z8,seval,hI];exact⟨_,yR (.inl rfl) rfl (by simp only[E8,seval]<;>rfl) (by simp only[E8,seval,hI]<;>rfl) (yS _),_,rfl,hp⟩
theorem aPo (c:Claim) (V:Option (List Int)) (hV:c.dX=ov aH V) (nV:((ol V).length:Int)≤1000) (h1:Rg c.source) (h2:Rg c.target):Wr 231 [.agg (gM c)] 10100:=by
 intro l hl;suffices h:∃r,aB Tryz.prog 231 [.uniq 5 1 l.length (jU l),.agg (gM c)]=some r∧∃m:List Int,r=.uniq 5 1 m.length (jU m)∧(m.length:Int)≤l.length+10100 by
  obtain⟨r,h,m,rfl,h2⟩:=h;exact⟨m,h,h2⟩
 obtain⟨m1,e1,b1⟩:=(Wp c.source h1).at (cK (.v _)) (l:=l) (by omega)
 obtain⟨m2,e2,b2⟩:=(Wp c.target h2).at (cK (.v _)) (l:=m1) (by omega)
 obtain⟨m3,e3,b3⟩:=(FZ c.root).at (cK (pY _)) (l:=m2) (by omega)
 obtain⟨m4,e4,b4⟩:=(aFA V nV).at (cK (bE V)) (l:=m3) (by omega)
 rw[XS Tryz.prog Tryz.func231 rfl aEk (by kernel_rfl) _ _ _ _ _ (tK _ _)]
 simp only[ZG,seval,Bool.false_and,Prod.mk.injEq,aEl,lU,nM,lV,lW,nN,e1,e2,e3,e4,hV,Aj,Ak,yO,yP];exact⟨_,yR (.inl rfl) rfl (by simp only[E8,seval]<;>rfl) (by simp only[E8,seval]<;>rfl) (yS _),_,rfl,by omega⟩
theorem aPp (c:Claim) (V:Option (List Int)) (hV:c.dX=ov aH V) (nV:((ol V).length:Int)≤1000) (h1:Rg c.source) (h2:Rg c.target):WrN 231 [.agg (gM c)] 10100:=by
 suffices h:∃r,aB Tryz.prog 231 [.v (.slice none 0 0),.agg (gM c)]=some r∧∃m:List Int,r=.uniq 5 1 m.length (jU m)∧(m.length:Int)≤10100 by
  obtain⟨r,h,m,rfl,h2⟩:=h;exact⟨m,h,h2⟩
 obtain⟨m1,e1,b1⟩:=(r7 c.source h1).at (cK (.v _))
 obtain⟨m2,e2,b2⟩:=(Wp c.target h2).at (cK (.v _)) (l:=m1) (by omega)
 obtain⟨m3,e3,b3⟩:=(FZ c.root).at (cK (pY _)) (l:=m2) (by omega)
 obtain⟨m4,e4,b4⟩:=(aFA V nV).at (cK (bE V)) (l:=m3) (by omega)
 rw[cG Tryz.func231 rfl aEk (by kernel_rfl) rfl]
 simp only[ZG,seval,Bool.false_and,Prod.mk.injEq,aEl,e1,e2,e3,e4,hV,Aj,Ak,yO,yP];exact⟨_,sU rfl (by simp only[E8,seval]<;>rfl) (by simp only[E8,seval]<;>rfl) (uT _),_,rfl,by omega⟩
theorem aPq (x:Block) (h:RB x):WrN 210 [.agg (aU x)] 400:=by
 suffices h:∃r,aB Tryz.prog 210 [.v (.slice none 0 0),.agg (aU x)]=some r∧∃m:List Int,r=.uniq 5 1 m.length (jU m)∧(m.length:Int)≤400 by
  obtain⟨r,h,m,rfl,h2⟩:=h;exact⟨m,h,h2⟩
 obtain⟨m1,e1,b1⟩:=(r7 x.slot h.sl).at (cK (.v _))
 obtain⟨m2,e2,b2⟩:=(FZ x.root).at (cK (pY _)) (l:=m1) (by omega)
 obtain⟨m3,e3,b3⟩:=(FZ x.parent).at (cK (pY _)) (l:=m2) (by omega)
 obtain⟨m4,e4,b4⟩:=(FZ x.jF).at (cK (pY _)) (l:=m3) (by omega)
 obtain⟨m5,e5,b5⟩:=(aKW x.diff).at (cK (.agg _ (iE _))) (l:=m4) (by omega)
 obtain⟨m6,e6,b6⟩:=(aKW x.DL).at (cK (.agg _ (iE _))) (l:=m5) (by omega)
 obtain⟨m7,e7,b7⟩:=(M8 x.dS h.j).at (cK (.agg _ (cT _))) (l:=m6) (by omega)
 obtain⟨m8,e8,b8⟩:=(M8 x.fin h.f).at (cK (.agg _ (cT _))) (l:=m7) (by omega)
 obtain⟨m9,e9,b9⟩:=(M8 x.dV.pj h.pj).at (cK (.agg _ (cT _))) (l:=m8) (by omega)
 obtain⟨m10,e10,b10⟩:=(M8 x.dV.pf h.pf).at (cK (.agg _ (cT _))) (l:=m9) (by omega)
 obtain⟨m11,e11,b11⟩:=(aPn x.Ef).at (cK (.v _)) (l:=m10) (by omega)
 rw[cG Tryz.func210 rfl aK0 (by kernel_rfl) rfl]
 simp only[ZG,seval,Bool.false_and,Prod.mk.injEq,aK1,e1,e2,e3,e4,e5,e6,e7,e8,e9,e10,e11];exact⟨_,sU rfl (by simp only[E8,seval]<;>rfl) (by simp only[E8,seval]<;>rfl) (uT _),_,rfl,by omega⟩
def wS (r:AV):Prop:=∃(o:Option (List Int)) (e:Int),r=.eE [ov jU o,.v (.int .i64 e)]
theorem wS.none (e:Int):wS (.eE [.v (.slice none 0 0),.v (.int .i64 e)]):=⟨Option.none,e,rfl⟩
theorem wS.some (l:List Int) (e:Int):wS (.eE [.sl l.length (jU l),.v (.int .i64 e)]):=⟨Option.some l,e,rfl⟩
theorem aPr (a:oY) (V:Option (List Int)) (hV:a.dX=ov aH V) (nV:((ol V).length:Int)≤1000) (h1:Rg a.slot) (h2:Rg a.target.aI):∃r,aB Tryz.prog 211 [.agg (eH a)]=some r∧wS r:=by
 have JW:=kx (c40 V (by omega) 1024) (bA (bE V) (.v _)) (.v _)
 obtain⟨e,he⟩:∃e,Dy (ol V) 1024=e:=⟨_,rfl⟩
 rw[he] at JW;obtain⟨m1,e1,b1⟩:=(r7 a.slot h1).at (cK (.v _))
 obtain⟨m2,e2,b2⟩:=(FZ a.root).at (cK (pY _)) (l:=m1) (by omega)
 obtain⟨m3,e3,b3⟩:=(M8 a.target h2).at (cK (.agg _ (cT _))) (l:=m2) (by omega)
 obtain⟨m4,e4,b4⟩:=(aFA V nV).at (cK (bE V)) (l:=m3) (by omega)
 rw[cG Tryz.func211 rfl aK2 (by kernel_rfl) rfl]
 by_cases g:e=0
 ·simp only[ZG,seval,Bool.false_and,Prod.mk.injEq,aEm,hV,JW,bt g,e1,e2,e3,e4,Aj,Ak,yO,yP];exact⟨_,dC rfl rfl rfl (by simp only[E8,seval,Cl]<;>rfl) (by simp only[E8,seval,Cl]<;>rfl),wS.some _ _⟩
 ·simp only[ZG,seval,Bool.false_and,Prod.mk.injEq,aEm,hV,JW,bf g];exact⟨_,dC rfl rfl rfl (by simp only[E8,seval]<;>rfl) (by simp only[E8,seval]<;>rfl),wS.none _⟩
theorem aPs (a:fQ) (h1:vV a.first) (h2:vV a.second) (r1:Rg a.first.source) (r2:Rg a.first.target) (r3:Rg a.second.source) (r4:Rg a.second.target):∃r,aB Tryz.prog 212 [.agg (bT a)]=some r∧wS r:=by
 obtain⟨V,hV,nV⟩:=id h1
 obtain⟨W,hW,nW⟩:=id h2
 have kV:=kx (c40 V (by omega) 1024) (bA (bE V) (.v _)) (.v _)
 have kW:=kx (c40 W (by omega) 1024) (bA (bE W) (.v _)) (.v _)
 obtain⟨ev,AB⟩:∃e,Dy (ol V) 1024=e:=⟨_,rfl⟩
 obtain⟨ew,hew⟩:∃e,Dy (ol W) 1024=e:=⟨_,rfl⟩
 rw[AB] at kV;rw[hew] at kW;obtain⟨m1,e1,b1⟩:=(aPp a.first V hV nV r1 r2).at (cK h1.fl)
 obtain⟨m2,e2,b2⟩:=(aPo a.second W hW nW r3 r4).at (cK h2.fl) (l:=m1) (by omega)
 rw[cL Tryz.func212 rfl aK3 rfl];by_cases g1:ev=0
 case neg =>
  simp only[Z8,seval,hV,hW,kV,bf g1];exact⟨_,dC rfl rfl rfl (by simp only[E8,seval]<;>rfl) (by simp only[E8,seval]<;>rfl),wS.none _⟩
 by_cases g2:ew=0
 case neg =>
  simp only[Z8,seval,hV,hW,kV,kW,bt g1,bf g2];exact⟨_,dC rfl rfl rfl (by simp only[E8,seval]<;>rfl) (by simp only[E8,seval]<;>rfl),wS.none _⟩
 simp only[Z8,seval,hV,hW,kV,kW,bt g1,bt g2,e1,e2];exact⟨_,dC rfl rfl rfl (by simp only[E8,seval,Cl]<;>rfl) (by simp only[E8,seval,Cl]<;>rfl),wS.some _ _⟩
theorem aPt (t:Table) (b:Option (List Int)) (hb:t.iA=ov bH b) (nb:((ol b).length:Int)≤1000) (rb:∀y∈ol b,Rg y) (rt:Rg t.ck.aI):∃r,aB Tryz.prog 213 [.agg (bZ t)]=some r∧wS r:=by
 have hfT:Flat (.agg (bZ t)):=(jX t).2 (by rw[hb];exact dU b)
 obtain⟨m1,e1,b1⟩:=(r7 t.ck.aI rt).at (cK (.v _))
 obtain⟨m2,e2,b2⟩:=(FZ t.ck.root).at (cK (pY _)) (l:=m1) (by omega)
 obtain⟨m3,e3,b3⟩:=(Wp _ (jJ ((ol b).length:Int))).at (cK (.v _)) (l:=m2) (by omega)
 rw[cG Tryz.func213 rfl aK4 (by kernel_rfl) rfl]
 have g1:¬(1024:Int)<((ol b).length:Int):=by omega
 simp only[ZG,seval,Bool.false_and,Prod.mk.injEq,LY,hb,g1,e1,e2,e3,Aj,Ak,yO,yP];refine kX (fun m st=>∃(k:Nat) (p:List Int) (a g:Nat),(st.env 1=.ptr 1 0 0∧st.heap 1 0=some (.cells (bZ t))∧st.env 4=.own a g∧st.heap a g=some (.row 5 1 p.length (jU p))∧st.env 5=.v (.int .i64 k))∧((a=22∧g=0)∨(a=36∧g<st.aQ 36))∧(p.length:Int)≤100+10 * k∧k≤(ol b).length∧m=(ol b).length-k)
  (fun e st=>e=.exit 0∧∃(p:List Int) (a g:Nat),st.env 4=.own a g∧st.heap a g=some (.row 5 1 p.length (jU p))) (ol b).length ?step ?start ?rest
 case step =>
  rintro m st ⟨k,p,a,g,hI,FY,hp,hk,hm⟩
  by_cases aZ:(k:Int)<(ol b).length
  ·have q0:(0:Int)≤k:=by omega
   have hw:IntKind.i64.wrap ((k:Int)+1)=((k+1:Nat):Int):=by rw[pV _ (by omega) (by omega)];omega
   obtain⟨p',e4,b4⟩:=(Wp _ (rb _ (tI (z:=(0:Int)) q0 aZ))).at (cK (.v _)) (l:=p) (by omega)
   rcases FY with ⟨rfl,rfl⟩|⟨rfl,hg⟩
   ·apply Bh ((ol b).length-(k+1))
    ·simp only[ZG,seval,Bool.false_and,Prod.mk.injEq,LY,hI,aZ,q0,hb,e4,hw];rfl
    ·exact⟨k+1,p',36,_,⟨by simp only[E8,seval,hI],by simp only[E8,seval,hI],by simp only[E8,seval]<;>rfl,by simp only[E8,seval]<;>rfl,by simp only[E8,seval]⟩,.inr ⟨rfl,by simp only[E8,seval]<;>omega⟩,by omega,by omega,rfl⟩
   ·have uR:(g=st.aQ 36)=False:=eq_false (by omega)
    apply Bh ((ol b).length-(k+1))
    ·simp only[ZG,seval,Bool.false_and,Prod.mk.injEq,LY,hI,uR,aZ,q0,hb,e4,hw];rfl
    ·exact⟨k+1,p',36,_,⟨by simp only[E8,seval,hI],by simp only[E8,seval,hI],by simp only[E8,seval]<;>rfl,by simp only[E8,seval]<;>rfl,by simp only[E8,seval]⟩,.inr ⟨rfl,by simp only[E8,seval]<;>omega⟩,by omega,by omega,rfl⟩
  ·apply FM (.exit 0)
   ·simp only[ZG,seval,Bool.false_and,Prod.mk.injEq,LY,hI,aZ,hb];rfl
   ·exact⟨rfl,p,a,g,by simp only[E8,seval,hI],by simp only[E8,seval,hI]⟩
 case start=>exact⟨0,m3,22,0,by and_intros<;>(simp only[E8,seval]<;>rfl),.inl ⟨rfl,rfl⟩,by omega,by omega,by omega⟩
 case rest =>
  rintro e st ⟨rfl,p,a,g,h4,hh⟩
  simp only[ZG,seval,Bool.false_and,Prod.mk.injEq,LY,h4,hh];exact⟨_,dC rfl rfl rfl (by simp only[E8,seval,h4,hh,Cl]<;>rfl) (by simp only[E8,seval,h4,hh,Cl]<;>rfl),wS.some _ _⟩
theorem aPu (v:gN) (h:Rg v.tagged.tag):∃r,aB Tryz.prog 214 [.agg (dG v)]=some r∧wS r:=by
 obtain⟨m1,e1,b1⟩:=(r7 v.tagged.tag h).at (cK (.v _))
 obtain⟨m2,e2,b2⟩:=(Wp _ (jJ v.kind)).at (cK (.v _)) (l:=m1) (by omega)
 obtain⟨m3,e3,b3⟩:=(FZ v.dR).at (cK (pY _)) (l:=m2) (by omega)
 rw[cG Tryz.func214 rfl aK5 (by kernel_rfl) rfl]
 by_cases g1:v.kind<1
 ·simp only[ZG,seval,Bool.false_and,Prod.mk.injEq,N2,g1];exact⟨_,dC rfl rfl rfl (by simp only[E8,seval]<;>rfl) (by simp only[E8,seval]<;>rfl),wS.none _⟩
 by_cases g2:4<v.kind
 ·simp only[ZG,seval,Bool.false_and,Prod.mk.injEq,N2,g1,g2];exact⟨_,dC rfl rfl rfl (by simp only[E8,seval]<;>rfl) (by simp only[E8,seval]<;>rfl),wS.none _⟩
 simp only[ZG,seval,Bool.false_and,Prod.mk.injEq,N2,g1,g2,e1,e2,e3];exact⟨_,dC rfl rfl rfl (by simp only[E8,seval,Cl]<;>rfl) (by simp only[E8,seval,Cl]<;>rfl),wS.some _ _⟩
theorem aPv (x:wH) (h:oU x):∃r,aB Tryz.prog 200 [.agg (kI x)]=some r∧wS r:=by
 have oD:=h.fl
 obtain⟨V,hV,nV⟩:=h.Ft
 obtain⟨b,hb,nb,rb⟩:=h.TG
 obtain⟨m1,e1,b1⟩:=(aPq x.block h.rb).at (cK (tV _))
 obtain⟨r2,e2,o2,f2,rfl⟩:=aPr x.Ft V hV nV h.ra.1 h.ra.2
 obtain⟨r3,e3,o3,f3,rfl⟩:=aPs x.oG h.c1 h.c2 h.rs.1 h.rs.2.1 h.rs.2.2.1 h.rs.2.2.2
 obtain⟨r4,e4,o4,f4,rfl⟩:=aPt x.table b hb nb rb h.rt
 obtain⟨r5,e5,o5,f5,rfl⟩:=aPu x.verdict h.rv
 have k2:=kx e2 (cK ((qE _).2 oD.1)) (.eE _ (bA (xT _) (.v _)))
 have k3:=kx e3 (cK ((mJ _).2 ⟨oD.2.1,oD.2.2.1⟩)) (.eE _ (bA (xT _) (.v _)))
 have k4:=kx e4 (cK ((jX _).2 oD.2.2.2)) (.eE _ (bA (xT _) (.v _)))
 have k5:=kx e5 (cK (.agg _ (jM _))) (.eE _ (bA (xT _) (.v _)))
 obtain⟨m6,e6,b6⟩:=(r7 _ (jJ x.write)).at (cK (.v _))
 obtain⟨m7,e7,b7⟩:=(Wp _ (jJ x.pW)).at (cK (.v _)) (l:=m6) (by omega)
 rw[cL Tryz.func200 rfl aK6 rfl];by_cases g2:x.kind=2
 ·simp only[Z8,seval,bt g2,e1];exact⟨_,dC rfl rfl rfl (by simp only[E8,seval,Cl]<;>rfl) (by simp only[E8,seval,Cl]<;>rfl),wS.some _ _⟩
 by_cases g3:x.kind=3
 ·simp only[Z8,seval,bf g2,bt g3,k2,dM];exact⟨_,dC rfl rfl rfl (by simp only[E8,seval,qR]<;>rfl) (by simp only[E8,seval,qR]<;>rfl),_,_,rfl⟩
 by_cases g4:x.kind=4
 ·simp only[Z8,seval,bf g2,bf g3,bt g4,k3,dM];exact⟨_,dC rfl rfl rfl (by simp only[E8,seval,qR]<;>rfl) (by simp only[E8,seval,qR]<;>rfl),_,_,rfl⟩
 by_cases g5:x.kind=5
 ·simp only[Z8,seval,bf g2,bf g3,bf g4,bt g5,k4,dM];exact⟨_,dC rfl rfl rfl (by simp only[E8,seval,qR]<;>rfl) (by simp only[E8,seval,qR]<;>rfl),_,_,rfl⟩
 by_cases g6:x.kind=6
 ·simp only[Z8,seval,bf g2,bf g3,bf g4,bf g5,bt g6,k5,dM];exact⟨_,dC rfl rfl rfl (by simp only[E8,seval,qR]<;>rfl) (by simp only[E8,seval,qR]<;>rfl),_,_,rfl⟩
 by_cases g8:x.kind=8
 case neg =>
  simp only[Z8,seval,bf g2,bf g3,bf g4,bf g5,bf g6,bf g8];exact⟨_,dC rfl rfl rfl (by simp only[E8,seval]<;>rfl) (by simp only[E8,seval]<;>rfl),wS.none _⟩
 by_cases w1:x.write<0
 ·simp only[Z8,seval,bf g2,bf g3,bf g4,bf g5,bf g6,bt g8,w1];exact⟨_,dC rfl rfl rfl (by simp only[E8,seval]<;>rfl) (by simp only[E8,seval]<;>rfl),wS.none _⟩
 by_cases w2:32768<x.write
 ·simp only[Z8,seval,bf g2,bf g3,bf g4,bf g5,bf g6,bt g8,w1,w2];exact⟨_,dC rfl rfl rfl (by simp only[E8,seval]<;>rfl) (by simp only[E8,seval]<;>rfl),wS.none _⟩
 by_cases w3:x.pW<0
 ·simp only[Z8,seval,bf g2,bf g3,bf g4,bf g5,bf g6,bt g8,w1,w2,w3];exact⟨_,dC rfl rfl rfl (by simp only[E8,seval]<;>rfl) (by simp only[E8,seval]<;>rfl),wS.none _⟩
 by_cases w4:32768<x.pW
 ·simp only[Z8,seval,bf g2,bf g3,bf g4,bf g5,bf g6,bt g8,w1,w2,w3,w4];exact⟨_,dC rfl rfl rfl (by simp only[E8,seval]<;>rfl) (by simp only[E8,seval]<;>rfl),wS.none _⟩
 simp only[Z8,seval,bf g2,bf g3,bf g4,bf g5,bf g6,bt g8,w1,w2,w3,w4,e6,e7];exact⟨_,dC rfl rfl rfl (by simp only[E8,seval,Cl]<;>rfl) (by simp only[E8,seval,Cl]<;>rfl),wS.some _ _⟩
theorem XU:Rg 0:=⟨by omega,by omega⟩
theorem zOk:oU yU:=⟨⟨none,rfl,by simp[ol]⟩,⟨none,rfl,by simp[ol]⟩,⟨none,rfl,by simp[ol]⟩,⟨none,rfl,by simp[ol],by simp[ol]⟩,⟨XU,XU,XU,XU,XU⟩,⟨XU,XU⟩,⟨XU,XU,XU,XU⟩,XU,XU⟩
theorem aPw (x:wH) (h:oU x):∃r,aB Tryz.prog 184 [.agg (kI x)]=some r∧∃e:Int,r=.v (.int .i64 e):=by
 have z:=zOk
 have hf:=h.flat
 obtain⟨r1,e1,o1,e,rfl⟩:=aPv x h
 have LZ:=kx e1 (cK hf) (.eE _ (bA (xT _) (.v _)))
 rw[cG Tryz.func184 rfl aK7 (by kernel_rfl) rfl]
 by_cases g1:x.kind<1
 ·simp only[ZG,seval,Bool.false_and,Prod.mk.injEq,Jy,g1];exact⟨_,bP rfl (by simp only[E8,seval]<;>rfl) (by first|exact .v _|simp only[eA]),_,rfl⟩
 by_cases g9:8<x.kind
 ·simp only[ZG,seval,Bool.false_and,Prod.mk.injEq,Jy,g1,g9];exact⟨_,bP rfl (by simp only[E8,seval]<;>rfl) (by first|exact .v _|simp only[eA]),_,rfl⟩
 by_cases g0:e=0
 case neg =>
  simp only[ZG,seval,Bool.false_and,Prod.mk.injEq,Jy,g1,g9,LZ,dM,bf g0];exact⟨_,bP rfl (by simp only[E8,seval]<;>rfl) (by first|exact .v _|simp only[eA]),_,rfl⟩
 by_cases k2:x.kind=2
 ·have hy:oU { yU with kind:=x.kind,block:=x.block }:=⟨z.Ft,z.c1,z.c2,z.TG,h.rb,z.ra,z.rs,z.rt,z.rv⟩
  obtain⟨r2,e2,B,rfl⟩:=TH x { yU with kind:=x.kind,block:=x.block } h hy
  have Qn:=kx e2 (bA hf hy.flat) (.v _)
  have RC:=h.fl
  cases B
  all_goals
   simp only[ZG,seval,Bool.false_and,Prod.mk.injEq,Jy,g1,g9,LZ,dM,bt g0,bt k2,Qn,Aj,Ak,yO,yP];exact⟨_,bP rfl (by simp only[E8,seval]<;>rfl) (by first|exact .v _|simp only[eA]),_,rfl⟩
 by_cases k3:x.kind=3
 ·have hy:oU { yU with kind:=x.kind,Ft:=x.Ft }:=⟨h.Ft,z.c1,z.c2,z.TG,z.rb,h.ra,z.rs,z.rt,z.rv⟩
  obtain⟨r2,e2,B,rfl⟩:=TH x { yU with kind:=x.kind,Ft:=x.Ft } h hy
  have Qn:=kx e2 (bA hf hy.flat) (.v _)
  have RC:=h.fl
  cases B
  all_goals
   simp only[ZG,seval,Bool.false_and,Prod.mk.injEq,Jy,g1,g9,LZ,dM,bt g0,bf k2,bt k3,Qn,Aj,Ak,yO,yP];exact⟨_,bP rfl (by simp only[E8,seval]<;>rfl) (by first|exact .v _|simp only[eA]),_,rfl⟩
 by_cases k4:x.kind=4
 ·have hy:oU { yU with kind:=x.kind,oG:=x.oG }:=⟨z.Ft,h.c1,h.c2,z.TG,z.rb,z.ra,h.rs,z.rt,z.rv⟩
  obtain⟨r2,e2,B,rfl⟩:=TH x { yU with kind:=x.kind,oG:=x.oG } h hy
  have Qn:=kx e2 (bA hf hy.flat) (.v _)
  have RC:=h.fl
  cases B
  all_goals
   simp only[ZG,seval,Bool.false_and,Prod.mk.injEq,Jy,g1,g9,LZ,dM,bt g0,bf k2,bf k3,bt k4,Qn,Aj,Ak,yO,yP];exact⟨_,bP rfl (by simp only[E8,seval]<;>rfl) (by first|exact .v _|simp only[eA]),_,rfl⟩
 by_cases k5:x.kind=5
 ·have hy:oU { yU with kind:=x.kind,table:=x.table }:=⟨z.Ft,z.c1,z.c2,h.TG,z.rb,z.ra,z.rs,h.rt,z.rv⟩
  obtain⟨r2,e2,B,rfl⟩:=TH x { yU with kind:=x.kind,table:=x.table } h hy
  have Qn:=kx e2 (bA hf hy.flat) (.v _)
  have RC:=h.fl
  cases B
  all_goals
   simp only[ZG,seval,Bool.false_and,Prod.mk.injEq,Jy,g1,g9,LZ,dM,bt g0,bf k2,bf k3,bf k4,bt k5,Qn,Aj,Ak,yO,yP];exact⟨_,bP rfl (by simp only[E8,seval]<;>rfl) (by first|exact .v _|simp only[eA]),_,rfl⟩
 by_cases k6:x.kind=6
 ·have hy:oU { yU with kind:=x.kind,verdict:=x.verdict }:=⟨z.Ft,z.c1,z.c2,z.TG,z.rb,z.ra,z.rs,z.rt,h.rv⟩
  obtain⟨r2,e2,B,rfl⟩:=TH x { yU with kind:=x.kind,verdict:=x.verdict } h hy
  have Qn:=kx e2 (bA hf hy.flat) (.v _)
  have RC:=h.fl
  cases B
  all_goals
   simp only[ZG,seval,Bool.false_and,Prod.mk.injEq,Jy,g1,g9,LZ,dM,bt g0,bf k2,bf k3,bf k4,bf k5,bt k6,Qn,Aj,Ak,yO,yP];exact⟨_,bP rfl (by simp only[E8,seval]<;>rfl) (by first|exact .v _|simp only[eA]),_,rfl⟩
 by_cases k8:x.kind=8
 ·have hy:oU { yU with kind:=x.kind,write:=x.write,pW:=x.pW }:=⟨z.Ft,z.c1,z.c2,z.TG,z.rb,z.ra,z.rs,z.rt,z.rv⟩
  obtain⟨r2,e2,B,rfl⟩:=TH x { yU with kind:=x.kind,write:=x.write,pW:=x.pW } h hy
  have Qn:=kx e2 (bA hf hy.flat) (.v _)
  have RC:=h.fl
  cases B
  all_goals
   simp only[ZG,seval,Bool.false_and,Prod.mk.injEq,Jy,g1,g9,LZ,dM,bt g0,bf k2,bf k3,bf k4,bf k5,bf k6,bt k8,Qn,Aj,Ak,yO,yP];exact⟨_,bP rfl (by simp only[E8,seval]<;>rfl) (by first|exact .v _|simp only[eA]),_,rfl⟩
 have hy:oU { yU with kind:=x.kind }:=⟨z.Ft,z.c1,z.c2,z.TG,z.rb,z.ra,z.rs,z.rt,z.rv⟩
 obtain⟨r2,e2,B,rfl⟩:=TH x { yU with kind:=x.kind } h hy
 have Qn:=kx e2 (bA hf hy.flat) (.v _)
 have RC:=h.fl
 cases B
 all_goals
  simp only[ZG,seval,Bool.false_and,Prod.mk.injEq,Jy,g1,g9,LZ,dM,bt g0,bf k2,bf k3,bf k4,bf k5,bf k6,bf k8,Qn,Aj,Ak,yO,yP];exact⟨_,bP rfl (by simp only[E8,seval]<;>rfl) (by first|exact .v _|simp only[eA]),_,rfl⟩
theorem x45 (n bits:Int) (h0:0<n) (h1:n≤1000):∃r,aB Tryz.prog 45 [.v (.int .i64 n),.v (.int .i64 bits)]=some r∧∃l:List Int,r=.uniq 3 1 l.length (aH l)∧(l.length:Int)≤n:=by
 rw[cL Tryz.func45 rfl aPx rfl];simp only[Z8,seval];refine cJ (fun m st=>∃k:Nat,(st.env 0=.v (.int .i64 n)∧st.env 1=.v (.int .i64 bits)∧st.env 6=.v (.int .i64 k))∧(st.env 5=.v (.slice none 0 0)∨∃(l:List Int) (g:Nat),(st.env 5=.own 21 g∧st.heap 21 g=some (.row 3 1 l.length (aH l)))∧g<st.aQ 21∧0<l.length∧l.length≤k)∧(k:Int)≤n∧m=(n-k).toNat)
  (fun e st=>e=.exit 0∧st.env 0=.v (.int .i64 n)∧(st.env 5=.v (.slice none 0 0)∨∃(l:List Int) (g:Nat),(st.env 5=.own 21 g∧st.heap 21 g=some (.row 3 1 l.length (aH l)))∧0<l.length∧(l.length:Int)≤n)) n.toNat ?step ?start ?rest
 case step =>
  rintro m st ⟨k,hI,h5,hk,hm⟩
  by_cases aZ:(k:Int)<n
  ·have q0:(0:Int)≤k:=by omega
   have hw:IntKind.i64.wrap ((k:Int)+1)=((k+1:Nat):Int):=by rw[pV _ (by omega) (by omega)];omega
   by_cases hh:IntKind.i64.wrap ((BitVec.ofInt IntKind.i64.bits (bits.fdiv (2 ^ min (IntKind.u64.wrap (k:Int)).toNat IntKind.i64.bits)) &&& BitVec.ofInt IntKind.i64.bits 1).toNat:Int)=1
   ·rcases h5 with h5|⟨l,g,h5,hg,hl0,hl⟩
    ·apply oN ((n-((k+1:Nat):Int)).toNat)
     ·simp only[Z8,seval,hI,h5,aZ,q0,wR,bt hh,hw];rfl
     ·exact⟨k+1,by simp only[E8,seval,hI],.inr ⟨[(k:Int)],_,⟨by simp only[E8,seval]<;>rfl,by simp only[E8,seval]<;>rfl⟩,by simp only[E8,seval]<;>omega,by simp,by simp⟩,by omega,rfl⟩
    ·have uR:(g=st.aQ 21)=False:=eq_false (by omega)
     have nl:(l.length:Int)<1000000:=by omega
     apply oN ((n-((k+1:Nat):Int)).toNat)
     ·simp only[Z8,seval,hI,h5,uR,aZ,q0,wR,bt hh,hw,Ed _ _ _ _ nl];rfl
     ·exact⟨k+1,by simp only[E8,seval,hI],.inr ⟨l++[(k:Int)],_,⟨by simp only[E8,seval]<;>rfl,by simp only[E8,seval]<;>rfl⟩,by simp only[E8,seval]<;>omega,by simp,by rw[List.length_append,List.length_cons,List.length_nil];omega⟩,by omega,rfl⟩
   ·have h5':st.env 5=.v (.slice none 0 0)∨∃(l:List Int) (g:Nat),(st.env 5=.own 21 g∧st.heap 21 g=some (.row 3 1 l.length (aH l)))∧g<st.aQ 21∧0<l.length∧l.length≤k+1:=h5.imp id fun ⟨l,g,a,b,c,d⟩=>⟨l,g,a,b,c,by omega⟩
    apply oN ((n-((k+1:Nat):Int)).toNat)
    ·simp only[Z8,seval,hI,aZ,q0,wR,bf hh,hw];rfl
    ·exact⟨k+1,by simp only[E8,seval,hI],by simpa only[E8,seval] using h5',by omega,rfl⟩
  ·have h5':st.env 5=.v (.slice none 0 0)∨∃(l:List Int) (g:Nat),(st.env 5=.own 21 g∧st.heap 21 g=some (.row 3 1 l.length (aH l)))∧0<l.length∧(l.length:Int)≤n:=h5.imp id fun ⟨l,g,a,b,c,d⟩=>⟨l,g,a,c,by omega⟩
   apply oT (.exit 0)
   ·simp only[Z8,seval,hI,aZ];rfl
   ·exact⟨rfl,by simp only[E8,seval,hI],by simpa only[E8,seval] using h5'⟩
 case start=>exact⟨0,by simp only[E8,seval]<;>rfl,.inl (by simp only[E8,seval]),by omega,by simp⟩
 case rest =>
  rintro e st ⟨rfl,h0',h5|⟨l,g,h5,hl0,hl⟩⟩
  ·simp only[Z8,seval,h0',h5,h0];exact⟨_,Wq (n:=([0]:List Int).length) (cs:=aH [0]) (aE (by decide)) (.inl rfl) rfl (by simp only[E8,seval]<;>rfl) (by simp only[E8,seval]<;>rfl) (gB _),_,rfl,by simp;omega⟩
  ·have hn0:¬((l.length:Int)=0):=by omega
   simp only[Z8,seval,h0',h5,bf hn0];exact⟨_,sU rfl (by simp only[E8,seval,h5]<;>rfl) (by simp only[E8,seval,h5]<;>rfl) (gB _),l,rfl,hl⟩
theorem k45 (n bits:Int) (h0:0<n) (h1:n≤1000):∃l:List Int,(∀(st:St) (d:Nat),aN (aB Tryz.prog) 45 [.v (.int .i64 n),.v (.int .i64 bits)] st (some d)=some { dst:=some d,val:=.own d (st.aQ d),new:=some (d,[.row 3 1 l.length (aH l)])})∧(l.length:Int)≤n:=by
 obtain⟨r,hr,l,rfl,hl⟩:=x45 n bits h0 h1
 exact⟨l,fun st d=>jA (bA (.v _) (.v _)) hr,hl⟩
theorem x92 {s:aM} {v:SV} {q:Int} (h:GI s v q) (r:RG s v) (i e:Int) (he:Rg e):∃x,aB Tryz.prog 92 [.agg (aA s),.v (.int .i64 i),.v (.int .u64 e)]=some x∧∃c:fB,x=.agg (bV c)∧Rg c.aI:=by
 have N3:=KH v.ns h.up h.sd.nn i (IntKind.u64.wrap (e * s.cFg.jK))
 have hr:=DM h.up (i:=i) (s:=IntKind.u64.wrap (e * s.cFg.jK))
 obtain⟨k,hk⟩:∃k,Dh v.ns i (IntKind.u64.wrap (e * s.cFg.jK))=k:=⟨_,rfl⟩
 rw[hk] at N3 hr
 rw[cL Tryz.func92 rfl aPz rfl];by_cases g1:k<0
 ·simp only[Z8,seval,h.sd.tree,N3,g1];exact⟨_,fI rfl (by simp only[E8,seval,Ah]<;>rfl) (by simp only[Z8,seval,Ah]<;>rfl) (by simp only[eA,and_self,Ah]),_,rfl,r.f⟩
 ·have k0:0≤k:=by omega
  have k1:k<v.ns.length:=by omega
  simp only[Z8,seval,h.sd.tree,N3,g1,k0,k1];exact⟨_,fI rfl (by simp only[E8,seval,Ah]<;>rfl) (by simp only[Z8,seval,Ah]<;>rfl) (by simp only[eA,and_self,Ah]),_,rfl,he⟩
end Go.Ab.Tryz
