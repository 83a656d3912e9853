/-
  Part 13 of the proof: an evaluator of programs, its soundness, and what functions of this program compute.
-/
import Derived.Test.YtmcjkemalibacaaGreatK12
import Derived.Test.YtmcjkemalibacaaGreatK9
import Derived.Test.YtmcjkemalibacaaGreatK11
set_option linter.all false
set_option maxRecDepth 20000
set_option maxHeartbeats 40000000
namespace Go.Ab.Tryz
open Classical Go.Proofs Go.Ab
theorem aGo (ns:List Node) (i x:Int):∀k:Nat,x∈Sv ns i k→(0≤x∧x<k)∧(nd ns x).up=i:=by
 intro k;induction k with
 | zero=>intro h;simp[Sv] at h
 | succ k ih =>
   intro h;unfold Sv at h;split at h
   ·rename_i hc;rcases List.mem_append.1 h with h|h
    ·have:=ih h;omega
    ·have hx:=List.mem_singleton.1 h
     subst hx;exact⟨by omega,hc⟩
   ·have:=ih h;omega
theorem GU {ns:List Node} (hu:gM ns) (hr:(nd ns 0).up=-1) {i x:Int} (h:x∈wN ns i):i<x∧0≤x∧x<ns.length:=by
 unfold wN at h;split at h
 ·simp at h
 ·rename_i hi;obtain⟨⟨x0,x1⟩,Mo⟩:=aGo ns i x _ h
  by_cases hx:x=0
  ·subst hx;rw[hr] at Mo;omega
  ·have:=(hu x (by omega) x1).2;omega
theorem aLs {s:aL} {v:SV} (hs:SD s v) (hu:gM v.ns) (hr:(nd v.ns 0).up=-1) (hp:s.cFg.kE≠0):∀(n:Nat) (i:Int),((v.ns.length:Int)-i).toNat≤n→∃b:Bool,aB Tryz.prog 244 [.agg (aA s),.v (.int .i64 i)]=some (.v (.bool b)):=by
 have base:∀(i:Int),wN v.ns i=[]→∃b:Bool,aB Tryz.prog 244 [.agg (aA s),.v (.int .i64 i)]=some (.v (.bool b)):=by
  intro i hc;obtain⟨r,hr9,b,rfl⟩:=aLq hs hp i
  have Q1:=kx hr9 (bE hs.flat (.v _)) (.v _)
  have kc:=fun st d=>aEO v.ns hu hr hs.nn i hc st d
  suffices h:∃r,aB Tryz.prog 244 [.agg (aA s),.v (.int .i64 i)]=some r∧∃b:Bool,r=.v (.bool b) by
   obtain⟨r,h,b,rfl⟩:=h;exact⟨b,h⟩
  rw[cL Tryz.func244 rfl aE2 rfl];cases b
  ·simp only[Z8,seval,Q1,hs.tree,kc];refine cF (fun m st=>st.env 5=.v (.slice none 0 0)∧st.env 6=.v (.int .i64 0)∧m=0) (fun e st=>e=.exit 0) 0 ?step ?start ?rest
   case step =>
    rintro m st ⟨h5,h6,_⟩
    apply oT (.exit 0)
    ·simp only[Z8,seval,h5,h6,Int.lt_irrefl];rfl
    ·exact rfl
   case start=>exact⟨by simp only[E8,seval]<;>rfl,by simp only[E8,seval]<;>rfl,rfl⟩
   case rest =>
    rintro e st rfl
    simp only[Z8,seval];exact⟨_,bX rfl (by simp only[E8,seval]<;>rfl) (by first|exact .v _|simp only[dV]),_,rfl⟩
  ·simp only[Z8,seval,Q1];exact⟨_,bX rfl (by simp only[E8,seval]<;>rfl) (by first|exact .v _|simp only[dV]),_,rfl⟩
 intro n;induction n with
 | zero =>
   intro i hi;exact base i (LK hu hr (by omega))
 | succ n ih =>
   intro i hi;by_cases hc:wN v.ns i=[]
   ·exact base i hc
   obtain⟨r,hr9,b,rfl⟩:=aLq hs hp i
   have Q1:=kx hr9 (bE hs.flat (.v _)) (.v _)
   have kc:=fun st d=>aKh v.ns hu hr hs.nn i hc st d
   have hB:∀x:Int,∃b:Bool,x∈wN v.ns i→aB Tryz.prog 244 [.agg (aA s),.v (.int .i64 x)]=some (.v (.bool b)):=by
    intro x;by_cases hx:x∈wN v.ns i
    ·have:=GU hu hr hx
     obtain⟨b,hb⟩:=ih x (by omega)
     exact⟨b,fun _=>hb⟩
    ·exact⟨false,fun h=>absurd h hx⟩
   obtain⟨B,hB⟩:∃B:Int→Bool,∀x,x∈wN v.ns i→aB Tryz.prog 244 [.agg (aA s),.v (.int .i64 x)]=some (.v (.bool (B x))):=⟨fun x=>Classical.choose (hB x),fun x=>Classical.choose_spec (hB x)⟩
   have hgt:∀x∈wN v.ns i,i<x∧0≤x∧x<v.ns.length:=fun x hx=>GU hu hr hx
   have hin:((wN v.ns i).length:Int)<1000000:=by
    have h1:(wN v.ns i).length≤v.ns.length:=by
     unfold wN;split
     ·simp
     ·exact Va v.ns i v.ns.length
    have:=hs.nn;omega
   obtain⟨l,el⟩:∃l,wN v.ns i=l:=⟨_,rfl⟩
   rw[el] at kc hB hin;suffices h:∃r,aB Tryz.prog 244 [.agg (aA s),.v (.int .i64 i)]=some r∧∃b:Bool,r=.v (.bool b) by
    obtain⟨r,h,b,rfl⟩:=h;exact⟨b,h⟩
   rw[cL Tryz.func244 rfl aE2 rfl];cases b
   case true =>
    simp only[Z8,seval,Q1];exact⟨_,bX rfl (by simp only[E8,seval]<;>rfl) (by first|exact .v _|simp only[dV]),_,rfl⟩
   simp only[Z8,seval,Q1,hs.tree,kc];refine cF (fun m st=>∃k:Nat,(st.env 2=.ptr 2 0 0∧st.heap 2 0=some (.cells (aA s))∧st.env 5=.own 13 0∧st.heap 13 0=some (.row 3 1 l.length (aK l))∧st.env 6=.v (.int .i64 k))∧(∀j:Nat,j<k→¬(B (it l (j:Int))=true))∧k≤l.length∧m=l.length-k)
    (fun e st=>(e=.ret∧∃k:Nat,k<l.length∧(B (it l (k:Int))=true)∧(∀j:Nat,j<k→¬(B (it l (j:Int))=true))∧st.env 4=.v (.bool true))∨(e=.exit 0∧(∀j:Nat,j<l.length→¬(B (it l (j:Int))=true))∧st.env 2=.ptr 2 0 0∧st.heap 2 0=some (.cells (aA s))∧st.env 5=.own 13 0∧st.heap 13 0=some (.row 3 1 l.length (aK l)))) (l.length) ?step ?start ?rest
   case step =>
    rintro m st ⟨k,hI,hj,hk,hm⟩
    by_cases bA:(k:Int)<l.length
    ·have q0:(0:Int)≤k:=by omega
     have hw:IntKind.i64.wrap ((k:Int)+1)=((k+1:Nat):Int):=by rw[mZ _ (by omega) (by omega)];omega
     have gi:=nM q0 bA
     have hm2:it l (k:Int)∈l:=by obtain⟨h1,h2⟩:=xJ q0 bA;rw[h2];exact List.getElem_mem h1
     have kb:=kx (hB _ hm2) (bE hs.flat (.v _)) (.v _)
     by_cases hh:B (it l (k:Int))=true
     ·apply oT (.ret)
      ·simp only[Z8,seval,hI,bA,q0,kb,gi,hh];rfl
      ·exact .inl ⟨rfl,k,by omega,hh,hj,by simp only[E8,seval,kb,gi]⟩
     ·have hn:B (it l (k:Int))=false:=by simpa using hh
      apply oN (l.length-(k+1))
      ·simp only[Z8,seval,hI,bA,q0,kb,gi,hn,hw];rfl
      ·exact⟨k+1,by simp only[E8,seval,hI],fun j h=>(Nat.lt_succ_iff_lt_or_eq.1 h).elim (hj j) fun e=>by subst e;exact hh,by omega,rfl⟩
    ·apply oT (.exit 0)
     ·simp only[Z8,seval,hI,bA,bA];rfl
     ·exact .inr ⟨rfl,fun j h=>hj j (by omega),by simp only[E8,seval,hI]⟩
   case start=>exact⟨0,by simp only[E8,seval]<;>rfl,fun j h=>by omega,by omega,by omega⟩
   case rest =>
    rintro e st (⟨rfl,k,hk,hh,hj,h⟩|⟨rfl,hj,hI⟩)
    ·simp only[Z8,seval];exact⟨_,bX rfl (by simp only[E8,seval,h]<;>rfl) (by first|exact .v _|simp only[dV,h]),_,rfl⟩
    ·simp only[Z8,seval];exact⟨_,bX rfl (by simp only[E8,seval]<;>rfl) (by first|exact .v _|simp only[dV]),_,rfl⟩
theorem aQD {s:aL} {v:SV} {q:Int} (h:GI s v q):∃x,aB Tryz.prog 224 [.agg (aA s)]=some x∧∃m:List Bool,x=.uniq 4 1 m.length (mT m)∧m.length=v.ns.length:=by
 have hn:=h.sd.nn
 have h0:=h.pos
 obtain⟨B,hB⟩:∃B:Int→Bool,∀x,aB Tryz.prog 244 [.agg (aA s),.v (.int .i64 x)]=some (.v (.bool (B x))):=⟨fun x=>Classical.choose (aLs h.sd h.up h.DT h.sp _ x (Nat.le_refl _)),fun x=>Classical.choose_spec (aLs h.sd h.up h.DT h.sp _ x (Nat.le_refl _))⟩
 have kb:∀(x:Int) (st:St) (d:Option Nat),aN (aB Tryz.prog) 244 [.agg (aA s),.v (.int .i64 x)] st d=some { dst:=d,val:=.v (.bool (B x))}:=fun x=>kx (hB x) (bE h.sd.flat (.v _)) (.v _)
 rw[cL Tryz.func224 rfl aLt rfl];simp only[Z8,seval];refine cF (fun m st=>∃k:Nat,(st.env 1=.ptr 1 0 0∧st.heap 1 0=some (.cells (aA s))∧st.env 4=.v (.int .i64 k))∧((k=0∧st.env 3=.v (.slice none 0 0))∨∃(l:List Bool) (g:Nat),st.env 3=.own 18 g∧g<st.aQ 18∧st.heap 18 g=some (.row 4 1 l.length (mT l))∧l.length=k)∧k≤v.ns.length∧m=v.ns.length-k)
  (fun e st=>e=.exit 0∧∃(l:List Bool) (g:Nat),st.env 3=.own 18 g∧st.heap 18 g=some (.row 4 1 l.length (mT l))∧l.length=v.ns.length) v.ns.length ?step ?start ?rest
 case step =>
  rintro m st ⟨k,hI,h5,hk,hm⟩
  by_cases bA:(k:Int)<v.ns.length
  ·have q0:(0:Int)≤k:=by omega
   have hw:IntKind.i64.wrap ((k:Int)+1)=((k+1:Nat):Int):=by rw[mZ _ (by omega) (by omega)];omega
   rcases h5 with ⟨qA,h5⟩|⟨l',g,h5,hg,Ak,Gk⟩
   ·apply oN (v.ns.length-(k+1))
    ·simp only[Z8,seval,hI,h5,bA,q0,h.sd.tree,kb,hw];rfl
    ·exact⟨k+1,by simp only[E8,seval,hI],.inr ⟨[B k],st.aQ 18,by simp only[E8,seval]<;>rfl,by simp only[E8,seval]<;>omega,by simp only[E8,seval]<;>rfl,by simp;omega⟩,by omega,rfl⟩
   ·have nl:(l'.length:Int)<1000000:=by omega
    apply oN (v.ns.length-(k+1))
    ·simp only[Z8,seval,hI,h5,Ak,bA,q0,h.sd.tree,kb,hw,ML _ _ _ _ nl];rfl
    ·exact⟨k+1,by simp only[E8,seval,hI],.inr ⟨l'++[B k],st.aQ 18,by simp only[E8,seval]<;>rfl,by simp only[E8,seval]<;>omega,by simp only[E8,seval]<;>rfl,by rw[List.length_append];simp;omega⟩,by omega,rfl⟩
  ·have Az:k=v.ns.length:=by omega
   rcases h5 with ⟨qA,h5⟩|⟨l,g,h5,hg,Ak,hl⟩
   ·omega
   ·apply oT (.exit 0)
    ·simp only[Z8,seval,hI,bA,h.sd.tree];rfl
    ·exact⟨rfl,l,g,by simp only[E8,seval,h5],by simp only[E8,seval,Ak],by omega⟩
 case start=>exact⟨0,by simp only[E8,seval]<;>rfl,.inl ⟨rfl,by simp only[E8,seval]⟩,by omega,by omega⟩
 case rest =>
  rintro e st ⟨rfl,l,g,h5,Ak,hl⟩
  simp only[Z8,seval,h5];exact⟨_,tO rfl (by simp only[E8,seval,h5]<;>rfl) (by simp only[E8,seval,Ak]<;>rfl) (Sy _),l,rfl,hl⟩
theorem vQ {x:AV} (h:Flat x):jE x=[]:=by
 have one:∀c,Flat c→hU c=[]:=fun c hc=>by cases hc<;>rfl
 cases h with
 | agg cs h =>
   simp only[jE];rw[List.flatMap_eq_nil_iff];exact fun c hc=>one c (h c hc)
 | _=>rfl
theorem UJ {args:List AV} (h:∀x∈args,Flat x):args.flatMap jE=[]:=List.flatMap_eq_nil_iff.2 fun x hx=>vQ (h x hx)
theorem MM {call:Nat→List AV→Option AV} {g:Nat} {args:List AV} {st:St} {d:Option Nat} (h:∀x∈args,Flat x):fF call g args st d=aN call g args st d:=by
 unfold fF;rw[UJ h]
theorem Hg {call:Nat→List AV→Option AV} {g:Nat} {args:List AV} {r:AV} {st:St} {d:Option Nat} (hf:∀x∈args,Flat x) (h:call g args=some r) (hr:Flat r):fF call g args st d=some { dst:=d,val:=r }:=by
 rw[MM hf];exact bG hf h hr
noncomputable def Lh (call:Nat→List AV→Option AV) (g:Nat) (xs:Option (List AV)) (s k:Nat) (st:St) (d:Option Nat):Option rT :=
 cS xs fun xs=>cS (call g xs) fun r=>Ec r st d s k
theorem Nw {call:Nat→List AV→Option AV} {g:Nat} {args:List AV} {st:St} {d:Option Nat} {s k:Nat} (hk:args.flatMap jE=[(s,k)]) (he:∀x∈args,YK x):fF call g args st d=Lh call g (cM (args.map (fO st))) s k st d:=by
 unfold fF Lh;rw[hk];simp only
 rw[if_pos he];cases cM (args.map (fO st))<;>rfl
theorem MN {call:Nat→List AV→Option AV} {g:Nat} {xs:List AV} {r:AV} {s k:Nat} {st:St} {d:Option Nat} (h:call g xs=some r) (hr:Flat r):Lh call g (some xs) s k st d=some { dst:=d,val:=r,dQ:=some (s,k,none)}:=by
 unfold Lh Ec;simp only[cK,h,if_pos hr]
theorem aCs {call:Nat→List AV→Option AV} {g:Nat} {xs:List AV} {e sz n:Nat} {cs:List AV} {s k:Nat} {st:St} {d:Nat} (h:call g xs=some (.uniq e sz n cs)) (hm:∀c∈cs,iC c):Lh call g (some xs) s k st (some d)=some { dst:=some d,val:=.own d (st.aQ d),dQ:=some (s,k,none),new:=some (d,[.row e sz n cs])}:=by
 have hnf:¬Flat (.uniq e sz n cs):=by intro h;cases h
 unfold Lh Ec;simp only[cK,h,if_neg hnf,if_pos hm]
theorem Q2 {call:Nat→List AV→Option AV} {g:Nat} {args:List AV} {e sz n:Nat} {cs:List AV} {st:St} {d:Nat} (hf:∀x∈args,Flat x) (h:call g args=some (.uniq e sz n cs)):fF call g args st (some d)=some { dst:=some d,val:=.own d (st.aQ d),new:=some (d,[.row e sz n cs])}:=by
 have hnf:¬Flat (.uniq e sz n cs):=by intro h;cases h
 rw[MM hf];unfold aN;rw[if_pos hf,h];simp only[cK];unfold jC;rw[if_neg hnf];rfl
theorem Qv {st:St} {a g:Nat} {L:List Int} (hh:st.heap a g=some (.row 3 1 L.length (aK L))):fO st (.own a g)=some (ov aK (some L)):=by
 rw[vP,hh];exact jX L.length L
theorem aLu (o:Option (List Int)) (hn:((ol o).length:Int)<999999) (x:Int) :
 ((∀(st:St) (d:Nat),fF (aB Tryz.prog) 235 [ov aK o,.v (.int .i64 x)] st (some d)=some { dst:=some d,val:=ov aK o }) ∧
  ∀(st:St) (d a g:Nat) (L:List Int),o=some L→st.heap a g=some (.row 3 1 L.length (aK L))→fF (aB Tryz.prog) 235 [.own a g,.v (.int .i64 x)] st (some d)=some { dst:=some d,val:=ov aK (some L),dQ:=some (a,g,none)}) ∨
 ∃M:List Int,M.length=(ol o).length+1∧(∀(st:St) (d:Nat),fF (aB Tryz.prog) 235 [ov aK o,.v (.int .i64 x)] st (some d)=some { dst:=some d,val:=.own d (st.aQ d),new:=some (d,[.row 3 1 M.length (aK M)])}) ∧
  ∀(st:St) (d a g:Nat) (L:List Int),o=some L→st.heap a g=some (.row 3 1 L.length (aK L))→fF (aB Tryz.prog) 235 [.own a g,.v (.int .i64 x)] st (some d)=some { dst:=some d,val:=.own d (st.aQ d),dQ:=some (a,g,none),new:=some (d,[.row 3 1 M.length (aK M)])}:=by
 have one:∀(st:St) (d a g:Nat) (L:List Int),o=some L→st.heap a g=some (.row 3 1 L.length (aK L))→fF (aB Tryz.prog) 235 [.own a g,.v (.int .i64 x)] st (some d)=Lh (aB Tryz.prog) 235 (some [ov aK o,.v (.int .i64 x)]) a g st (some d):=by
  rintro st d a g L rfl hh
  rw[Nw (s:=a) (k:=g) rfl (by intro y hy;simp only[List.mem_cons,List.not_mem_nil,or_false] at hy;rcases hy with rfl|rfl;exact .inr (.inl ⟨a,g,rfl⟩);exact .inl (.v _)),
   List.map_cons,List.map_cons,List.map_nil,Qv hh,Lf,bN,bN,fR]
  rfl
 obtain⟨r,hr,h⟩:=aQt o hn x
 rcases h with rfl|⟨M,rfl,hM⟩
 ·refine .inl ⟨fun st d=>Hg (bE (bW o) (.v _)) hr (bW o),fun st d a g L ho hh=>?_⟩
  rw[one st d a g L ho hh];subst ho;exact MN hr (bW _)
 ·refine .inr ⟨M,hM,fun st d=>Q2 (bE (bW o) (.v _)) hr,fun st d a g L ho hh=>?_⟩
  rw[one st d a g L ho hh];exact aCs hr (C9 M)
theorem aLv (x:fW) (V W:Option (List Int)) (hV:x.first.eU=ov aK V) (hW:x.second.eU=ov aK W) (nV:((ol V).length:Int)<99999) (nW:((ol W).length:Int)<99999) :
 ∃r,aB Tryz.prog 221 [.agg (cC x)]=some r∧∃o:Option (List Int),((ol o).length:Int)≤(ol V).length∧(r=ov aK o∨∃L,o=some L∧r=.uniq 3 1 L.length (aK L)):=by
 have f1:Flat x.first.eU:=by rw[hV];exact bW V
 have f2:Flat x.second.eU:=by rw[hW];exact bW W
 rw[cL Tryz.func221 rfl aLw rfl];simp only[Z8,seval];refine cF (fun m st=>∃k:Nat,(st.env 1=.ptr 1 0 0∧st.heap 1 0=some (.cells (cC x))∧st.env 4=.v (.int .i64 k))∧(∃o:Option (List Int),(ol o).length≤k∧(st.env 3=ov aK o∨∃g L,o=some L∧st.env 3=.own 30 g∧g<st.aQ 30∧st.heap 30 g=some (.row 3 1 L.length (aK L))))∧k≤(ol V).length∧m=(ol V).length-k)
  (fun e st=>e=.exit 0∧∃o:Option (List Int),(ol o).length≤(ol V).length∧(st.env 3=ov aK o∨∃g L,o=some L∧st.env 3=.own 30 g∧st.heap 30 g=some (.row 3 1 L.length (aK L)))) (ol V).length ?step ?start ?rest
 case step =>
  rintro m st ⟨k,hI,⟨o,ho,h3⟩,hk,hm⟩
  by_cases bA:(k:Int)<(ol V).length
  ·have q0:(0:Int)≤k:=by omega
   have hw:IntKind.i64.wrap ((k:Int)+1)=((k+1:Nat):Int):=by rw[mZ _ (by omega) (by omega)];omega
   have Q3:=aGm W (by omega) (gx (0:Int) (ol V) (k:Int))
   by_cases h1:gx (0:Int) (ol V) (k:Int)∈ol W
   ·have DM:=eq_true h1
    rcases aLu o (by omega) (gx (0:Int) (ol V) (k:Int)) with ⟨ea,eb⟩|⟨M,hM,ea,eb⟩
    ·rcases h3 with h3|⟨g,L,hL,h3,hg,hh⟩
     ·apply oN ((ol V).length-(k+1))
      ·simp only[Z8,seval,hI,h3,bA,q0,hV,hW,Q3,DM,ea,hw];rfl
      ·exact⟨k+1,by simp only[E8,seval,hI],⟨o,by omega,.inl (by simp only[E8,seval])⟩,by omega,rfl⟩
     ·have Q4:=fun st d a g=>eb st d a g L hL
      have ho':(ol (some L)).length≤k:=by rw[← hL];exact ho
      apply oN ((ol V).length-(k+1))
      ·simp only[Z8,seval,hI,h3,hh,bA,q0,hV,hW,Q3,DM,Q4,hw];rfl
      ·exact⟨k+1,by simp only[E8,seval,hI],⟨some L,by omega,.inl (by simp only[E8,seval])⟩,by omega,rfl⟩
    ·rcases h3 with h3|⟨g,L,hL,h3,hg,hh⟩
     ·apply oN ((ol V).length-(k+1))
      ·simp only[Z8,seval,hI,h3,bA,q0,hV,hW,Q3,DM,ea,hw];rfl
      ·exact⟨k+1,by simp only[E8,seval,hI],⟨some M,by show M.length≤_;omega,.inr ⟨_,M,rfl,by simp only[E8,seval]<;>rfl,by simp only[E8,seval]<;>omega,by simp only[E8,seval]<;>rfl⟩⟩,by omega,rfl⟩
     ·have Q4:=fun st d a g=>eb st d a g L hL
      have uV:(g=st.aQ 30)=False:=eq_false (by omega)
      apply oN ((ol V).length-(k+1))
      ·simp only[Z8,seval,hI,h3,hh,uV,bA,q0,hV,hW,Q3,DM,Q4,hw];rfl
      ·exact⟨k+1,by simp only[E8,seval,hI],⟨some M,by show M.length≤_;omega,.inr ⟨_,M,rfl,by simp only[E8,seval]<;>rfl,by simp only[E8,seval]<;>omega,by simp only[E8,seval]<;>rfl⟩⟩,by omega,rfl⟩
   ·have DM:=eq_false h1
    have h3':st.env 3=ov aK o∨∃g L,o=some L∧st.env 3=.own 30 g∧g<st.aQ 30∧st.heap 30 g=some (.row 3 1 L.length (aK L)):=h3
    apply oN ((ol V).length-(k+1))
    ·simp only[Z8,seval,hI,bA,q0,hV,hW,Q3,DM,hw];rfl
    ·exact⟨k+1,by simp only[E8,seval,hI],⟨o,by omega,by simpa only[E8,seval] using h3'⟩,by omega,rfl⟩
  ·have h3':st.env 3=ov aK o∨∃g L,o=some L∧st.env 3=.own 30 g∧st.heap 30 g=some (.row 3 1 L.length (aK L)):=h3.imp id fun ⟨g,L,a,b,_,c⟩=>⟨g,L,a,b,c⟩
   apply oT (.exit 0)
   ·simp only[Z8,seval,hI,bA,hV];rfl
   ·exact⟨rfl,o,by omega,by simpa only[E8,seval] using h3'⟩
 case start=>exact⟨0,by simp only[E8,seval]<;>rfl,⟨none,by simp[ol],.inl (by simp only[E8,seval]<;>rfl)⟩,by omega,by omega⟩
 case rest =>
  rintro e st ⟨rfl,o,ho,h3⟩
  rcases h3 with h3|⟨g,L,hL,h3,hh⟩
  ·simp only[Z8,seval,h3];exact⟨_,bX rfl (by simp only[E8,seval,h3]<;>rfl) (bW o),o,by omega,.inl rfl⟩
  ·simp only[Z8,seval,h3];exact⟨_,tO rfl (by simp only[E8,seval,h3]<;>rfl) (by simp only[E8,seval,hh]<;>rfl) (gF _),o,by omega,.inr ⟨L,hL,rfl⟩⟩
theorem aLx {o:Option (List Int)} {L:List Int} (h:(ol o).length≤L.length):IntKind.i64.wrap ((L.length:Int)-((ol o).length:Int))≠0→L≠[]:=by
 rintro hn rfl
 have h0:(ol o).length=0:=by simpa using h
 rw[h0] at hn;exact hn (by decide)
theorem aQE (o V:Option (List Int)) (no:((ol o).length:Int)<900000) (nV:((ol V).length:Int)<99999) :
 ∃r,aB Tryz.prog 220 [ov aK o,ov aK V]=some r∧∃(L:List Int) (n:Int),r=.eE [ov aK (some L),.v (.int .i64 n)]∧L.length≤(ol o).length+(ol V).length∧(n≠0→L≠[]):=by
 rw[cL Tryz.func220 rfl aLy (by cases o<;>cases V<;>rfl)]
 have no':((ol o).length:Int)<1000000:=by omega
 simp only[Z8,seval,Nv _ no'];refine cF (fun m st=>∃k:Nat,(st.env 0=ov aK o∧st.env 1=ov aK V∧st.env 7=.v (.int .i64 k))∧(∃L:List Int,((ol o).length≤L.length∧L.length≤(ol o).length+k)∧(st.env 6=ov aK (some L)∨(∃g,st.env 6=.own 21 g∧g<st.aQ 21∧st.heap 21 g=some (.row 3 1 L.length (aK L)))∨(st.env 6=.own 9 0∧st.heap 9 0=some (.row 3 1 L.length (aK L)))))∧k≤(ol V).length∧m=(ol V).length-k)
  (fun e st=>e=.exit 0∧(st.env 0=ov aK o)∧∃L:List Int,((ol o).length≤L.length∧L.length≤(ol o).length+(ol V).length)∧(st.env 6=ov aK (some L)∨∃a g,st.env 6=.own a g∧st.heap a g=some (.row 3 1 L.length (aK L)))) (ol V).length ?step ?start ?rest
 case step =>
  rintro m st ⟨k,hI,⟨L,hL,h3⟩,hk,hm⟩
  by_cases bA:(k:Int)<(ol V).length
  ·have q0:(0:Int)≤k:=by omega
   have hw:IntKind.i64.wrap ((k:Int)+1)=((k+1:Nat):Int):=by rw[mZ _ (by omega) (by omega)];omega
   rcases aLu (some L) (by show (L.length:Int)<_;omega) (gx (0:Int) (ol V) (k:Int)) with ⟨ea,eb⟩|⟨M,hM,ea,eb⟩
   ·rcases h3 with h3|⟨g,h3,hg,hh⟩|⟨h3,hh⟩
    ·apply oN ((ol V).length-(k+1))
     ·simp only[Z8,seval,hI,h3,bA,q0,ea,hw];rfl
     ·exact⟨k+1,by simp only[E8,seval,hI],⟨L,by omega,.inl (by simp only[E8,seval])⟩,by omega,rfl⟩
    ·have Q4:=fun st d a g=>eb st d a g L rfl
     apply oN ((ol V).length-(k+1))
     ·simp only[Z8,seval,hI,h3,hh,bA,q0,Q4,hw];rfl
     ·exact⟨k+1,by simp only[E8,seval,hI],⟨L,by omega,.inl (by simp only[E8,seval])⟩,by omega,rfl⟩
    ·have Q4:=fun st d a g=>eb st d a g L rfl
     apply oN ((ol V).length-(k+1))
     ·simp only[Z8,seval,hI,h3,hh,bA,q0,Q4,hw];rfl
     ·exact⟨k+1,by simp only[E8,seval,hI],⟨L,by omega,.inl (by simp only[E8,seval])⟩,by omega,rfl⟩
   ·have hM':M.length=L.length+1:=hM
    rcases h3 with h3|⟨g,h3,hg,hh⟩|⟨h3,hh⟩
    ·apply oN ((ol V).length-(k+1))
     ·simp only[Z8,seval,hI,h3,bA,q0,ea,hw];rfl
     ·exact⟨k+1,by simp only[E8,seval,hI],⟨M,by omega,.inr (.inl ⟨_,by simp only[E8,seval]<;>rfl,by simp only[E8,seval]<;>omega,by simp only[E8,seval]<;>rfl⟩)⟩,by omega,rfl⟩
    ·have Q4:=fun st d a g=>eb st d a g L rfl
     have uV:(g=st.aQ 21)=False:=eq_false (by omega)
     apply oN ((ol V).length-(k+1))
     ·simp only[Z8,seval,hI,h3,hh,uV,bA,q0,Q4,hw];rfl
     ·exact⟨k+1,by simp only[E8,seval,hI],⟨M,by omega,.inr (.inl ⟨_,by simp only[E8,seval]<;>rfl,by simp only[E8,seval]<;>omega,by simp only[E8,seval]<;>rfl⟩)⟩,by omega,rfl⟩
    ·have Q4:=fun st d a g=>eb st d a g L rfl
     apply oN ((ol V).length-(k+1))
     ·simp only[Z8,seval,hI,h3,hh,bA,q0,Q4,hw];rfl
     ·exact⟨k+1,by simp only[E8,seval,hI],⟨M,by omega,.inr (.inl ⟨_,by simp only[E8,seval]<;>rfl,by simp only[E8,seval]<;>omega,by simp only[E8,seval]<;>rfl⟩)⟩,by omega,rfl⟩
  ·have h3':st.env 6=ov aK (some L)∨∃a g,st.env 6=.own a g∧st.heap a g=some (.row 3 1 L.length (aK L)):=by
    rcases h3 with h3|⟨g,h3,hg,hh⟩|⟨h3,hh⟩
    ·exact .inl h3
    ·exact .inr ⟨21,g,h3,hh⟩
    ·exact .inr ⟨9,0,h3,hh⟩
   apply oT (.exit 0)
   ·simp only[Z8,seval,hI,bA];rfl
   ·exact⟨rfl,by simp only[E8,seval,hI],L,by omega,by simpa only[E8,seval] using h3'⟩
 case start=>exact⟨0,by simp only[E8,seval]<;>rfl,⟨ol o,by omega,.inr (.inr ⟨by simp only[E8,seval],by simp only[E8,seval]⟩)⟩,by omega,by omega⟩
 case rest =>
  rintro e st ⟨rfl,h0,L,hL,h3⟩
  rcases h3 with h3|⟨a,g,h3,hh⟩
  ·simp only[Z8,seval,h3,h0];exact⟨_,dK rfl rfl rfl (by simp only[E8,seval,h3,En]<;>rfl) (by simp only[E8,seval,h3,En]<;>rfl),L,_,rfl,hL.2,aLx hL.1⟩
  ·simp only[Z8,seval,h3,hh,h0];exact⟨_,dK rfl rfl rfl (by simp only[E8,seval,h3,hh,jX]<;>rfl) (by simp only[E8,seval,h3,hh,jX]<;>rfl),L,_,rfl,hL.2,aLx hL.1⟩
theorem aQF (x:fW) (V W:Option (List Int)) (hV:x.first.eU=ov aK V) (hW:x.second.eU=ov aK W) (nV:((ol V).length:Int)<99999) (nW:((ol W).length:Int)<99999) (n:Int) :
 ∃r,aB Tryz.prog 219 [.agg (cC x),.v (.int .i64 n)]=some r∧∃e:Int,r=.v (.int .i64 e)∧e≠21:=by
 have f1:Flat x.first.eU:=by rw[hV];exact bW V
 have f2:Flat x.second.eU:=by rw[hW];exact bW W
 have fx:Flat (.agg (cC x)):=(mX x).2 ⟨f1,f2⟩
 have kV:=kx (c40 V (by omega) n) (bE (bW V) (.v _)) (.v _)
 have kW:=kx (c40 W (by omega) n) (bE (bW W) (.v _)) (.v _)
 obtain⟨ev,AY⟩:∃e,AW (ol V) n=e:=⟨_,rfl⟩
 obtain⟨ew,hew⟩:∃e,AW (ol W) n=e:=⟨_,rfl⟩
 rw[AY] at kV;rw[hew] at kW;obtain⟨r1,L7,c,rfl⟩:=aQp x.first x.second f1 f2
 have Q5:=kx L7 (bE ((zK _).2 f1) ((zK _).2 f2)) (.v _)
 obtain⟨r2,hr2,o,ho,hro⟩:=aLv x V W hV hW nV nW
 rw[cL Tryz.func219 rfl aLz rfl];by_cases g1:ev=0
 case neg =>
  simp only[Z8,seval,hV,hW,kV,bf g1];exact⟨_,bX rfl (by simp only[E8,seval]<;>rfl) (by first|exact .v _|simp only[dV]),_,rfl,by rw[← AY];exact TZ _ _⟩
 by_cases g2:ew=0
 case neg =>
  simp only[Z8,seval,hV,hW,kV,kW,bt g1,bf g2];exact⟨_,bX rfl (by simp only[E8,seval]<;>rfl) (by first|exact .v _|simp only[dV]),_,rfl,by rw[← hew];exact TZ _ _⟩
 by_cases g3:x.first.target<x.first.source
 ·simp only[Z8,seval,hV,hW,kV,kW,bt g1,bt g2,g3];exact⟨_,bX rfl (by simp only[E8,seval]<;>rfl) (by first|exact .v _|simp only[dV]),_,rfl,by decide⟩
 by_cases g4:x.second.target<x.second.source
 ·simp only[Z8,seval,hV,hW,kV,kW,bt g1,bt g2,g3,g4];exact⟨_,bX rfl (by simp only[E8,seval]<;>rfl) (by first|exact .v _|simp only[dV]),_,rfl,by decide⟩
 cases c
 ·simp only[Z8,seval,hV,hW,kV,kW,bt g1,bt g2,g3,g4,Q5];exact⟨_,bX rfl (by simp only[E8,seval]<;>rfl) (by first|exact .v _|simp only[dV]),_,rfl,by decide⟩
 rcases hro with rfl|⟨L,hL,rfl⟩
 ·have Xh:=kx hr2 (cU fx) (bW o)
  by_cases g5:((ol o).length:Int)=0
  ·simp only[Z8,seval,hV,hW,kV,kW,bt g1,bt g2,g3,g4,Q5,Xh,bt g5];exact⟨_,bX rfl (by simp only[E8,seval]<;>rfl) (by first|exact .v _|simp only[dV]),_,rfl,by decide⟩
  ·simp only[Z8,seval,hV,hW,kV,kW,bt g1,bt g2,g3,g4,Q5,Xh,bf g5];exact⟨_,bX rfl (by simp only[E8,seval]<;>rfl) (by first|exact .v _|simp only[dV]),_,rfl,by decide⟩
 ·have Xh:∀(st:St) (d:Nat),aN (aB Tryz.prog) 221 [.agg (cC x)] st (some d)=_:=fun st d=>jF (st:=st) (d:=d) (cU fx) hr2
  by_cases g5:(L.length:Int)=0
  ·simp only[Z8,seval,hV,hW,kV,kW,bt g1,bt g2,g3,g4,Q5,Xh,bt g5];exact⟨_,bX rfl (by simp only[E8,seval]<;>rfl) (by first|exact .v _|simp only[dV]),_,rfl,by decide⟩
  ·simp only[Z8,seval,hV,hW,kV,kW,bt g1,bt g2,g3,g4,Q5,Xh,bf g5];exact⟨_,bX rfl (by simp only[E8,seval]<;>rfl) (by first|exact .v _|simp only[dV]),_,rfl,by decide⟩
theorem aQH {s:aL} {v:SV} {q:Int} (h:GI s v q) (r:RG s v) (x:fW) (V W:Option (List Int)) (hV:x.first.eU=ov aK V) (hW:x.second.eU=ov aK W) (nV:((ol V).length:Int)≤1000) (nW:((ol W).length:Int)≤1000) (hq:q+1000≤900000) :
 ∃r,aB Tryz.prog 205 [.agg (aA s),.agg (cC x)]=some r∧StN s v (q+1000) r:=by
 have hf:=h.sd.flat
 have pH:=h.sd.fl
 have hz:=Jb
 have f1:Flat x.first.eU:=by rw[hV];exact bW V
 have f2:Flat x.second.eU:=by rw[hW];exact bW W
 have fx:Flat (.agg (cC x)):=(mX x).2 ⟨f1,f2⟩
 obtain⟨r1,L7,e1,rfl,he1⟩:=aQF x V W hV hW (by omega) (by omega) (ol v.B).length
 have Q6:=kx L7 (bE fx (.v _)) (.v _)
 obtain⟨r2,hr2,o,ho,hro⟩:=aLv x V W hV hW (by omega) (by omega)
 have nq:=h.nQ
 obtain⟨r3,hr3,L,n,rfl,hL,BK⟩:=aQE v.Q o (by omega) (by omega)
 have fr:Flat (.eE [ov aK (some L),.v (.int .i64 n)]):=.eE _ (bE (bW _) (.v _))
 have k220:∀(st:St) (d:Option Nat),fF (aB Tryz.prog) 220 [ov aK v.Q,ov aK o] st d=_:=fun st d=>Hg (st:=st) (d:=d) (bE (bW _) (bW _)) hr3 fr
 rw[cL Tryz.func205 rfl aLA rfl];by_cases g1:e1=0
 case neg =>
  simp only[Z8,seval,Wu h.sd,Q6,bf g1];exact⟨_,by apply dK;rfl;all_goals simp only[aH,bY,Z8,seval,hz]<;>rfl,fZ,e1,rfl,hz,he1,fun h=>absurd h g1⟩
 have hQ:((ol (some L)).length:Int)≤q+1000:=by show (L.length:Int)≤_;omega
 have h':GI { s with gH:={ s.gH with gW:=ov aK (some L)} } { v with Q:=some L } (q+1000) :=
  ⟨⟨h.sd.iP,h.sd.eA,rfl,h.sd.early,h.sd.bK,h.sd.tree,h.sd.tables,h.sd.eV,h.sd.tB,h.sd.nB,h.sd.nL,by show ((ol (some L)).length:Int)<1000000;omega,h.sd.nE,h.sd.nO,h.sd.nT,h.sd.nn⟩,h.up,h.DT,h.pos,h.nl,h.UE,h.kE,h.MH,h.nB,h.nO,h.MI,h.nE,h.SO,h.nT,h.SP,hQ,hq,h.gJ⟩
 have D0:=h'.sd.flat
 rcases hro with rfl|⟨M,hM,rfl⟩
 ·have Xh:=kx hr2 (cU fx) (bW o)
  by_cases g2:n=0
  ·simp only[Z8,seval,Wu h.sd,Q6,bt g1,h.sd.gW,Xh,k220,dM,bt g2];exact⟨_,by apply dK;rfl;all_goals simp only[aH,bY,Z8,seval,hz]<;>rfl,fZ,9,rfl,hz,by decide,fun h=>by cases h⟩
  ·simp only[Z8,seval,Wu h.sd,Q6,bt g1,h.sd.gW,Xh,k220,dM,bf g2];exact⟨_,by apply dK;rfl;all_goals simp only[aH,bY,Z8,seval,D0]<;>rfl,_,0,rfl,D0,by decide,fun _=>⟨_,h',⟨r.now,r.j,r.f,r.nd,r.or,r.rt,r.fe,r.ds,r.tb,⟨fun e=>BK g2 (by injection e),r.ne.e,r.ne.o,r.ne.t,r.ne.ea,r.ne.tb⟩⟩,rfl,rfl⟩⟩
 ·have Xh:∀(st:St) (d:Nat),aN (aB Tryz.prog) 221 [.agg (cC x)] st (some d)=_:=fun st d=>jF (st:=st) (d:=d) (cU fx) hr2
  have k220':∀(st:St) (a g:Nat) (d:Option Nat),st.heap a g=some (.row 3 1 M.length (aK M))→fF (aB Tryz.prog) 220 [ov aK v.Q,.own a g] st d=some { dst:=d,val:=.eE [ov aK (some L),.v (.int .i64 n)],dQ:=some (a,g,none)}:=by
   intro st a g d hh;rw[Nw (s:=a) (k:=g) (by rw[List.flatMap_cons,vQ (bW v.Q)];rfl) (by intro y hy;simp only[List.mem_cons,List.not_mem_nil,or_false] at hy;rcases hy with rfl|rfl;exact .inl (bW _);exact .inr (.inl ⟨a,g,rfl⟩)),
    List.map_cons,List.map_cons,List.map_nil,En,Qv hh,bN,bN,fR,← hM]
   exact MN hr3 fr
  by_cases g2:n=0
  ·simp only[Z8,seval,Wu h.sd,Q6,bt g1,h.sd.gW,Xh,k220',dM,bt g2];exact⟨_,by apply dK;rfl;all_goals simp only[aH,bY,Z8,seval,hz]<;>rfl,fZ,9,rfl,hz,by decide,fun h=>by cases h⟩
  ·simp only[Z8,seval,Wu h.sd,Q6,bt g1,h.sd.gW,Xh,k220',dM,bf g2];exact⟨_,by apply dK;rfl;all_goals simp only[aH,bY,Z8,seval,D0]<;>rfl,_,0,rfl,D0,by decide,fun _=>⟨_,h',⟨r.now,r.j,r.f,r.nd,r.or,r.rt,r.fe,r.ds,r.tb,⟨fun e=>BK g2 (by injection e),r.ne.e,r.ne.o,r.ne.t,r.ne.ea,r.ne.tb⟩⟩,rfl,rfl⟩⟩
theorem UK {l:List Int} {n:Int} (h:AW l n=0):∀x∈l,0≤x∧x<n:=by
 intro x hx;unfold AW at h;have gR:l≠[]:=fun e=>by subst e;cases hx
 rw[if_neg gR] at h;by_cases g:uF (Tz l n) l.length<0
 ·rcases qZ (Tz l n) l.length with ⟨_,hj⟩|⟨k,h1,_,_,h3⟩
  ·obtain⟨j,hj1,rfl⟩:=List.getElem_of_mem hx
   have hb:=hj j hj1
   have e:gx (0:Int) l j=l[j]:=by simp[gx,hj1]
   unfold Tz at hb;rw[e] at hb;omega
  ·omega
 ·rw[if_neg g] at h;split at h<;>omega
theorem GV {s:aL} {v:SV} {a:sC} {V:List Int} (h:(Gl s v a V).2=0):AW V (ol v.B).length=0:=by
 unfold Gl at h;by_cases g:AW V (ol v.B).length≠0
 ·rw[if_pos g] at h;exact h
 ·exact Classical.not_not.1 g
theorem GI.cast {s:aL} {v:SV} {q:Int} (h:GI s v q) (a:sC) (V:List Int):GI (Qq s v a V) { v with L:=some (uI (ol v.L) a.target.aG a.root V).1 } q:=by
 have hl:(uI (ol v.L) a.target.aG a.root V).1.length=(ol v.L).length:=Qp _ _ _ _
 exact⟨⟨h.sd.iP,rfl,h.sd.gW,h.sd.early,h.sd.bK,h.sd.tree,h.sd.tables,h.sd.eV,h.sd.tB,h.sd.nB,by show ((uI (ol v.L) a.target.aG a.root V).1.length:Int)<1000000;rw[hl];exact h.sd.nL,h.sd.nQ,h.sd.nE,h.sd.nO,h.sd.nT,h.sd.nn⟩,h.up,h.DT,h.pos,h.nl,h.UE,h.kE,hl.trans h.MH,h.nB,h.nO,h.MI,h.nE,h.SO,h.nT,h.SP,h.nQ,h.P1,h.gJ⟩
def wS (s:aL) (x:AV):aL:={ s with cD:={ s.cD with early:=x }}
theorem UL {e sz n:Nat} {cs:List AV} (h:¬ ∀c∈cs,Flat c):jG (some (.row e sz n cs))=none:=by
 unfold jG;simp only[if_neg h]
theorem aGp {a:sC} {x g:Nat} (h:a.eU=.own x g) (l:List sC):¬ ∀c∈dN (l++[a]),Flat c:=by
 intro hf;have hm:AV.own x g∈dN (l++[a]):=by
  unfold dN;rw[List.flatMap_append,List.mem_append];refine .inr ?_
  rw[List.flatMap_cons,List.flatMap_nil,List.append_nil];unfold iB;rw[h];simp
 have:=hf _ hm
 cases this
theorem lQ {α:Type} {a b:List (Option α)} {x y:List α} (ha:cM a=some x) (hb:cM b=some y):cM (a++b)=some (x++y):=by
 induction a generalizing x with
 | nil=>simp only[fR,Option.some.injEq] at ha;subst ha;simpa using hb
 | cons c a ih =>
   cases c with
   | none=>simp[cM] at ha
   | some c =>
     rw[bN] at ha;simp only[Option.map_eq_some_iff] at ha;obtain⟨z,hz,rfl⟩:=ha
     rw[List.cons_append,bN,ih hz];rfl
theorem Db {cs:List AV} {f:AV→Option AV} (h:∀c∈cs,f c=some c):cM (cs.map f)=some cs:=by
 induction cs with
 | nil=>rfl
 | cons c cs ih=>rw[List.map_cons,h c (List.mem_cons_self ..),bN,ih fun x hx=>h x (List.mem_cons_of_mem _ hx)];rfl
theorem Xi {st:St} {c:AV} (h:Flat c):cN st c=some c:=by unfold cN;rw[if_pos h]
theorem Q7 {st:St} {c:AV} (h:Flat c):Cn st c=some c:=by
 unfold Cn;cases h<;>exact Xi (by constructor;try assumption)
theorem D1 {s:aL} {v:SV} (h:SD s v) (st:St) {E:List sC} (hE:∀x∈E,Flat x.eU) {a:sC} {V:List Int} {x g x' g' n:Nat}
 (hh:st.heap x g=some (.row 87 67 n (dN (E++[{ a with eU:=.own x' g' }])))) (uT:st.heap x' g'=some (.row 3 1 V.length (aK V))) :
 Mt st (.agg (aA (wS s (.own x g))))=some (.agg (aA (wS s (.sl n (dN (E++[{ a with eU:=ov aK (some V)}])))))):=by
 obtain⟨h1,h2,h3,h4,h5,h6,h7⟩:=h.fl
 have fl:∀ {cs:List AV},(∀c∈cs,Flat c)→cM (cs.map (Cn st))=some cs:=fun hc=>Db fun c m=>Q7 (hc c m)
 have fl1:∀ {cs:List AV},(∀c∈cs,Flat c)→cM (cs.map (cN st))=some cs:=fun hc=>Db fun c m=>Xi (hc c m)
 have hv:cN st (.own x' g')=some (ov aK (some V)):=by rw[bP,uT];exact jX _ _
 have hatt:cM ((dN (E++[{ a with eU:=.own x' g' }])).map (cN st))=some (dN (E++[{ a with eU:=ov aK (some V)}])):=by
  unfold dN;rw[List.flatMap_append,List.flatMap_append,List.map_append];refine lQ (fl1 (sW E hE)) ?_
  simp only[List.flatMap_cons,List.flatMap_nil,List.append_nil];unfold iB;rw[List.map_append,List.map_append,List.map_append];refine lQ (fl1 (eC _)) (lQ (fl1 (dT _)) (lQ (fl1 (bM _)) ?_))
  rw[List.map_cons,List.map_nil,hv];rfl
 have hea:Cn st (.own x g)=some (.sl n (dN (E++[{ a with eU:=ov aK (some V)}]))):=by
  unfold Cn;simp only[hh,hatt];rfl
 unfold Mt;simp only
 have:cM ((aA (wS s (.own x g))).map (Cn st))=some (aA (wS s (.sl n (dN (E++[{ a with eU:=ov aK (some V)}]))))):=by
  unfold wS aA jU;simp only[List.map_append];refine lQ (fl (tY _ h1)) (lQ (fl (qT _ h2 h3)) (lQ (fl (lC _)) (lQ (lQ ?_ (fl (by simpa using h5))) (lQ (fl (wO _ h6)) (lQ (fl (eC _)) (lQ (fl (dT _)) (fl (by simpa using h7))))))))
  rw[List.map_cons,List.map_nil,hea];rfl
 rw[this];rfl
theorem Q8 {s:aL} {v:SV} (h:SD s v) (st:St) {E:List sC} {a:sC} {x g x' g' n:Nat} (ha:a.eU=.own x' g')
 (hh:st.heap x g=some (.row 87 67 n (dN (E++[a])))):fO st (.agg (aA (wS s (.own x g))))=none:=by
 have pH:=h.fl
 have hn:=UL (e:=87) (sz:=67) (n:=n) (aGp ha E)
 unfold wS;simp only[bQ,gG,bP,hh,hn,cV,dV,pH,cK,MO]
theorem GI.early {s:aL} {v:SV} {q:Int} (h:GI s v q) (E:Option (List sC)) (hE:∀a∈ol E,Cw a) (hn:((ol E).length:Int)≤s.cFg.lG.qD):GI (wS s (ov dN E)) { v with E:=E } q :=
 ⟨⟨h.sd.iP,h.sd.eA,h.sd.gW,rfl,h.sd.bK,h.sd.tree,h.sd.tables,hE,h.sd.tB,h.sd.nB,h.sd.nL,h.sd.nQ,by have:=h.SO;show ((ol E).length:Int)<1000000;omega,h.sd.nO,h.sd.nT,h.sd.nn⟩,h.up,h.DT,h.pos,h.nl,h.UE,h.kE,h.MH,h.nB,h.nO,h.MI,hn,h.SO,h.nT,h.SP,h.nQ,h.P1,h.gJ⟩
theorem aGq (s:aL) (v:SV) (a:sC) (V:List Int):(Gl s v a V).2≠21:=by
 unfold Gl;split
 ·exact TZ _ _
 repeat (split;simp)
 simp
theorem aQI {s:aL} {v:SV} {q:Int} (h:GI s v q) (r:RG s v) (a:sC) (V:Option (List Int)) (hV:a.eU=ov aK V) (nV:((ol V).length:Int)<99999) :
 ∃r,aB Tryz.prog 204 [.agg (aA s),.agg (iB a)]=some r∧StN s v q r:=by
 have hf:=h.sd.flat
 have pH:=h.sd.fl
 have hz:=Jb
 have fa:Flat (.agg (iB a)):=(zJ a).2 (by rw[hV];exact bW V)
 have k39:=kx (c39 h.sd h.up h.sp a V hV (by omega)) (bE hf fa) (.eE _ (bE (.v _) (.v _)))
 rw[cL Tryz.func204 rfl aLB rfl];by_cases g1:(Gl s v a (ol V)).2=0
 case neg =>
  simp only[Z8,seval,k39,dM,bf g1];exact⟨_,by apply dK;rfl;all_goals simp only[aH,bY,Z8,seval,hz]<;>rfl,fZ,_,rfl,hz,aGq _ _ _ _,fun h=>absurd h g1⟩
 cases g2:(Gl s v a (ol V)).1
 ·have hr:∀x∈ol V,0≤x∧x<(ol v.L).length:=by rw[h.MH];exact UK (GV g1)
  have h':=h.cast a (ol V)
  have D0:=h'.sd.flat
  have k44:=kx (c44 h.sd a V hV (by omega) hr) (bE hf fa) D0
  simp only[Z8,seval,k39,dM,bt g1,g2,k44];exact⟨_,by apply dK;rfl;all_goals simp only[aH,bY,Z8,seval,D0]<;>rfl,_,0,rfl,D0,by decide,fun _=>⟨_,h',⟨r.now,r.j,r.f,r.nd,r.or,r.rt,r.fe,r.ds,r.tb,⟨r.ne.q,r.ne.e,r.ne.o,r.ne.t,r.ne.ea,r.ne.tb⟩⟩,rfl,rfl⟩⟩
 ·by_cases g3:s.cFg.lG.qD≤((ol v.E).length:Int)
  ·simp only[Z8,seval,k39,dM,bt g1,g2,h.sd.early,g3];exact⟨_,by apply dK;rfl;all_goals simp only[aH,bY,Z8,seval,hz]<;>rfl,fZ,11,rfl,hz,by decide,fun h=>by cases h⟩
  ·have hE:∀b∈ol (some (ol v.E++[{ a with eU:=ov aK (some (ol V))}])),Cw b:=by
    intro b hb;rcases List.mem_append.1 (show b∈ol v.E++[{ a with eU:=ov aK (some (ol V))}] from hb) with hb|hb
    ·exact h.sd.eV b hb
    ·rw[List.mem_singleton] at hb;subst hb;exact⟨some (ol V),rfl,by show ((ol V).length:Int)<_;omega⟩
   have hVne:ol V≠[]:=fun e=>by have h0:=GV g1;rw[e] at h0;simp[AW] at h0
   have hEa:∀b∈ol (some (ol v.E++[{ a with eU:=ov aK (some (ol V))}])),∃W,b.eU=ov aK (some W)∧W≠[]:=by
    intro b hb;rcases List.mem_append.1 (show b∈ol v.E++[{ a with eU:=ov aK (some (ol V))}] from hb) with hb|hb
    ·exact r.ne.ea b hb
    ·rw[List.mem_singleton] at hb;subst hb;exact⟨ol V,rfl,hVne⟩
   have h':=h.early (some (ol v.E++[{ a with eU:=ov aK (some (ol V))}])) hE (by show (((ol v.E++[{ a with eU:=ov aK (some (ol V))}]).length:Nat):Int)≤_;rw[List.length_append,List.length_cons,List.length_nil];omega)
   have D0:=h'.sd.flat
   have nE:=h.sd.nE
   have hEf:∀x∈ol v.E,Flat x.eU:=fun x m=>(h.sd.eV x m).fl
   simp only[Z8,seval,k39,dM,bt g1,g2,h.sd.early,g3,hV,Nv _ (show ((ol V).length:Int)<1000000 by omega),ZK _ nE,Vg _ _ _ _ nE]
   have hlen:(ol v.E++[{ a with eU:=.own 35 0 }]).length=(ol v.E++[{ a with eU:=ov aK (some (ol V))}]).length:=by rw[List.length_append,List.length_append];rfl
   exact⟨_,aLC rfl (by simp only[bY,Z8,seval]<;>rfl) (by simp only[bY,E8,seval]<;>rfl)
    (Q8 h.sd _ rfl (by simp only[E8,seval]<;>rfl)) (D1 (x':=35) (g':=0) h.sd _ hEf (by simp only[E8,seval,hlen]<;>rfl) (by simp only[E8,seval]<;>rfl)) (by simp only[Z8,seval]<;>rfl),_,0,rfl,D0,by decide,fun _=>⟨_,h',⟨r.now,r.j,r.f,r.nd,r.or,r.rt,r.fe,r.ds,r.tb,⟨r.ne.q,by simp,r.ne.o,r.ne.t,hEa,r.ne.tb⟩⟩,rfl,rfl⟩⟩
theorem aQK (ns:List Node) (hu:gM ns) (hr:(nd ns 0).up=-1) (hn:(ns.length:Int)<1000000) (w:List Int) (hw:w.length=ns.length) (b:List Bool) (hb:b.length=ns.length) (i:Int) :
 ∃r,aB Tryz.prog 225 [.agg (cO ⟨ns⟩),.sl w.length (bJ w),.sl b.length (mT b),.v (.int .i64 i)]=some r∧∃k:Int,r=.v (.int .i64 k)∧(k=-1∨(i<k∧0≤k∧k<ns.length)):=by
 rw[cL Tryz.func225 rfl aLD rfl];by_cases hc:wN ns i=[]
 ·have kc:=fun st d=>aEO ns hu hr hn i hc st d
  simp only[Z8,seval,kc];refine cF (fun m st=>st.env 9=.v (.int .i64 (-1))∧st.env 10=.v (.slice none 0 0)∧st.env 11=.v (.int .i64 0)∧m=0) (fun e st=>e=.exit 0∧st.env 9=.v (.int .i64 (-1))) 0 ?step ?start ?rest
  case step =>
   rintro m st ⟨h9,h10,h11,_⟩
   apply oT (.exit 0)
   ·simp only[Z8,seval,h9,h10,h11,Int.lt_irrefl];rfl
   ·exact⟨rfl,by simp only[E8,seval,h9]⟩
  case start=>exact⟨by simp only[E8,seval]<;>rfl,by simp only[E8,seval]<;>rfl,by simp only[E8,seval]<;>rfl,rfl⟩
  case rest =>
   rintro e st ⟨rfl,h9⟩
   simp only[Z8,seval,h9];exact⟨_,bX rfl (by simp only[E8,seval,h9]<;>rfl) (by first|exact .v _|simp only[dV,h9]),-1,rfl,.inl rfl⟩
 have kc:=fun st d=>aKh ns hu hr hn i hc st d
 have hgt:∀x∈wN ns i,i<x∧0≤x∧x<ns.length:=fun x hx=>GU hu hr hx
 have hin:((wN ns i).length:Int)<1000000:=by
  have h1:(wN ns i).length≤ns.length:=by
   unfold wN;split
   ·simp
   ·exact Va ns i ns.length
  omega
 obtain⟨l,el⟩:∃l,wN ns i=l:=⟨_,rfl⟩
 rw[el] at kc hgt hin;simp only[Z8,seval,kc];refine cF (fun m st=>∃(k:Nat) (xP:Int),(st.env 4=.ptr 4 0 0∧st.heap 4 0=some (.cells (cO ⟨ns⟩))∧st.env 1=.sl w.length (bJ w)∧st.env 2=.sl b.length (mT b)∧st.env 10=.own 15 0∧st.heap 15 0=some (.row 3 1 l.length (aK l))∧st.env 9=.v (.int .i64 xP)∧st.env 11=.v (.int .i64 k))∧(xP=-1∨(i<xP∧0≤xP∧xP<ns.length))∧k≤l.length∧m=l.length-k)
  (fun e st=>e=.exit 0∧∃xP:Int,st.env 9=.v (.int .i64 xP)∧(xP=-1∨(i<xP∧0≤xP∧xP<ns.length))) l.length ?step ?start ?rest
 case step =>
  rintro m st ⟨k,xP,hI,EM,hk,hm⟩
  by_cases bA:(k:Int)<l.length
  case neg =>
   apply oT (.exit 0)
   ·simp only[Z8,seval,hI,bA];rfl
   ·exact⟨rfl,xP,by simp only[E8,seval,hI],EM⟩
  have q0:(0:Int)≤k:=by omega
  have hwr:IntKind.i64.wrap ((k:Int)+1)=((k+1:Nat):Int):=by rw[mZ _ (by omega) (by omega)];omega
  have gi:=nM q0 bA
  obtain⟨c,ec⟩:∃c,it l (k:Int)=c:=⟨_,rfl⟩
  have hc:=hgt c (by rw[← ec];obtain⟨h1,h2⟩:=xJ q0 bA;rw[h2];exact List.getElem_mem h1)
  obtain⟨c0,c1,c2⟩:=hc
  have c3:c<(w.length:Int):=by rw[hw];exact c2
  have c4:c<(b.length:Int):=by rw[hb];exact c2
  cases g1:gx false b c
  ·apply oN (l.length-(k+1))
   ·simp only[Z8,seval,hI,bA,q0,gi,ec,c1,c3,c4,g1,hwr,lS,lU];rfl
   ·exact⟨k+1,xP,by simp only[E8,seval,hI],EM,by omega,rfl⟩
  by_cases g2:xP<0
  ·apply oN (l.length-(k+1))
   ·simp only[Z8,seval,hI,bA,q0,gi,ec,c1,c3,c4,g1,g2,hwr,lS,lU];rfl
   ·exact⟨k+1,c,by simp only[E8,seval,hI],.inr ⟨c0,c1,c2⟩,by omega,rfl⟩
  have b1:0≤xP:=by omega
  have b2:xP<ns.length:=by omega
  have b3:xP<(w.length:Int):=by rw[hw];exact b2
  by_cases g3:gx (0:Int) w xP<gx (0:Int) w c
  ·apply oN (l.length-(k+1))
   ·simp only[Z8,seval,hI,bA,q0,gi,ec,c1,c3,c4,g1,g2,b1,b3,g3,hwr,lS,lU];rfl
   ·exact⟨k+1,c,by simp only[E8,seval,hI],.inr ⟨c0,c1,c2⟩,by omega,rfl⟩
  by_cases g4:gx (0:Int) w c=gx (0:Int) w xP
  case neg =>
   apply oN (l.length-(k+1))
   ·simp only[Z8,seval,hI,bA,q0,gi,ec,c1,c3,c4,g1,g2,b1,b3,g3,bf g4,hwr,lS,lU];rfl
   ·exact⟨k+1,xP,by simp only[E8,seval,hI],EM,by omega,rfl⟩
  by_cases g5:0<aKG (nd ns c).block.root (nd ns xP).block.root
  ·apply oN (l.length-(k+1))
   ·simp only[Z8,seval,hI,bA,q0,gi,ec,c1,c2,c3,c4,g1,g2,b1,b2,b3,g3,bt g4,aGa,g5,hwr,lS,lU];rfl
   ·exact⟨k+1,c,by simp only[E8,seval,hI],.inr ⟨c0,c1,c2⟩,by omega,rfl⟩
  ·apply oN (l.length-(k+1))
   ·simp only[Z8,seval,hI,bA,q0,gi,ec,c1,c2,c3,c4,g1,g2,b1,b2,b3,g3,bt g4,aGa,g5,hwr,lS,lU];rfl
   ·exact⟨k+1,xP,by simp only[E8,seval,hI],EM,by omega,rfl⟩
 case start=>exact⟨0,-1,by simp only[E8,seval]<;>rfl,.inl rfl,by omega,by omega⟩
 case rest =>
  rintro e st ⟨rfl,xP,h9,EM⟩
  simp only[Z8,seval,h9];exact⟨_,bX rfl (by simp only[E8,seval,h9]<;>rfl) (by first|exact .v _|simp only[dV,h9]),xP,rfl,EM⟩
theorem aQL {s:aL} {v:SV} {q:Int} (h:GI s v q):∃r,aB Tryz.prog 208 [.agg (aA s)]=some r∧∃k:Int,r=.v (.int .i64 k)∧0≤k∧k<v.ns.length:=by
 have hf:=h.sd.flat
 have hn:=h.sd.nn
 obtain⟨r1,e1,w,rfl,hw⟩:=aQz h
 obtain⟨r2,e2,b,rfl,hb⟩:=aQD h
 have k223:∀(st:St) (d:Nat),aN (aB Tryz.prog) 223 [.agg (aA s)] st (some d)=_:=fun st d=>jF (st:=st) (d:=d) (cU hf) e1
 have k224:∀(st:St) (d:Nat),aN (aB Tryz.prog) 224 [.agg (aA s)] st (some d)=_:=fun st d=>jF (st:=st) (d:=d) (cU hf) e2
 have hB:∀i:Int,∃k:Int,aB Tryz.prog 225 [.agg (cO ⟨v.ns⟩),.sl w.length (bJ w),.sl b.length (mT b),.v (.int .i64 i)]=some (.v (.int .i64 k))∧(k=-1∨(i<k∧0≤k∧k<v.ns.length)):=fun i=>by
  obtain⟨r,hr,k,rfl,hk⟩:=aQK v.ns h.up h.DT hn w hw b hb i
  exact⟨k,hr,hk⟩
 have kB:∀(i:Int) (k:Int),aB Tryz.prog 225 [.agg (cO ⟨v.ns⟩),.sl w.length (bJ w),.sl b.length (mT b),.v (.int .i64 i)]=some (.v (.int .i64 k))→∀(st:St) (g1 g2:Nat) (d:Option Nat),st.heap 8 g1=some (.row 23 1 w.length (bJ w))→st.heap 10 g2=some (.row 4 1 b.length (mT b)) →
  aN (aB Tryz.prog) 225 [.agg (cO ⟨v.ns⟩),.own 8 g1,.own 10 g2,.v (.int .i64 i)] st d=some { dst:=d,val:=.v (.int .i64 k)}:=by
  intro i k hk st g1 g2 d hh1 uT;rw[jS,List.map_cons,List.map_cons,List.map_cons,List.map_cons,List.map_nil,Jc,vP,hh1,uH,vP,uT,ZL,Lf,bN,bN,bN,bN,fR];exact Su hk
 rw[cL Tryz.func208 rfl aLF rfl];simp only[Z8,seval,k223,k224,h.sd.tree,mQ _ _ hn];refine cF (fun m st=>∃i:Int,(st.env 1=.ptr 1 0 0∧st.heap 1 0=some (.cells (aA s))∧st.env 3=.own 8 0∧st.heap 8 0=some (.row 23 1 w.length (bJ w))∧st.env 4=.own 10 0∧st.heap 10 0=some (.row 4 1 b.length (mT b))∧st.env 5=.v (.int .i64 i))∧0≤i∧i<v.ns.length∧m=v.ns.length-i.toNat)
  (fun e st=>e=.ret∧∃i:Int,st.env 2=.v (.int .i64 i)∧0≤i∧i<v.ns.length) (v.ns.length-(aM v.ns s.aU.gJ.root).toNat) ?step ?start ?rest
 case step =>
  rintro m st ⟨i,hI,i0,i1,hm⟩
  obtain⟨k,hk,hkk⟩:=hB i
  have kb:=kB i k hk
  by_cases bA:k<0
  ·apply oT (.ret)
   ·simp only[Z8,seval,hI,h.sd.tree,kb,bA];rfl
   ·exact⟨rfl,i,by simp only[E8,seval],i0,i1⟩
  ·apply oN (v.ns.length-k.toNat)
   ·simp only[Z8,seval,hI,h.sd.tree,kb,bA];rfl
   ·exact⟨k,by simp only[E8,seval,hI],by omega,by omega,rfl⟩
 case start=>exact⟨_,by simp only[E8,seval]<;>rfl,h.gJ,(eZ _ _).2,rfl⟩
 case rest =>
  rintro e st ⟨rfl,i,h2,i0,i1⟩
  simp only[Z8,seval];exact⟨_,bX rfl (by simp only[E8,seval,h2]<;>rfl) (by first|exact .v _|simp only[dV,h2]),i,rfl,i0,i1⟩
theorem UM (r:Command):Flat (.agg (eI r))=True:=eq_true (.agg _ (sG r))
theorem aQM {s:aL} {v:SV} {q:Int} (h:GI s v q):∃r,aB Tryz.prog 199 [.agg (aA s)]=some r∧∃c:Command,r=.agg (eI c):=by
 have hf:=h.sd.flat
 obtain⟨r1,e1,k,rfl,k0,k1⟩:=aQL h
 have k208:=kx e1 (cU hf) (.v _)
 obtain⟨r2,e2,r,rfl⟩:=aQq h.sd
 have k209:=kx e2 (cU hf) (qR r)
 rw[cL Tryz.func199 rfl aLG rfl];simp only[Z8,seval,k208,k209,h.sd.tree,k0,k1];exact⟨_,fK rfl (by simp only[E8,seval,UM]<;>rfl) (by simp only[Z8,seval,UM]<;>rfl) (by simp only[dV,and_self,UM]),_,rfl⟩
theorem aLH (t:State) (hf:Flat (.agg (aP t))) {v:SV} {q:Int} (h:GI t.store v q):∃r,aB Tryz.prog 181 [.agg (aP t)]=some r∧∃(b:Bool) (c:Command) (y:AV),r=.eE [.agg (aP { t with Li:=b,last:=c }),y]∧Flat y:=by
 have YP:=h.sd.flat
 have pH:=(tZ t).1 hf
 obtain⟨r1,e1,c,rfl⟩:=aQM h
 have aGu:=kx e1 (cU YP) (.agg _ (sG c))
 have hfc:∀x∈eI c,Flat x:=sG c
 have ex:jG (some (.row 56 96 1 (eI c)))=some (.sl 1 (eI c)):=by
  unfold jG;simp only[if_pos hfc]
 rw[cG Tryz.func181 rfl aLI (by kernel_rfl) rfl]
 have D0:Flat (.agg (aP { t with Li:=true,last:=c })):=(tZ _).2 pH
 cases g1:t.Li
 ·simp only[ZG,seval,Bool.false_and,Prod.mk.injEq,Q9,aGu,g1];exact⟨_,by apply dK;rfl;all_goals simp only[aH,bY,Z8,seval,D0,ex]<;>rfl,true,c,_,rfl,.sl _ _ hfc⟩
 ·by_cases g2:t.last=c
  ·simp only[ZG,seval,Bool.false_and,Prod.mk.injEq,Q9,aGu,g1,g2];exact⟨_,by apply dK;rfl;all_goals simp only[aH,bY,Z8,seval,hf]<;>rfl,t.Li,t.last,_,rfl,.v _⟩
  ·simp only[ZG,seval,Bool.false_and,Prod.mk.injEq,Q9,aGu,g1,g2];exact⟨_,by apply dK;rfl;all_goals simp only[aH,bY,Z8,seval,D0,ex]<;>rfl,true,c,_,rfl,.sl _ _ hfc⟩
theorem wrap_u64 (x:Int) (h1:0≤x) (h2:x<18446744073709551616):IntKind.u64.wrap x=x:=by
 unfold IntKind.wrap;simp[IntKind.signed,IntKind.bits]
 omega
theorem aLJ (o:Option (List Int)) (hn:((ol o).length:Int)≤1000) (hb:∀x∈ol o,0≤x∧x≤1000):∃a:Int,aB Tryz.prog 175 [ov bJ o]=some (.eE [.v (.int .u64 a),.v (.int .i64 0)])∧0≤a∧a≤1000000:=by
 suffices h:∃r,aB Tryz.prog 175 [ov bJ o]=some r∧∃a:Int,r=.eE [.v (.int .u64 a),.v (.int .i64 0)]∧0≤a∧a≤1000000 by
  obtain⟨r,h,a,rfl,h1⟩:=h;exact⟨a,h,h1⟩
 have add:∀(a:Int) (k:Nat),0≤a∧a≤1000 * k→k<(ol o).length→BE a (gx (0:Int) (ol o) (k:Int))=(a+gx (0:Int) (ol o) (k:Int),0)∧0≤a+gx (0:Int) (ol o) (k:Int)∧a+gx (0:Int) (ol o) (k:Int)≤1000 * ((k+1:Nat):Int):=by
  intro a k ha hk;have hx:=hb _ (pF (z:=(0:Int)) (show (0:Int)≤k by omega) (show (k:Int)<(ol o).length by omega))
  obtain⟨x,ex⟩:∃x,gx (0:Int) (ol o) (k:Int)=x:=⟨_,rfl⟩
  rw[ex] at hx ⊢;have w1:IntKind.u64.wrap (18446744073709551615-x)=18446744073709551615-x:=wrap_u64 _ (by omega) (by omega)
  have w2:IntKind.u64.wrap (a+x)=a+x:=wrap_u64 _ (by omega) (by omega)
  unfold BE;rw[w1,w2,if_neg (by omega)]
  exact⟨rfl,by omega,by omega⟩
 rw[cL Tryz.func175 rfl aEU (by cases o<;>rfl)]
 simp only[Z8,seval];refine cF (fun m st=>∃(k:Nat) (a:Int),(st.env 0=ov bJ o∧st.env 4=.v (.int .u64 a)∧st.env 5=.v (.int .i64 k))∧(0≤a∧a≤1000 * k)∧k≤(ol o).length∧m=(ol o).length-k)
  (fun e st=>e=.exit 0∧∃a:Int,st.env 4=.v (.int .u64 a)∧0≤a∧a≤1000000) (ol o).length ?step ?start ?rest
 case step =>
  rintro m st ⟨k,a,hI,ha,hk,hm⟩
  by_cases bA:(k:Int)<(ol o).length
  ·have q0:(0:Int)≤k:=by omega
   have hw:IntKind.i64.wrap ((k:Int)+1)=((k+1:Nat):Int):=by rw[mZ _ (by omega) (by omega)];omega
   obtain⟨h1,h2⟩:=add a k ha (by omega)
   apply oN ((ol o).length-(k+1))
   ·simp only[Z8,seval,hI,bA,q0,aFX,dM,h1,hw];rfl
   ·exact⟨k+1,_,by simp only[E8,seval,hI]<;>rfl,h2,by omega,rfl⟩
  ·apply oT (.exit 0)
   ·simp only[Z8,seval,hI,bA];rfl
   ·exact⟨rfl,a,by simp only[E8,seval,hI],by omega⟩
 case start=>exact⟨0,0,by simp only[E8,seval]<;>exact⟨rfl,rfl⟩,by omega,by omega,by omega⟩
 case rest =>
  rintro e st ⟨rfl,a,h,ha⟩
  simp only[Z8,seval,h];exact⟨_,dK rfl rfl rfl (by simp only[E8,seval,h]<;>rfl) (by simp only[E8,seval,h]<;>rfl),_,rfl,ha⟩
theorem aLK (t:Table) (b:Option (List Int)) (ht:t.iP=ov bJ b) (hn:((ol b).length:Int)≤1000) (hb:∀x∈ol b,0≤x∧x≤1000):aB Tryz.prog 130 [.agg (cA t),.v (.int .i64 (ol b).length)]=some (.v (.int .i64 0)):=by
 obtain⟨a,hr,a0,a1⟩:=aLJ b hn hb
 have B9:=kx hr (cU (dU b)) (.eE _ (bE (.v _) (.v _)))
 rw[cL Tryz.func130 rfl aEW rfl];refine iN ?_
 have h3:(4611686018427387904<a)=False:=eq_false (by omega)
 simp only[Z8,seval,ht,bt (rfl:((ol b).length:Int)=(ol b).length),B9,dM,h3];exact⟨_,bX rfl (by simp only[E8,seval]<;>rfl) (by first|exact .v _|simp only[dV]),rfl⟩
theorem aCu:mkRoot 1≠dR:=by decide
structure Hh (c:Config) (b:List Int):Prop where
 iP:c.iP=ov bJ (some b)
 nb:1≤b.length∧b.length≤64
 bv:∀x∈b,0≤x∧x≤1000
 kE:1≤c.kE∧c.kE≤64
 bp:c.He≤100
 sF:1≤c.lG.sF∧c.lG.sF≤4096
 wQ:0≤c.lG.wQ∧c.lG.wQ≤64
 qD:0≤c.lG.qD∧c.lG.qD≤256
 qC:1≤c.lG.qC∧c.lG.qC≤64
 oI:0≤c.lG.oI∧c.lG.oI≤256
 back:1≤c.lG.rL∧c.lG.rL≤1048576
 gen:c.cW=mkRoot 1
 n6:6≤c.lG.sF
theorem aGv (n:Nat):((List.range n).flatMap fun _=>jN tI)=dC (List.replicate n tI):=by
 induction n with
 | zero=>rfl
 | succ n ih=>rw[List.range_succ,List.flatMap_append,ih,List.replicate_succ',dC,dC,List.flatMap_append];simp
theorem MP (t:Table):aI [t]=cA t:=by simp[aI]
def MQ (c:Config):Block:={ dY with root:=c.cW,gJ:=⟨0,c.cW⟩,fin:=⟨0,c.cW⟩,dW:=⟨⟨0,c.cW⟩,⟨0,c.cW⟩⟩}
def yE (c:Config) (b:List Int):aL:=⟨c,⟨ov dC (some (List.replicate b.length tI)),.v (.slice none 0 0)⟩,⟨⟨0,c.cW⟩,⟨0,c.cW⟩⟩,El,⟨.sl 1 (bZ [⟨MQ c,-1,1⟩])⟩,0,dR,ov aI (some [⟨⟨0,c.cW⟩,ov bJ (some b)⟩])⟩
def An (c:Config) (b:List Int):SV:={ B:=some b,L:=some (List.replicate b.length tI),Q:=none,E:=none,O:=none,ns:=[⟨MQ c,-1,1⟩],T:=some [⟨⟨0,c.cW⟩,ov bJ (some b)⟩]}
theorem GI.new {c:Config} {b:List Int} (h:Hh c b):GI (yE c b) (An c b) 0:=by
 have hb:=h.nb
 refine⟨⟨h.iP,rfl,rfl,rfl,rfl,rfl,rfl, ?_, ?_, ?_, ?_, ?_, ?_, ?_, ?_, ?_⟩, ?_, ?_, ?_, ?_,h.sF.2,h.kE, ?_, ?_, ?_,h.wQ.2, ?_,h.qD.2, ?_,h.qC.2, ?_,by omega, ?_⟩
 ·intro a ha;cases ha
 ·intro t ht;rw[show t=⟨⟨0,c.cW⟩,ov bJ (some b)⟩ by simpa [An,ol] using ht]
  exact⟨some b,rfl,by show (b.length:Int)<_;omega⟩
 ·show (b.length:Int)<_;omega
 ·show ((List.replicate b.length tI).length:Int)<_;rw[List.length_replicate];omega
 ·show ((0:Nat):Int)<_;omega
 ·show ((0:Nat):Int)<_;omega
 ·show ((0:Nat):Int)<_;omega
 ·show ((1:Nat):Int)<_;omega
 ·show ((1:Nat):Int)<_;omega
 ·intro i h0 h1;have:i<((1:Nat):Int):=h1;omega
 ·rfl
 ·show 0<1;omega
 ·show ((1:Nat):Int)≤c.lG.sF;have:=h.sF.1;omega
 ·show (List.replicate b.length tI).length=b.length;rw[List.length_replicate]
 ·show (b.length:Int)≤1024;omega
 ·show ((0:Nat):Int)≤c.lG.wQ;have:=h.wQ.1;omega
 ·show ((0:Nat):Int)≤c.lG.qD;have:=h.qD.1;omega
 ·show ((1:Nat):Int)≤c.lG.qC;have:=h.qC.1;omega
 ·show ((0:Nat):Int)≤0;omega
 ·exact Ns (j:=0) (by omega) (by show (0:Int)<((1:Nat):Int);omega) rfl
theorem aLL {c:Config} {b:List Int} (h:Hh c b):aB Tryz.prog 102 [.agg (bV c)]=some (.eE [.agg (aA (yE c b)),.v (.int .i64 0)]):=by
 obtain⟨aCv,hnb,hbv,hspe,hbp,h1,h2,h3,h4,h5,h6,hg0,_⟩:=h
 have hg:c.cW≠dR:=by rw[hg0];exact aCu
 have f1:=hspe.1;have f2:¬64<c.kE:=by omega
 have f1':¬c.kE<1:=by omega
 have f3:¬100<c.He:=by omega
 have f4:¬(1024:Int)<(b.length:Int):=by omega
 have f6:¬c.lG.rL<1:=by omega
 have f7:¬1048576<c.lG.rL:=by omega
 have n1:((ol (some b)).length:Int)<1000000:=by show (b.length:Int)<_;omega
 have hb0:(0:Int)≤(b.length:Int):=by omega
 have TC:(b.length:Int) * 48≤140737488355328:=by omega
 have YN:(b.length:Int)≤(maxLen:Int):=by unfold maxLen;omega
 have zE:gN.aG=0:=rfl
 have kt:∀(st:St) (d:Option Nat),aN (aB Tryz.prog) 130 [.agg (cA ⟨⟨0,c.cW⟩,ov bJ (some b)⟩),.v (.int .i64 b.length)] st d=some { dst:=d,val:=.v (.int .i64 0)}:=kx (aLK ⟨⟨0,c.cW⟩,ov bJ (some b)⟩ (some b) rfl (by show (b.length:Int)≤_;omega) hbv) (bE ((iE ⟨⟨0,c.cW⟩,ov bJ (some b)⟩).2 (dU (some b))) (.v _)) (.v _)
 have aGh:=kx (aKU ⟨⟨0,c.cW⟩,ov bJ (some b)⟩ (some b) rfl n1) (cU ((iE ⟨⟨0,c.cW⟩,ov bJ (some b)⟩).2 (dU (some b)))) ((iE ⟨⟨0,c.cW⟩,ov bJ (some b)⟩).2 (dU (some b)))
 rw[cL Tryz.func102 rfl aLM rfl];refine iN ?_
 simp only[Z8,seval,lS,lU,aCv,f1',f2,f3,f4,f6,f7,aPj,h1.1,h1.2,h2.1,h2.2,h3.1,h3.2,h4.1,h4.2,h5.1,h5.2,hg,zE,kt,hb0,TC,YN,Int.toNat_natCast,aGv,aGh,aO9,Ek b (show (b.length:Int)<1000000 by omega)]
 have exT:=Nr 1 [⟨⟨0,c.cW⟩,ov bJ (some b)⟩] (by intro y hy;rw[List.mem_singleton] at hy;subst hy;exact dU (some b))
 rw[MP] at exT;have hcc:∀x,x=c.iP→({ lG:=c.lG,kE:=c.kE,He:=c.He,BG:=c.BG,cW:=c.cW,iP:=x }:Config)=c:=by rintro _ rfl;rfl
 have zs:fZ.gH.gW=.v (.slice none 0 0)∧fZ.cD.early=.v (.slice none 0 0)∧fZ.cD.bK=.v (.slice none 0 0):=⟨rfl,rfl,rfl⟩
 exact⟨_,by apply dK;rfl;all_goals simp only[aH,bY,Z8,seval,bQ,gG,bP,uH,Ve,exT,cV,dV,zs]<;>rfl,by unfold yE;simp only[ov,List.length_replicate,MP,hcc (.sl b.length (bJ b)) aCv.symm]<;>rfl⟩
end Go.Ab.Tryz
section
namespace Go.Ab
open Classical
theorem Nx [Ext] (P:Program) {f:Nat} {fn:Func} {c:Code} (hf:P.funcs[f]? = some fn) (hb:fn.body=some c) (oS:bL fn=true) (e sz m:Nat) (cs xs:List AV) (hx:Ext.ext f (.uniq e sz m cs :: xs)=none) :
 aB P f (.uniq e sz m cs :: xs)=cS (zC P c (St.tD e sz m cs xs)) (R3 P fn):=by
 simp only[bL,hb,Bool.and_eq_true,Bool.not_eq_true'] at oS;rw[MR P hf hb oS.1 e sz m cs xs hx,oS.2];rfl
theorem ZM [Ext] (P:Program) {f:Nat} {fn:Func} {c:Code} (hf:P.funcs[f]? = some fn) (hb:fn.body=some c) (oS:sR fn=true) (hc:oA c=true) (e sz m:Nat) (cs xs:List AV) (hx:Ext.ext f (.uniq e sz m cs :: xs)=none) :
 aB P f (.uniq e sz m cs :: xs)=cS (wT P true c (St.tD e sz m cs xs)) (R3 P fn):=by
 rw[MR P hf hb oS e sz m cs xs hx,hc]
theorem zN [Ext] {P:Program} {fn:Func} {st:St} {e:Ex} {t s g ee sz n:Nat} {cs:List AV} (he:e=.ret∨e=.normal) (hr:fn.results.toList=[.tmp t]) (h1:st.env t=.own s g) (h2:st.heap s g=some (.row ee sz n cs)) (hm:∀c∈cs,iC c) :
 R3 P fn (e,st)=some (.uniq ee sz n cs):=R4 he hr (by unfold lM;simp only[h1]) h2 hm
end Go.Ab
namespace Go.Ab.Tryz
open Classical Go.Proofs Go.Ab
theorem zO (l:List Int):∀c∈kF l,iC c:=by
 intro c hc;unfold kF at hc;obtain⟨x,_,hx⟩:=List.mem_flatMap.1 hc
 rw[cU8,List.mem_singleton] at hx;subst hx;exact .v _
def Wr (F:Nat) (rest:List AV) (K:Int):Prop:=∀l:List Int,(l.length:Int)+K<900000→∃m:List Int,aB Tryz.prog F (.uniq 5 1 l.length (kF l) :: rest)=some (.uniq 5 1 m.length (kF m))∧(m.length:Int)≤l.length+K
def WrN (F:Nat) (rest:List AV) (K:Int):Prop:=∃m:List Int,aB Tryz.prog F (.v (.slice none 0 0) :: rest)=some (.uniq 5 1 m.length (kF m))∧(m.length:Int)≤K
theorem Wr.at {F:Nat} {rest:List AV} {K:Int} (h:Wr F rest K) (hr:∀x∈rest,Flat x) {l:List Int} (hl:(l.length:Int)+K<900000) :
 ∃m:List Int,(∀s k d c,mvE (aB Tryz.prog) F rest s k d c (some (.row 5 1 l.length (kF l)))=some { dst:=some d,val:=.own d c,dQ:=some (s,k,none),new:=some (d,[.row 5 1 m.length (kF m)])})∧(m.length:Int)≤l.length+K:=by
 obtain⟨m,h1,h2⟩:=h l hl
 exact⟨m,fun s k d c=>R5 (vR l) hr h1,h2⟩
theorem WrN.at {F:Nat} {rest:List AV} {K:Int} (h:WrN F rest K) (hr:∀x∈rest,Flat x) :
 ∃m:List Int,(∀(st:St) (d:Nat),lL (aB Tryz.prog) F (.v (.slice none 0 0) :: rest) st (some d)=some { dst:=some d,val:=.own d (st.aQ d),new:=some (d,[.row 5 1 m.length (kF m)])})∧(m.length:Int)≤K:=by
 obtain⟨m,h1,h2⟩:=h
 exact⟨m,fun st d=>UN hr h1,h2⟩
def tb:Nat→Int
 | 0=>18446744073709551616
 | k+1=>tb k / 128+1
theorem tb9:tb 9=3:=by decide
theorem ZN (x:Int):x.fdiv (2 ^ min 7 IntKind.u64.bits)=x / 128:=by
 show x.fdiv 128=x / 128
 exact Int.fdiv_eq_ediv_of_nonneg x (by decide)
theorem aCw (l:List Int):kF l=l.map fun x=>.v (.int .u8 x):=by
 induction l with
 | nil=>rfl
 | cons a l ih=>simp only[kF,List.flatMap_cons,List.map_cons,cU8] at *;rw[ih];rfl
theorem MS (r:cJ):bD r=kF r.toList:=by rw[aCw];rfl
theorem Vh {P:Program} {T:Nat} {k:IntKind} {a b:Int}:gL P .or T (.v (.int k a)) (.v (.int k b))=some (.v (.int k (k.wrap (BitVec.ofInt k.bits a ||| BitVec.ofInt k.bits b).toNat))):=by simp[gL]
theorem aLO:dS Tryz.prog 27=none:=by kernel_rfl
theorem aLP (r:cJ) (st:St) (s g o:Nat) (h:st.heap s g=some (.cells (bD r))):dA Tryz.prog st 27 (.ptr s g o) none none=some (.vw s g o 32):=by
 simp only[dA,aLO,aF9,h]
theorem R6 (st:St) (s g:Nat) (r:cJ) (h:st.heap s g=some (.cells (bD r))):aW st (.vw s g 0 32)=some (r.toList.length,kF r.toList):=by
 have hl:(bD r).length=32:=aO r
 simp only[aW,h,Nat.zero_add,List.drop_zero];rw[if_pos (by omega),List.take_of_length_le (by omega),MS]
 simp
theorem Xj (n:Int) (hn:Rg n):Wr 215 [.v (.int .u64 n)] 10:=by
 intro l hl;suffices h:∃r,aB Tryz.prog 215 [.uniq 5 1 l.length (kF l),.v (.int .u64 n)]=some r∧∃m:List Int,r=.uniq 5 1 m.length (kF m)∧(m.length:Int)≤l.length+10 by
  obtain⟨r,h,m,rfl,h2⟩:=h;exact⟨m,h,h2⟩
 rw[Nx Tryz.prog Tryz.func215 rfl aE8 _ _ _ _ _ (uJ _ _)];simp only[Z8,seval,mH,oJ,mI,mJ,oK];refine cF (fun m st=>∃(x:Int) (k:Nat) (l':List Int) (a g:Nat),(st.env 0=.own a g∧st.heap a g=some (.row 5 1 l'.length (kF l'))∧st.env 1=.v (.int .u64 x))∧((a=0∧g=0)∨(a=13∧g<st.aQ 13))∧l'.length=l.length+k∧0≤x∧x<tb k∧k≤9∧m=x.toNat)
  (fun e st=>e=.exit 0∧∃(x:Int) (l':List Int) (a g:Nat),(st.env 0=.own a g∧st.heap a g=some (.row 5 1 l'.length (kF l'))∧st.env 1=.v (.int .u64 x))∧a≠19∧(l'.length:Int)≤l.length+9) n.toNat ?step ?start ?rest
 case step =>
  rintro m st ⟨x,k,l',a,g,hI,GW,Gk,x0,hx,hk,hm⟩
  by_cases bA:127<x
  ·have hk8:k≤8:=by
    rcases Nat.lt_or_ge k 9 with h|h
    ·omega
    ·have:k=9:=by omega
     subst this;rw[tb9] at hx;omega
   have Qh:(l'.length:Int)<1000000:=by omega
   have Jd:x / 128<tb (k+1):=by show x / 128<tb k / 128+1;omega
   have ll:∀b:Int,(l'++[b]).length=l.length+(k+1):=fun b=>by rw[List.length_append,List.length_cons,List.length_nil];omega
   rcases GW with ⟨rfl,rfl⟩|⟨rfl,hg⟩
   ·apply oN ((x / 128).toNat)
    ·simp only[Z8,seval,hI,bA,Vh,Lj _ _ _ _ Qh,ZN];rfl
    ·exact⟨x / 128,k+1,_,13,_,by and_intros<;>(simp only[E8,seval]<;>rfl),.inr ⟨rfl,by simp only[E8,seval]<;>omega⟩,ll _,by omega,Jd,by omega,rfl⟩
   ·have uV:(g=st.aQ 13)=False:=eq_false (by omega)
    apply oN ((x / 128).toNat)
    ·simp only[Z8,seval,hI,bA,uV,Vh,Lj _ _ _ _ Qh,ZN];rfl
    ·exact⟨x / 128,k+1,_,13,_,by and_intros<;>(simp only[E8,seval]<;>rfl),.inr ⟨rfl,by simp only[E8,seval]<;>omega⟩,ll _,by omega,Jd,by omega,rfl⟩
  ·apply oT (.exit 0)
   ·simp only[Z8,seval,hI,bA];rfl
   ·exact⟨rfl,x,l',a,g,by simp only[E8,seval,hI],by omega,by omega⟩
 case start=>exact⟨n,0,l,0,0,by simp only[E8,seval,mH,oJ,mI,mJ,oK]<;>rfl,.inl ⟨rfl,rfl⟩,rfl,hn.1,hn.2,by omega,rfl⟩
 case rest =>
  rintro e st ⟨rfl,x,l',a,g,hI,ha,Gk⟩
  have ha':(a=19)=False:=eq_false ha
  have Qh:(l'.length:Int)<1000000:=by omega
  simp only[Z8,seval,hI,ha',Lj _ _ _ _ Qh];exact⟨_,zN (.inl rfl) rfl (by simp only[E8,seval]<;>rfl) (by simp only[E8,seval]<;>rfl) (zO _),_,rfl,by rw[List.length_append,List.length_cons,List.length_nil];omega⟩
theorem D2 (n:Int) (hn:Rg n):WrN 215 [.v (.int .u64 n)] 10:=by
 suffices h:∃r,aB Tryz.prog 215 [.v (.slice none 0 0),.v (.int .u64 n)]=some r∧∃m:List Int,r=.uniq 5 1 m.length (kF m)∧(m.length:Int)≤10 by
  obtain⟨r,h,m,rfl,h2⟩:=h;exact⟨m,h,h2⟩
 rw[cL Tryz.func215 rfl aE8 rfl];simp only[Z8,seval];refine cF (fun m st=>∃(x:Int) (k:Nat),st.env 1=.v (.int .u64 x)∧((k=0∧st.env 0=.v (.slice none 0 0))∨∃(l':List Int) (g:Nat),(st.env 0=.own 13 g∧st.heap 13 g=some (.row 5 1 l'.length (kF l')))∧g<st.aQ 13∧l'.length=k)∧0≤x∧x<tb k∧k≤9∧m=x.toNat)
  (fun e st=>e=.exit 0∧∃(x:Int),st.env 1=.v (.int .u64 x)∧(st.env 0=.v (.slice none 0 0)∨∃(l':List Int) (g:Nat),(st.env 0=.own 13 g∧st.heap 13 g=some (.row 5 1 l'.length (kF l')))∧(l'.length:Int)≤9)) n.toNat ?step ?start ?rest
 case step =>
  rintro m st ⟨x,k,hI,h0,x0,hx,hk,hm⟩
  by_cases bA:127<x
  ·have hk8:k≤8:=by
    rcases Nat.lt_or_ge k 9 with h|h
    ·omega
    ·have:k=9:=by omega
     subst this;rw[tb9] at hx;omega
   have Jd:x / 128<tb (k+1):=by show x / 128<tb k / 128+1;omega
   rcases h0 with ⟨qA,h0⟩|⟨l',g,h0,hg,Gk⟩
   ·have ll:∀b:Int,([b]:List Int).length=k+1:=fun b=>by rw[List.length_cons,List.length_nil];omega
    apply oN ((x / 128).toNat)
    ·simp only[Z8,seval,hI,h0,bA,Vh,UO,ZN];rfl
    ·exact⟨x / 128,k+1,by simp only[E8,seval],.inr ⟨_,_,⟨by simp only[E8,seval]<;>rfl,by simp only[E8,seval]<;>rfl⟩,by simp only[E8,seval]<;>omega,ll _⟩,by omega,Jd,by omega,rfl⟩
   ·have Qh:(l'.length:Int)<1000000:=by omega
    have ll:∀b:Int,(l'++[b]).length=k+1:=fun b=>by rw[List.length_append,List.length_cons,List.length_nil];omega
    have uV:(g=st.aQ 13)=False:=eq_false (by omega)
    apply oN ((x / 128).toNat)
    ·simp only[Z8,seval,hI,h0,bA,uV,Vh,Lj _ _ _ _ Qh,ZN];rfl
    ·exact⟨x / 128,k+1,by simp only[E8,seval],.inr ⟨_,_,⟨by simp only[E8,seval]<;>rfl,by simp only[E8,seval]<;>rfl⟩,by simp only[E8,seval]<;>omega,ll _⟩,by omega,Jd,by omega,rfl⟩
  ·have h0':st.env 0=.v (.slice none 0 0)∨∃(l':List Int) (g:Nat),(st.env 0=.own 13 g∧st.heap 13 g=some (.row 5 1 l'.length (kF l')))∧(l'.length:Int)≤9:=by
    rcases h0 with ⟨_,h0⟩|⟨l',g,h0,hg,Gk⟩
    ·exact .inl h0
    ·exact .inr ⟨l',g,h0,by omega⟩
   apply oT (.exit 0)
   ·simp only[Z8,seval,hI,bA];rfl
   ·exact⟨rfl,x,by simp only[E8,seval,hI],by simpa only[E8,seval] using h0'⟩
 case start=>exact⟨n,0,by simp only[E8,seval]<;>rfl,.inl ⟨rfl,by simp only[E8,seval]<;>rfl⟩,hn.1,hn.2,by omega,rfl⟩
 case rest =>
  rintro e st ⟨rfl,x,hI,h0⟩
  rcases h0 with h0|⟨l',g,h0,Gk⟩
  ·simp only[Z8,seval,hI,h0,UO];exact⟨_,Xk (n:=([IntKind.u8.wrap x]:List Int).length) (cs:=kF [IntKind.u8.wrap x]) (aH (by decide)) (.inl rfl) rfl (by simp only[E8,seval]<;>rfl) (by simp only[E8,seval]<;>rfl) (vR _),_,rfl,by rw[List.length_cons,List.length_nil];omega⟩
  ·have Qh:(l'.length:Int)<1000000:=by omega
   simp only[Z8,seval,hI,h0,Lj _ _ _ _ Qh];exact⟨_,tO rfl (by simp only[E8,seval]<;>rfl) (by simp only[E8,seval]<;>rfl) (vR _),_,rfl,by rw[List.length_append,List.length_cons,List.length_nil];omega⟩
theorem GX (r:cJ):Wr 226 [.agg (bD r)] 32:=by
 intro l hl;suffices h:∃x,aB Tryz.prog 226 [.uniq 5 1 l.length (kF l),.agg (bD r)]=some x∧∃m:List Int,x=.uniq 5 1 m.length (kF m)∧(m.length:Int)≤l.length+32 by
  obtain⟨r,h,m,rfl,h2⟩:=h;exact⟨m,h,h2⟩
 have Qh:(l.length:Int)<1000000:=by omega
 have hc:bD r=kF r.toList:=MS r
 have hr:(r.toList.length:Int)<1000000:=by simp
 rw[Nx Tryz.prog Tryz.func226 rfl aLQ _ _ _ _ _ (uJ _ _)];simp only[Z8,seval,mH,oJ,mI,mJ,oK,aLP r,R6 _ _ _ r,UP _ _ _ _ Qh hr];exact⟨_,zN (.inl rfl) rfl (by simp only[E8,seval]<;>rfl) (by simp only[E8,seval]<;>rfl) (zO _),_,rfl,by rw[List.length_append];simp⟩
theorem R7 (c:dP) (h:Rg c.aG):Wr 228 [.agg (aY c)] 42:=by
 intro l hl;suffices h:∃r,aB Tryz.prog 228 [.uniq 5 1 l.length (kF l),.agg (aY c)]=some r∧∃m:List Int,r=.uniq 5 1 m.length (kF m)∧(m.length:Int)≤l.length+42 by
  obtain⟨r,h,m,rfl,h2⟩:=h;exact⟨m,h,h2⟩
 obtain⟨m1,e1,b1⟩:=(Xj c.aG h).at (cU (.v _)) (l:=l) (by omega)
 obtain⟨m2,e2,b2⟩:=(GX c.root).at (cU (qR _)) (l:=m1) (by omega)
 rw[ZM Tryz.prog Tryz.func228 rfl aLR (by kernel_rfl) _ _ _ _ _ (uJ _ _)]
 simp only[ZG,seval,Bool.false_and,Prod.mk.injEq,aLS,mH,oJ,mI,mJ,oK,e1,e2];exact⟨_,zN (.inl rfl) rfl (by simp only[E8,seval]<;>rfl) (by simp only[E8,seval]<;>rfl) (zO _),_,rfl,by omega⟩
end Go.Ab.Tryz
end
namespace Go.Ab.Tryz
open Classical Go.Proofs Go.Ab
theorem aLT (o p:Option (List Int)) (hn:((ol o).length:Int)<1000000):∃r,aB Tryz.prog 105 [ov aK o,ov aK p]=some r∧∃b:Bool,r=.v (.bool b):=by
 rw[cL Tryz.func105 rfl aE9 (by cases o<;>cases p<;>rfl)]
 by_cases g:((ol o).length:Int)=((ol p).length:Int)
 case neg =>
  simp only[Z8,seval,bf g];exact⟨_,bX rfl (by simp only[E8,seval]<;>rfl) (by first|exact .v _|simp only[dV]),_,rfl⟩
 simp only[Z8,seval,bt g];refine cF (fun m st=>∃k:Nat,(st.env 0=ov aK o∧st.env 1=ov aK p∧st.env 5=.v (.int .i64 k))∧k≤(ol o).length∧m=(ol o).length-k)
  (fun e st=>(e=.ret∧st.env 4=.v (.bool false))∨e=.exit 0) (ol o).length ?step ?start ?rest
 case step =>
  rintro m st ⟨k,hI,hk,hm⟩
  by_cases bA:(k:Int)<(ol o).length
  ·have q0:(0:Int)≤k:=by omega
   have q1:(k:Int)<((ol p).length:Int):=by omega
   have hw:IntKind.i64.wrap ((k:Int)+1)=((k+1:Nat):Int):=by rw[mZ _ (by omega) (by omega)];omega
   by_cases hh:gx (0:Int) (ol o) (k:Int)=gx (0:Int) (ol p) (k:Int)
   ·apply oN ((ol o).length-(k+1))
    ·simp only[Z8,seval,hI,bA,q0,q1,bt hh,hw];rfl
    ·exact⟨k+1,by simp only[E8,seval,hI],by omega,rfl⟩
   ·apply oT (.ret)
    ·simp only[Z8,seval,hI,bA,q0,q1,bf hh];rfl
    ·exact .inl ⟨rfl,by simp only[E8,seval]⟩
  ·apply oT (.exit 0)
   ·simp only[Z8,seval,hI,bA];rfl
   ·exact .inr rfl
 case start=>exact⟨0,by simp only[E8,seval]<;>rfl,by omega,by omega⟩
 case rest =>
  rintro e st (⟨rfl,h⟩|rfl)
  ·simp only[Z8,seval,h];exact⟨_,bX rfl (by simp only[E8,seval,h]<;>rfl) (by first|exact .v _|simp only[dV,h]),_,rfl⟩
  ·simp only[Z8,seval];exact⟨_,bX rfl (by simp only[E8,seval]<;>rfl) (by first|exact .v _|simp only[dV]),_,rfl⟩
theorem aQN (o p:Option (List Int)) (hn:((ol o).length:Int)<1000000):∃r,aB Tryz.prog 103 [ov bJ o,ov bJ p]=some r∧∃b:Bool,r=.v (.bool b):=by
 rw[cL Tryz.func103 rfl aFa (by cases o<;>cases p<;>rfl)]
 by_cases g:((ol o).length:Int)=((ol p).length:Int)
 case neg =>
  simp only[Z8,seval,bf g];exact⟨_,bX rfl (by simp only[E8,seval]<;>rfl) (by first|exact .v _|simp only[dV]),_,rfl⟩
 simp only[Z8,seval,bt g];refine cF (fun m st=>∃k:Nat,(st.env 0=ov bJ o∧st.env 1=ov bJ p∧st.env 5=.v (.int .i64 k))∧k≤(ol o).length∧m=(ol o).length-k)
  (fun e st=>(e=.ret∧st.env 4=.v (.bool false))∨e=.exit 0) (ol o).length ?step ?start ?rest
 case step =>
  rintro m st ⟨k,hI,hk,hm⟩
  by_cases bA:(k:Int)<(ol o).length
  ·have q0:(0:Int)≤k:=by omega
   have q1:(k:Int)<((ol p).length:Int):=by omega
   have hw:IntKind.i64.wrap ((k:Int)+1)=((k+1:Nat):Int):=by rw[mZ _ (by omega) (by omega)];omega
   by_cases hh:gx (0:Int) (ol o) (k:Int)=gx (0:Int) (ol p) (k:Int)
   ·apply oN ((ol o).length-(k+1))
    ·simp only[Z8,seval,hI,bA,q0,q1,bt hh,hw];rfl
    ·exact⟨k+1,by simp only[E8,seval,hI],by omega,rfl⟩
   ·apply oT (.ret)
    ·simp only[Z8,seval,hI,bA,q0,q1,bf hh];rfl
    ·exact .inl ⟨rfl,by simp only[E8,seval]⟩
  ·apply oT (.exit 0)
   ·simp only[Z8,seval,hI,bA];rfl
   ·exact .inr rfl
 case start=>exact⟨0,by simp only[E8,seval]<;>rfl,by omega,by omega⟩
 case rest =>
  rintro e st (⟨rfl,h⟩|rfl)
  ·simp only[Z8,seval,h];exact⟨_,bX rfl (by simp only[E8,seval,h]<;>rfl) (by first|exact .v _|simp only[dV,h]),_,rfl⟩
  ·simp only[Z8,seval];exact⟨_,bX rfl (by simp only[E8,seval]<;>rfl) (by first|exact .v _|simp only[dV]),_,rfl⟩
theorem aQO (a b:sC) (ha:Cw a) (hb:Cw b):∃r,aB Tryz.prog 108 [.agg (iB a),.agg (iB b)]=some r∧∃b:Bool,r=.v (.bool b):=by
 obtain⟨V,hV,nV⟩:=ha
 obtain⟨W,hW,nW⟩:=hb
 obtain⟨r1,e1,B,rfl⟩:=aLT V W nV
 have R9:=kx e1 (bE (bW V) (bW W)) (.v _)
 rw[cL Tryz.func108 rfl aFb rfl];by_cases g1:a.slot=b.slot
 case neg =>
  simp only[Z8,seval,hV,hW,bf g1];exact⟨_,bX rfl (by simp only[E8,seval]<;>rfl) (by first|exact .v _|simp only[dV]),_,rfl⟩
 by_cases g2:a.root=b.root
 case neg =>
  simp only[Z8,seval,hV,hW,bt g1,g2];exact⟨_,bX rfl (by simp only[E8,seval]<;>rfl) (by first|exact .v _|simp only[dV]),_,rfl⟩
 by_cases g3:a.target=b.target
 case neg =>
  simp only[Z8,seval,hV,hW,bt g1,g2,g3];exact⟨_,bX rfl (by simp only[E8,seval]<;>rfl) (by first|exact .v _|simp only[dV]),_,rfl⟩
 simp only[Z8,seval,hV,hW,bt g1,g2,g3,R9];exact⟨_,bX rfl (by simp only[E8,seval]<;>rfl) (by first|exact .v _|simp only[dV]),_,rfl⟩
theorem aQP (a b:Table) (ha:qJ a) (hb:qJ b):∃r,aB Tryz.prog 159 [.agg (cA a),.agg (cA b)]=some r∧∃b:Bool,r=.v (.bool b):=by
 obtain⟨V,hV,nV⟩:=ha
 obtain⟨W,hW,nW⟩:=hb
 obtain⟨r1,e1,B,rfl⟩:=aQN V W nV
 have S3:=kx e1 (bE (dU V) (dU W)) (.v _)
 rw[cL Tryz.func159 rfl aFc rfl];by_cases g1:a.ck=b.ck
 case neg =>
  simp only[Z8,seval,hV,hW,g1];exact⟨_,bX rfl (by simp only[E8,seval]<;>rfl) (by first|exact .v _|simp only[dV]),_,rfl⟩
 simp only[Z8,seval,hV,hW,g1,S3];exact⟨_,bX rfl (by simp only[E8,seval]<;>rfl) (by first|exact .v _|simp only[dV]),_,rfl⟩
def wU (a:Claim):Prop:=∃V:Option (List Int),a.eU=ov aK V∧((ol V).length:Int)≤1000
theorem wU.fl {a:Claim} (h:wU a):Flat (.agg (gU a)):=by obtain⟨V,h,_⟩:=h;exact (zK a).2 (by rw[h];exact bW V)
theorem aLU (a b:Claim) (ha:wU a) (hb:wU b):∃r,aB Tryz.prog 232 [.agg (gU a),.agg (gU b)]=some r∧∃b:Bool,r=.v (.bool b):=by
 obtain⟨V,hV,nV⟩:=ha
 obtain⟨W,hW,nW⟩:=hb
 obtain⟨r1,e1,B,rfl⟩:=aLT V W (by omega)
 have R9:=kx e1 (bE (bW V) (bW W)) (.v _)
 rw[cL Tryz.func232 rfl aLV rfl];by_cases g1:a.source=b.source
 case neg =>
  simp only[Z8,seval,hV,hW,bf g1];exact⟨_,bX rfl (by simp only[E8,seval]<;>rfl) (by first|exact .v _|simp only[dV]),_,rfl⟩
 by_cases g2:a.target=b.target
 case neg =>
  simp only[Z8,seval,hV,hW,bt g1,bf g2];exact⟨_,bX rfl (by simp only[E8,seval]<;>rfl) (by first|exact .v _|simp only[dV]),_,rfl⟩
 by_cases g3:a.root=b.root
 case neg =>
  simp only[Z8,seval,hV,hW,bt g1,bt g2,g3];exact⟨_,bX rfl (by simp only[E8,seval]<;>rfl) (by first|exact .v _|simp only[dV]),_,rfl⟩
 simp only[Z8,seval,hV,hW,bt g1,bt g2,g3,R9];exact⟨_,bX rfl (by simp only[E8,seval]<;>rfl) (by first|exact .v _|simp only[dV]),_,rfl⟩
theorem aQQ (a b:fW) (h1:wU a.first) (h2:wU a.second) (h3:wU b.first) (h4:wU b.second):∃r,aB Tryz.prog 216 [.agg (cC a),.agg (cC b)]=some r∧∃b:Bool,r=.v (.bool b):=by
 obtain⟨r1,e1,B1,rfl⟩:=aLU a.first b.first h1 h3
 obtain⟨r2,e2,B2,rfl⟩:=aLU a.second b.second h2 h4
 have k1:=kx e1 (bE h1.fl h3.fl) (.v _)
 have k2:=kx e2 (bE h2.fl h4.fl) (.v _)
 rw[cL Tryz.func216 rfl aLW rfl];cases B1
 ·simp only[Z8,seval,k1];exact⟨_,bX rfl (by simp only[E8,seval]<;>rfl) (by first|exact .v _|simp only[dV]),_,rfl⟩
 ·simp only[Z8,seval,k1,k2];exact⟨_,bX rfl (by simp only[E8,seval]<;>rfl) (by first|exact .v _|simp only[dV]),_,rfl⟩
structure pI (x:xI):Prop where
 Ga:∃V:Option (List Int),x.Ga.eU=ov aK V∧((ol V).length:Int)≤1000
 c1:wU x.oV.first
 c2:wU x.oV.second
 UQ:∃b:Option (List Int),x.table.iP=ov bJ b∧((ol b).length:Int)≤1000∧∀y∈ol b,Rg y
 rb:RB x.block
 ra:Rg x.Ga.slot∧Rg x.Ga.target.aG
 rs:Rg x.oV.first.source∧Rg x.oV.first.target∧Rg x.oV.second.source∧Rg x.oV.second.target
 rt:Rg x.table.ck.aG
 rv:Rg x.verdict.tagged.tag
theorem pI.aFd {x:xI} (h:pI x):Cw x.Ga:=by obtain⟨V,h1,h2⟩:=h.Ga;exact⟨V,h1,by omega⟩
theorem pI.S4 {x:xI} (h:pI x):qJ x.table:=by obtain⟨V,h1,h2,_⟩:=h.UQ;exact⟨V,h1,by omega⟩
theorem pI.fl {x:xI} (h:pI x):Flat x.Ga.eU∧Flat x.oV.first.eU∧Flat x.oV.second.eU∧Flat x.table.iP:=by
 obtain⟨V,h1,_⟩:=h.Ga;obtain⟨V2,h2,_⟩:=h.c1;obtain⟨V3,h3,_⟩:=h.c2;obtain⟨V4,h4,_⟩:=h.UQ
 rw[h1,h2,h3,h4];exact⟨bW _,bW _,bW _,dU _⟩
theorem pI.flat {x:xI} (h:pI x):Flat (.agg (kZ x)):=(TW x).2 h.fl
theorem UR (a b:xI) (ha:pI a) (hb:pI b):∃r,aB Tryz.prog 201 [.agg (kZ a),.agg (kZ b)]=some r∧∃b:Bool,r=.v (.bool b):=by
 have fa:=ha.fl
 have fb:=hb.fl
 obtain⟨r1,e1,B1,rfl⟩:=aQO a.Ga b.Ga ha.aFd hb.aFd
 obtain⟨r2,e2,B2,rfl⟩:=aQQ a.oV b.oV ha.c1 ha.c2 hb.c1 hb.c2
 obtain⟨r3,e3,B3,rfl⟩:=aQP a.table b.table ha.S4 hb.S4
 have k1:=kx e1 (bE ((zJ _).2 fa.1) ((zJ _).2 fb.1)) (.v _)
 have k2:=kx e2 (bE ((mX _).2 ⟨fa.2.1,fa.2.2.1⟩) ((mX _).2 ⟨fb.2.1,fb.2.2.1⟩)) (.v _)
 have k3:=kx e3 (bE ((iE _).2 fa.2.2.2) ((iE _).2 fb.2.2.2)) (.v _)
 rw[cL Tryz.func201 rfl aLX rfl];by_cases g1:a.kind=b.kind
 case neg =>
  simp only[Z8,seval,lS,lU,bf g1];exact⟨_,bX rfl (by simp only[E8,seval]<;>rfl) (by first|exact .v _|simp only[dV]),_,rfl⟩
 by_cases g2:a.block=b.block
 case neg =>
  simp only[Z8,seval,lS,lU,bt g1,g2];exact⟨_,bX rfl (by simp only[E8,seval]<;>rfl) (by first|exact .v _|simp only[dV]),_,rfl⟩
 cases B1
 ·simp only[Z8,seval,lS,lU,bt g1,g2,k1];exact⟨_,bX rfl (by simp only[E8,seval]<;>rfl) (by first|exact .v _|simp only[dV]),_,rfl⟩
 cases B2
 ·simp only[Z8,seval,lS,lU,bt g1,g2,k1,k2];exact⟨_,bX rfl (by simp only[E8,seval]<;>rfl) (by first|exact .v _|simp only[dV]),_,rfl⟩
 cases B3
 ·simp only[Z8,seval,lS,lU,bt g1,g2,k1,k2,k3];exact⟨_,bX rfl (by simp only[E8,seval]<;>rfl) (by first|exact .v _|simp only[dV]),_,rfl⟩
 by_cases g3:a.verdict=b.verdict
 case neg =>
  simp only[Z8,seval,lS,lU,bt g1,g2,k1,k2,k3,g3];exact⟨_,bX rfl (by simp only[E8,seval]<;>rfl) (by first|exact .v _|simp only[dV]),_,rfl⟩
 by_cases g4:a.write=b.write
 case neg =>
  simp only[Z8,seval,lS,lU,bt g1,g2,k1,k2,k3,g3,bf g4];exact⟨_,bX rfl (by simp only[E8,seval]<;>rfl) (by first|exact .v _|simp only[dV]),_,rfl⟩
 simp only[Z8,seval,lS,lU,bt g1,g2,k1,k2,k3,g3,bt g4];exact⟨_,bX rfl (by simp only[E8,seval]<;>rfl) (by first|exact .v _|simp only[dV]),_,rfl⟩
theorem aCx (cs:List AV) (o:Nat) (h:32≤cs.length-o):fB Tryz.prog 26 cs o=some (.agg (rd cs o 32)):=by
 have e:fQ Tryz.prog 26=some (true,32):=by kernel_rfl
 unfold fB;simp only[e];rw[if_pos ⟨by omega,h⟩]
theorem S5:sO Tryz.prog 26=some 32:=by kernel_rfl
theorem aLY:eH Tryz.prog 26=some tJ:=by kernel_rfl
theorem aLZ:jJ Tryz.prog 26=some (32,1):=by kernel_rfl
theorem aL0:dS Tryz.prog 26=none:=by kernel_rfl
theorem aL1 (r:cJ) (st:St) (s g o:Nat) (h:st.heap s g=some (.cells (bD r))):dA Tryz.prog st 26 (.ptr s g o) none none=some (.vw s g o 32):=by
 simp only[dA,aL0,aLZ,h]
theorem aGx (st:St) (x:AV) {k:IntKind} {i:Int} (h0:0≤i) (h1:i<32):bH Tryz.prog st 26 x (.v (.int k i))=vF x (i.toNat * 1):=GK aLZ st x h0 h1
theorem xQ (x:Int):(IntKind.u64.wrap x<0)=False:=by
 refine eq_false ?_
 unfold IntKind.wrap;simp[IntKind.signed,IntKind.bits]
 omega
theorem aQR (w:qN):∃r:cJ,aB Tryz.prog 246 [.agg (gI w)]=some (.agg (bD r)):=by
 suffices h:∃x,aB Tryz.prog 246 [.agg (gI w)]=some x∧∃r:cJ,x=.agg (bD r) by
  obtain⟨x,h,r,rfl⟩:=h;exact⟨r,h⟩
 rw[cL Tryz.func246 rfl aL2 rfl];simp only[Z8,seval,aLY];refine cF (fun m st=>∃(k:Nat) (r:cJ),(st.env 1=.ptr 1 0 0∧st.heap 1 0=some (.cells (gI w))∧st.env 3=.ptr 3 0 0∧st.heap 3 0=some (.cells (bD r))∧st.env 2=.ptr 2 0 0∧st.heap 2 0=some (.cells (bD dR))∧st.env 4=.v (.int .i64 k))∧k≤32∧m=32-k)
  (fun e st=>e=.exit 0∧∃r:cJ,st.env 3=.ptr 3 0 0∧st.heap 3 0=some (.cells (bD r))∧st.env 2=.ptr 2 0 0∧st.heap 2 0=some (.cells (bD dR))) 32 ?step ?start ?rest
 case step =>
  rintro m st ⟨k,r,hI,hk,hm⟩
  by_cases bA:(k:Int)<32
  ·have q0:(0:Int)≤k:=by omega
   have hw:IntKind.i64.wrap ((k:Int)+1)=((k+1:Nat):Int):=by rw[mZ _ (by omega) (by omega)];omega
   obtain⟨i,hi⟩:∃i:Int,i=31-(k:Int):=⟨_,rfl⟩
   have hi1:IntKind.i64.wrap (31-(k:Int))=i:=by rw[mZ _ (by omega) (by omega),hi]
   have i0:0≤i:=by omega
   have i1:i<32:=by omega
   have hj:IntKind.i64.wrap ((k:Int).tdiv 8)=(k:Int) / 8:=by rw[Int.tdiv_eq_ediv_of_nonneg q0,mZ _ (by omega) (by omega)]
   have j0:0≤(k:Int) / 8:=by omega
   have j1:(k:Int) / 8<4:=by omega
   have i31:i.toNat≤31:=by omega
   have gw:=Ql w j0 j1
   have Mo:=fun x=>Wb r i.toNat (i.toNat+1) x (by omega) rfl
   apply oN (32-(k+1))
   ·simp only[Z8,seval,hI,bA,q0,hi1,i0,i1,hj,j0,j1,Hb,aGx,gw,i31,Mo,xQ,Nat.mul_one,hw];rfl
   ·exact⟨k+1,_,by simp only[E8,seval,hI]<;>rfl,by omega,rfl⟩
  ·apply oT (.exit 0)
   ·simp only[Z8,seval,hI,bA];rfl
   ·exact⟨rfl,r,by simp only[E8,seval,hI]⟩
 case start=>exact⟨0,dR,by simp only[E8,seval]<;>rfl,by omega,by omega⟩
 case rest =>
  rintro e st ⟨rfl,r,hI⟩
  simp only[Z8,seval,hI,aCx,S5];exact⟨_,fK rfl (by simp only[E8,seval,hI,aCx,S5]<;>rfl) (by simp only[Z8,seval,hI,aCx,S5]<;>rfl) (by simp only[dV,and_self,hI,aCx,S5]),r,rfl⟩
theorem aQS (w:qN):∃r:cJ,∀(st:St) (d:Option Nat),aN (aB Tryz.prog) 246 [.agg (gI w)] st d=some { dst:=d,val:=.agg (bD r)}:=by
 obtain⟨r,h⟩:=aQR w
 exact⟨r,kx h (cU (.agg _ (iQ w))) (qR r)⟩
theorem aL3 (x:qN):Wr 227 [.agg (gI x)] 32:=by
 intro l hl;suffices h:∃r,aB Tryz.prog 227 [.uniq 5 1 l.length (kF l),.agg (gI x)]=some r∧∃m:List Int,r=.uniq 5 1 m.length (kF m)∧(m.length:Int)≤l.length+32 by
  obtain⟨r,h,m,rfl,h2⟩:=h;exact⟨m,h,h2⟩
 have Qh:(l.length:Int)<1000000:=by omega
 obtain⟨r,kr⟩:=aQS x
 have hr:(r.toList.length:Int)<1000000:=by simp
 rw[Nx Tryz.prog Tryz.func227 rfl aL4 _ _ _ _ _ (uJ _ _)];simp only[Z8,seval,mH,oJ,mI,mJ,oK,kr,aLY,S5,aL1 r,R6 _ _ _ r,UP _ _ _ _ Qh hr];exact⟨_,zN (.inl rfl) rfl (by simp only[E8,seval]<;>rfl) (by simp only[E8,seval]<;>rfl) (zO _),_,rfl,by rw[List.length_append];simp⟩
theorem aQT (b:Bool):Wr 229 [.v (.bool b)] 1:=by
 intro l hl;suffices h:∃r,aB Tryz.prog 229 [.uniq 5 1 l.length (kF l),.v (.bool b)]=some r∧∃m:List Int,r=.uniq 5 1 m.length (kF m)∧(m.length:Int)≤l.length+1 by
  obtain⟨r,h,m,rfl,h2⟩:=h;exact⟨m,h,h2⟩
 have Qh:(l.length:Int)<1000000:=by omega
 rw[Nx Tryz.prog Tryz.func229 rfl aL5 _ _ _ _ _ (uJ _ _)];cases b
 all_goals
  simp only[Z8,seval,mH,oJ,mI,mJ,oK,Lj _ _ _ _ Qh];exact⟨_,zN (.inl rfl) rfl (by simp only[E8,seval]<;>rfl) (by simp only[E8,seval]<;>rfl) (zO _),_,rfl,by rw[List.length_append,List.length_cons,List.length_nil];omega⟩
theorem iK (x:Int):Rg (IntKind.u64.wrap x):=by
 unfold Rg IntKind.wrap;simp[IntKind.signed,IntKind.bits]
 omega
theorem aGy (V:Option (List Int)) (nV:((ol V).length:Int)≤1000):Wr 230 [ov aK V] 10010:=by
 intro l hl;suffices h:∃r,aB Tryz.prog 230 [.uniq 5 1 l.length (kF l),ov aK V]=some r∧∃m:List Int,r=.uniq 5 1 m.length (kF m)∧(m.length:Int)≤l.length+10010 by
  obtain⟨r,h,m,rfl,h2⟩:=h;exact⟨m,h,h2⟩
 obtain⟨m1,e1,b1⟩:=(Xj _ (iK ((ol V).length:Int))).at (cU (.v _)) (l:=l) (by omega)
 rw[Nx Tryz.prog Tryz.func230 rfl aL6 _ _ _ _ _ (uJ _ _)];simp only[Z8,seval,mH,oJ,mI,mJ,oK,e1];refine cF (fun m st=>∃(k:Nat) (p:List Int) (a g:Nat),(st.env 0=.own a g∧st.heap a g=some (.row 5 1 p.length (kF p))∧st.env 1=ov aK V∧st.env 5=.v (.int .i64 k))∧((a=10∧g<st.aQ 10)∨(a=24∧g<st.aQ 24)∨(a=38∧g<st.aQ 38))∧(p.length:Int)≤l.length+10+10 * k∧k≤(ol V).length∧m=(ol V).length-k)
  (fun e st=>e=.exit 0∧∃(p:List Int) (a g:Nat),(st.env 0=.own a g∧st.heap a g=some (.row 5 1 p.length (kF p)))∧(p.length:Int)≤l.length+10010) (ol V).length ?step ?start ?rest
 case step =>
  rintro m st ⟨k,p,a,g,hI,GW,hp,hk,hm⟩
  by_cases bA:(k:Int)<(ol V).length
  ·have q0:(0:Int)≤k:=by omega
   have hw:IntKind.i64.wrap ((k:Int)+1)=((k+1:Nat):Int):=by rw[mZ _ (by omega) (by omega)];omega
   have fin:∀(p':List Int),(p'.length:Int)≤p.length+10→(p'.length:Int)≤l.length+10+10 * ((k+1:Nat):Int):=fun p' h=>by omega
   by_cases h1:(k:Int)=0
   ·have z0:(0:Int)<((ol V).length:Int):=by omega
    have z1:(0:Int)≤0:=by omega
    obtain⟨p',e2,b2⟩:=(Xj _ (iK (gx (0:Int) (ol V) (0:Int)))).at (cU (.v _)) (l:=p) (by omega)
    rcases GW with ⟨rfl,hg⟩|⟨rfl,hg⟩|⟨rfl,hg⟩
    ·apply oN ((ol V).length-(k+1))
     ·simp only[Z8,seval,hI,bA,q0,bt h1,z0,z1,e2,hw];rfl
     ·exact⟨k+1,p',_,_,⟨by simp only[E8,seval]<;>rfl,by simp only[E8,seval]<;>rfl,by simp only[E8,seval,hI],by simp only[E8,seval]⟩,.inr (.inl ⟨rfl,by simp only[E8,seval]<;>omega⟩),fin p' b2,by omega,rfl⟩
    ·have uV:(g=st.aQ 24)=False:=eq_false (by omega)
     apply oN ((ol V).length-(k+1))
     ·simp only[Z8,seval,hI,uV,bA,q0,bt h1,z0,z1,e2,hw];rfl
     ·exact⟨k+1,p',_,_,⟨by simp only[E8,seval]<;>rfl,by simp only[E8,seval]<;>rfl,by simp only[E8,seval,hI],by simp only[E8,seval]⟩,.inr (.inl ⟨rfl,by simp only[E8,seval]<;>omega⟩),fin p' b2,by omega,rfl⟩
    ·apply oN ((ol V).length-(k+1))
     ·simp only[Z8,seval,hI,bA,q0,bt h1,z0,z1,e2,hw];rfl
     ·exact⟨k+1,p',_,_,⟨by simp only[E8,seval]<;>rfl,by simp only[E8,seval]<;>rfl,by simp only[E8,seval,hI],by simp only[E8,seval]⟩,.inr (.inl ⟨rfl,by simp only[E8,seval]<;>omega⟩),fin p' b2,by omega,rfl⟩
   ·have YZ:IntKind.i64.wrap ((k:Int)-1)=(k:Int)-1:=mZ _ (by omega) (by omega)
    have y0:(0:Int)≤(k:Int)-1:=by omega
    have y1:(k:Int)-1<((ol V).length:Int):=by omega
    obtain⟨p',e2,b2⟩:=(Xj _ (iK (IntKind.i64.wrap (IntKind.i64.wrap (gx (0:Int) (ol V) (k:Int)-gx (0:Int) (ol V) ((k:Int)-1))-1)))).at (cU (.v _)) (l:=p) (by omega)
    rcases GW with ⟨rfl,hg⟩|⟨rfl,hg⟩|⟨rfl,hg⟩
    ·apply oN ((ol V).length-(k+1))
     ·simp only[Z8,seval,hI,bA,q0,bf h1,YZ,y0,y1,e2,hw];rfl
     ·exact⟨k+1,p',_,_,⟨by simp only[E8,seval]<;>rfl,by simp only[E8,seval]<;>rfl,by simp only[E8,seval,hI],by simp only[E8,seval]⟩,.inr (.inr ⟨rfl,by simp only[E8,seval]<;>omega⟩),fin p' b2,by omega,rfl⟩
    ·apply oN ((ol V).length-(k+1))
     ·simp only[Z8,seval,hI,bA,q0,bf h1,YZ,y0,y1,e2,hw];rfl
     ·exact⟨k+1,p',_,_,⟨by simp only[E8,seval]<;>rfl,by simp only[E8,seval]<;>rfl,by simp only[E8,seval,hI],by simp only[E8,seval]⟩,.inr (.inr ⟨rfl,by simp only[E8,seval]<;>omega⟩),fin p' b2,by omega,rfl⟩
    ·have uV:(g=st.aQ 38)=False:=eq_false (by omega)
     apply oN ((ol V).length-(k+1))
     ·simp only[Z8,seval,hI,uV,bA,q0,bf h1,YZ,y0,y1,e2,hw];rfl
     ·exact⟨k+1,p',_,_,⟨by simp only[E8,seval]<;>rfl,by simp only[E8,seval]<;>rfl,by simp only[E8,seval,hI],by simp only[E8,seval]⟩,.inr (.inr ⟨rfl,by simp only[E8,seval]<;>omega⟩),fin p' b2,by omega,rfl⟩
  ·apply oT (.exit 0)
   ·simp only[Z8,seval,hI,bA];rfl
   ·exact⟨rfl,p,a,g,by simp only[E8,seval,hI],by omega⟩
 case start=>exact⟨0,m1,10,0,by and_intros<;>(simp only[E8,seval,mH,oJ,mI,mJ,oK]<;>rfl),.inl ⟨rfl,by simp only[E8,seval,mH,oJ,mI,mJ,oK]<;>omega⟩,by omega,by omega,by omega⟩
 case rest =>
  rintro e st ⟨rfl,p,a,g,hI,hp⟩
  simp only[Z8,seval,hI];exact⟨_,zN (.inl rfl) rfl (by simp only[E8,seval]<;>rfl) (by simp only[E8,seval,hI]<;>rfl) (zO _),_,rfl,hp⟩
theorem aQU (c:Claim) (V:Option (List Int)) (hV:c.eU=ov aK V) (nV:((ol V).length:Int)≤1000) (h1:Rg c.source) (h2:Rg c.target):Wr 231 [.agg (gU c)] 10100:=by
 intro l hl;suffices h:∃r,aB Tryz.prog 231 [.uniq 5 1 l.length (kF l),.agg (gU c)]=some r∧∃m:List Int,r=.uniq 5 1 m.length (kF m)∧(m.length:Int)≤l.length+10100 by
  obtain⟨r,h,m,rfl,h2⟩:=h;exact⟨m,h,h2⟩
 obtain⟨m1,e1,b1⟩:=(Xj c.source h1).at (cU (.v _)) (l:=l) (by omega)
 obtain⟨m2,e2,b2⟩:=(Xj c.target h2).at (cU (.v _)) (l:=m1) (by omega)
 obtain⟨m3,e3,b3⟩:=(GX c.root).at (cU (qR _)) (l:=m2) (by omega)
 obtain⟨m4,e4,b4⟩:=(aGy V nV).at (cU (bW V)) (l:=m3) (by omega)
 rw[ZM Tryz.prog Tryz.func231 rfl aFe (by kernel_rfl) _ _ _ _ _ (uJ _ _)]
 simp only[ZG,seval,Bool.false_and,Prod.mk.injEq,aFf,mH,oJ,mI,mJ,oK,e1,e2,e3,e4,hV,Bf,Bg,Hc,Hd];exact⟨_,zN (.inl rfl) rfl (by simp only[E8,seval]<;>rfl) (by simp only[E8,seval]<;>rfl) (zO _),_,rfl,by omega⟩
theorem aQV (c:Claim) (V:Option (List Int)) (hV:c.eU=ov aK V) (nV:((ol V).length:Int)≤1000) (h1:Rg c.source) (h2:Rg c.target):WrN 231 [.agg (gU c)] 10100:=by
 suffices h:∃r,aB Tryz.prog 231 [.v (.slice none 0 0),.agg (gU c)]=some r∧∃m:List Int,r=.uniq 5 1 m.length (kF m)∧(m.length:Int)≤10100 by
  obtain⟨r,h,m,rfl,h2⟩:=h;exact⟨m,h,h2⟩
 obtain⟨m1,e1,b1⟩:=(D2 c.source h1).at (cU (.v _))
 obtain⟨m2,e2,b2⟩:=(Xj c.target h2).at (cU (.v _)) (l:=m1) (by omega)
 obtain⟨m3,e3,b3⟩:=(GX c.root).at (cU (qR _)) (l:=m2) (by omega)
 obtain⟨m4,e4,b4⟩:=(aGy V nV).at (cU (bW V)) (l:=m3) (by omega)
 rw[cG Tryz.func231 rfl aFe (by kernel_rfl) rfl]
 simp only[ZG,seval,Bool.false_and,Prod.mk.injEq,aFf,e1,e2,e3,e4,hV,Bf,Bg,Hc,Hd];exact⟨_,tO rfl (by simp only[E8,seval]<;>rfl) (by simp only[E8,seval]<;>rfl) (vR _),_,rfl,by omega⟩
theorem aQW (x:Block) (h:RB x):WrN 210 [.agg (aV x)] 400:=by
 suffices h:∃r,aB Tryz.prog 210 [.v (.slice none 0 0),.agg (aV x)]=some r∧∃m:List Int,r=.uniq 5 1 m.length (kF m)∧(m.length:Int)≤400 by
  obtain⟨r,h,m,rfl,h2⟩:=h;exact⟨m,h,h2⟩
 obtain⟨m1,e1,b1⟩:=(D2 x.slot h.sl).at (cU (.v _))
 obtain⟨m2,e2,b2⟩:=(GX x.root).at (cU (qR _)) (l:=m1) (by omega)
 obtain⟨m3,e3,b3⟩:=(GX x.parent).at (cU (qR _)) (l:=m2) (by omega)
 obtain⟨m4,e4,b4⟩:=(GX x.jK).at (cU (qR _)) (l:=m3) (by omega)
 obtain⟨m5,e5,b5⟩:=(aL3 x.diff).at (cU (.agg _ (iQ _))) (l:=m4) (by omega)
 obtain⟨m6,e6,b6⟩:=(aL3 x.EG).at (cU (.agg _ (iQ _))) (l:=m5) (by omega)
 obtain⟨m7,e7,b7⟩:=(R7 x.gJ h.j).at (cU (.agg _ (bM _))) (l:=m6) (by omega)
 obtain⟨m8,e8,b8⟩:=(R7 x.fin h.f).at (cU (.agg _ (bM _))) (l:=m7) (by omega)
 obtain⟨m9,e9,b9⟩:=(R7 x.dW.pj h.pj).at (cU (.agg _ (bM _))) (l:=m8) (by omega)
 obtain⟨m10,e10,b10⟩:=(R7 x.dW.pf h.pf).at (cU (.agg _ (bM _))) (l:=m9) (by omega)
 obtain⟨m11,e11,b11⟩:=(aQT x.Eo).at (cU (.v _)) (l:=m10) (by omega)
 rw[cG Tryz.func210 rfl aL7 (by kernel_rfl) rfl]
 simp only[ZG,seval,Bool.false_and,Prod.mk.injEq,aL8,e1,e2,e3,e4,e5,e6,e7,e8,e9,e10,e11];exact⟨_,tO rfl (by simp only[E8,seval]<;>rfl) (by simp only[E8,seval]<;>rfl) (vR _),_,rfl,by omega⟩
def xR (r:AV):Prop:=∃(o:Option (List Int)) (e:Int),r=.eE [ov kF o,.v (.int .i64 e)]
theorem xR.none (e:Int):xR (.eE [.v (.slice none 0 0),.v (.int .i64 e)]):=⟨Option.none,e,rfl⟩
theorem xR.some (l:List Int) (e:Int):xR (.eE [.sl l.length (kF l),.v (.int .i64 e)]):=⟨Option.some l,e,rfl⟩
theorem aQX (a:sC) (V:Option (List Int)) (hV:a.eU=ov aK V) (nV:((ol V).length:Int)≤1000) (h1:Rg a.slot) (h2:Rg a.target.aG):∃r,aB Tryz.prog 211 [.agg (iB a)]=some r∧xR r:=by
 have KS:=kx (c40 V (by omega) 1024) (bE (bW V) (.v _)) (.v _)
 obtain⟨e,he⟩:∃e,AW (ol V) 1024=e:=⟨_,rfl⟩
 rw[he] at KS;obtain⟨m1,e1,b1⟩:=(D2 a.slot h1).at (cU (.v _))
 obtain⟨m2,e2,b2⟩:=(GX a.root).at (cU (qR _)) (l:=m1) (by omega)
 obtain⟨m3,e3,b3⟩:=(R7 a.target h2).at (cU (.agg _ (bM _))) (l:=m2) (by omega)
 obtain⟨m4,e4,b4⟩:=(aGy V nV).at (cU (bW V)) (l:=m3) (by omega)
 rw[cG Tryz.func211 rfl aL9 (by kernel_rfl) rfl]
 by_cases g:e=0
 ·simp only[ZG,seval,Bool.false_and,Prod.mk.injEq,aFg,hV,KS,bt g,e1,e2,e3,e4,Bf,Bg,Hc,Hd];exact⟨_,dK rfl rfl rfl (by simp only[E8,seval,Dc]<;>rfl) (by simp only[E8,seval,Dc]<;>rfl),xR.some _ _⟩
 ·simp only[ZG,seval,Bool.false_and,Prod.mk.injEq,aFg,hV,KS,bf g];exact⟨_,dK rfl rfl rfl (by simp only[E8,seval]<;>rfl) (by simp only[E8,seval]<;>rfl),xR.none _⟩
theorem aQY (a:fW) (h1:wU a.first) (h2:wU a.second) (r1:Rg a.first.source) (r2:Rg a.first.target) (r3:Rg a.second.source) (r4:Rg a.second.target):∃r,aB Tryz.prog 212 [.agg (cC a)]=some r∧xR r:=by
 obtain⟨V,hV,nV⟩:=id h1
 obtain⟨W,hW,nW⟩:=id h2
 have kV:=kx (c40 V (by omega) 1024) (bE (bW V) (.v _)) (.v _)
 have kW:=kx (c40 W (by omega) 1024) (bE (bW W) (.v _)) (.v _)
 obtain⟨ev,AY⟩:∃e,AW (ol V) 1024=e:=⟨_,rfl⟩
 obtain⟨ew,hew⟩:∃e,AW (ol W) 1024=e:=⟨_,rfl⟩
 rw[AY] at kV;rw[hew] at kW;obtain⟨m1,e1,b1⟩:=(aQV a.first V hV nV r1 r2).at (cU h1.fl)
 obtain⟨m2,e2,b2⟩:=(aQU a.second W hW nW r3 r4).at (cU h2.fl) (l:=m1) (by omega)
 rw[cL Tryz.func212 rfl aMa rfl];by_cases g1:ev=0
 case neg =>
  simp only[Z8,seval,hV,hW,kV,bf g1];exact⟨_,dK rfl rfl rfl (by simp only[E8,seval]<;>rfl) (by simp only[E8,seval]<;>rfl),xR.none _⟩
 by_cases g2:ew=0
 case neg =>
  simp only[Z8,seval,hV,hW,kV,kW,bt g1,bf g2];exact⟨_,dK rfl rfl rfl (by simp only[E8,seval]<;>rfl) (by simp only[E8,seval]<;>rfl),xR.none _⟩
 simp only[Z8,seval,hV,hW,kV,kW,bt g1,bt g2,e1,e2];exact⟨_,dK rfl rfl rfl (by simp only[E8,seval,Dc]<;>rfl) (by simp only[E8,seval,Dc]<;>rfl),xR.some _ _⟩
theorem aQZ (t:Table) (b:Option (List Int)) (hb:t.iP=ov bJ b) (nb:((ol b).length:Int)≤1000) (rb:∀y∈ol b,Rg y) (rt:Rg t.ck.aG):∃r,aB Tryz.prog 213 [.agg (cA t)]=some r∧xR r:=by
 have hfT:Flat (.agg (cA t)):=(iE t).2 (by rw[hb];exact dU b)
 obtain⟨m1,e1,b1⟩:=(D2 t.ck.aG rt).at (cU (.v _))
 obtain⟨m2,e2,b2⟩:=(GX t.ck.root).at (cU (qR _)) (l:=m1) (by omega)
 obtain⟨m3,e3,b3⟩:=(Xj _ (iK ((ol b).length:Int))).at (cU (.v _)) (l:=m2) (by omega)
 rw[cG Tryz.func213 rfl aMb (by kernel_rfl) rfl]
 have g1:¬(1024:Int)<((ol b).length:Int):=by omega
 simp only[ZG,seval,Bool.false_and,Prod.mk.injEq,MT,hb,g1,e1,e2,e3,Bf,Bg,Hc,Hd];refine jH (fun m st=>∃(k:Nat) (p:List Int) (a g:Nat),(st.env 1=.ptr 1 0 0∧st.heap 1 0=some (.cells (cA t))∧st.env 4=.own a g∧st.heap a g=some (.row 5 1 p.length (kF p))∧st.env 5=.v (.int .i64 k))∧((a=22∧g=0)∨(a=36∧g<st.aQ 36))∧(p.length:Int)≤100+10 * k∧k≤(ol b).length∧m=(ol b).length-k)
  (fun e st=>e=.exit 0∧∃(p:List Int) (a g:Nat),st.env 4=.own a g∧st.heap a g=some (.row 5 1 p.length (kF p))) (ol b).length ?step ?start ?rest
 case step =>
  rintro m st ⟨k,p,a,g,hI,GW,hp,hk,hm⟩
  by_cases bA:(k:Int)<(ol b).length
  ·have q0:(0:Int)≤k:=by omega
   have hw:IntKind.i64.wrap ((k:Int)+1)=((k+1:Nat):Int):=by rw[mZ _ (by omega) (by omega)];omega
   obtain⟨p',e4,b4⟩:=(Xj _ (rb _ (pF (z:=(0:Int)) q0 bA))).at (cU (.v _)) (l:=p) (by omega)
   rcases GW with ⟨rfl,rfl⟩|⟨rfl,hg⟩
   ·apply Am ((ol b).length-(k+1))
    ·simp only[ZG,seval,Bool.false_and,Prod.mk.injEq,MT,hI,bA,q0,hb,e4,hw];rfl
    ·exact⟨k+1,p',36,_,⟨by simp only[E8,seval,hI],by simp only[E8,seval,hI],by simp only[E8,seval]<;>rfl,by simp only[E8,seval]<;>rfl,by simp only[E8,seval]⟩,.inr ⟨rfl,by simp only[E8,seval]<;>omega⟩,by omega,by omega,rfl⟩
   ·have uV:(g=st.aQ 36)=False:=eq_false (by omega)
    apply Am ((ol b).length-(k+1))
    ·simp only[ZG,seval,Bool.false_and,Prod.mk.injEq,MT,hI,uV,bA,q0,hb,e4,hw];rfl
    ·exact⟨k+1,p',36,_,⟨by simp only[E8,seval,hI],by simp only[E8,seval,hI],by simp only[E8,seval]<;>rfl,by simp only[E8,seval]<;>rfl,by simp only[E8,seval]⟩,.inr ⟨rfl,by simp only[E8,seval]<;>omega⟩,by omega,by omega,rfl⟩
  ·apply AX (.exit 0)
   ·simp only[ZG,seval,Bool.false_and,Prod.mk.injEq,MT,hI,bA,hb];rfl
   ·exact⟨rfl,p,a,g,by simp only[E8,seval,hI],by simp only[E8,seval,hI]⟩
 case start=>exact⟨0,m3,22,0,by and_intros<;>(simp only[E8,seval]<;>rfl),.inl ⟨rfl,rfl⟩,by omega,by omega,by omega⟩
 case rest =>
  rintro e st ⟨rfl,p,a,g,h4,hh⟩
  simp only[ZG,seval,Bool.false_and,Prod.mk.injEq,MT,h4,hh];exact⟨_,dK rfl rfl rfl (by simp only[E8,seval,h4,hh,Dc]<;>rfl) (by simp only[E8,seval,h4,hh,Dc]<;>rfl),xR.some _ _⟩
theorem aQ0 (v:gV) (h:Rg v.tagged.tag):∃r,aB Tryz.prog 214 [.agg (dJ v)]=some r∧xR r:=by
 obtain⟨m1,e1,b1⟩:=(D2 v.tagged.tag h).at (cU (.v _))
 obtain⟨m2,e2,b2⟩:=(Xj _ (iK v.kind)).at (cU (.v _)) (l:=m1) (by omega)
 obtain⟨m3,e3,b3⟩:=(GX v.eA).at (cU (qR _)) (l:=m2) (by omega)
 rw[cG Tryz.func214 rfl aMc (by kernel_rfl) rfl]
 by_cases g1:v.kind<1
 ·simp only[ZG,seval,Bool.false_and,Prod.mk.injEq,S6,g1];exact⟨_,dK rfl rfl rfl (by simp only[E8,seval]<;>rfl) (by simp only[E8,seval]<;>rfl),xR.none _⟩
 by_cases g2:4<v.kind
 ·simp only[ZG,seval,Bool.false_and,Prod.mk.injEq,S6,g1,g2];exact⟨_,dK rfl rfl rfl (by simp only[E8,seval]<;>rfl) (by simp only[E8,seval]<;>rfl),xR.none _⟩
 simp only[ZG,seval,Bool.false_and,Prod.mk.injEq,S6,g1,g2,e1,e2,e3];exact⟨_,dK rfl rfl rfl (by simp only[E8,seval,Dc]<;>rfl) (by simp only[E8,seval,Dc]<;>rfl),xR.some _ _⟩
theorem aQ1 (x:xI) (h:pI x):∃r,aB Tryz.prog 200 [.agg (kZ x)]=some r∧xR r:=by
 have pH:=h.fl
 obtain⟨V,hV,nV⟩:=h.Ga
 obtain⟨b,hb,nb,rb⟩:=h.UQ
 obtain⟨m1,e1,b1⟩:=(aQW x.block h.rb).at (cU (tF _))
 obtain⟨r2,e2,o2,f2,rfl⟩:=aQX x.Ga V hV nV h.ra.1 h.ra.2
 obtain⟨r3,e3,o3,f3,rfl⟩:=aQY x.oV h.c1 h.c2 h.rs.1 h.rs.2.1 h.rs.2.2.1 h.rs.2.2.2
 obtain⟨r4,e4,o4,f4,rfl⟩:=aQZ x.table b hb nb rb h.rt
 obtain⟨r5,e5,o5,f5,rfl⟩:=aQ0 x.verdict h.rv
 have k2:=kx e2 (cU ((zJ _).2 pH.1)) (.eE _ (bE (yQ _) (.v _)))
 have k3:=kx e3 (cU ((mX _).2 ⟨pH.2.1,pH.2.2.1⟩)) (.eE _ (bE (yQ _) (.v _)))
 have k4:=kx e4 (cU ((iE _).2 pH.2.2.2)) (.eE _ (bE (yQ _) (.v _)))
 have k5:=kx e5 (cU (.agg _ (jP _))) (.eE _ (bE (yQ _) (.v _)))
 obtain⟨m6,e6,b6⟩:=(D2 _ (iK x.write)).at (cU (.v _))
 obtain⟨m7,e7,b7⟩:=(Xj _ (iK x.qO)).at (cU (.v _)) (l:=m6) (by omega)
 rw[cL Tryz.func200 rfl aMd rfl];by_cases g2:x.kind=2
 ·simp only[Z8,seval,bt g2,e1];exact⟨_,dK rfl rfl rfl (by simp only[E8,seval,Dc]<;>rfl) (by simp only[E8,seval,Dc]<;>rfl),xR.some _ _⟩
 by_cases g3:x.kind=3
 ·simp only[Z8,seval,bf g2,bt g3,k2,dM];exact⟨_,dK rfl rfl rfl (by simp only[E8,seval,rM]<;>rfl) (by simp only[E8,seval,rM]<;>rfl),_,_,rfl⟩
 by_cases g4:x.kind=4
 ·simp only[Z8,seval,bf g2,bf g3,bt g4,k3,dM];exact⟨_,dK rfl rfl rfl (by simp only[E8,seval,rM]<;>rfl) (by simp only[E8,seval,rM]<;>rfl),_,_,rfl⟩
 by_cases g5:x.kind=5
 ·simp only[Z8,seval,bf g2,bf g3,bf g4,bt g5,k4,dM];exact⟨_,dK rfl rfl rfl (by simp only[E8,seval,rM]<;>rfl) (by simp only[E8,seval,rM]<;>rfl),_,_,rfl⟩
 by_cases g6:x.kind=6
 ·simp only[Z8,seval,bf g2,bf g3,bf g4,bf g5,bt g6,k5,dM];exact⟨_,dK rfl rfl rfl (by simp only[E8,seval,rM]<;>rfl) (by simp only[E8,seval,rM]<;>rfl),_,_,rfl⟩
 by_cases g8:x.kind=8
 case neg =>
  simp only[Z8,seval,bf g2,bf g3,bf g4,bf g5,bf g6,bf g8];exact⟨_,dK rfl rfl rfl (by simp only[E8,seval]<;>rfl) (by simp only[E8,seval]<;>rfl),xR.none _⟩
 by_cases w1:x.write<0
 ·simp only[Z8,seval,bf g2,bf g3,bf g4,bf g5,bf g6,bt g8,w1];exact⟨_,dK rfl rfl rfl (by simp only[E8,seval]<;>rfl) (by simp only[E8,seval]<;>rfl),xR.none _⟩
 by_cases w2:32768<x.write
 ·simp only[Z8,seval,bf g2,bf g3,bf g4,bf g5,bf g6,bt g8,w1,w2];exact⟨_,dK rfl rfl rfl (by simp only[E8,seval]<;>rfl) (by simp only[E8,seval]<;>rfl),xR.none _⟩
 by_cases w3:x.qO<0
 ·simp only[Z8,seval,bf g2,bf g3,bf g4,bf g5,bf g6,bt g8,w1,w2,w3];exact⟨_,dK rfl rfl rfl (by simp only[E8,seval]<;>rfl) (by simp only[E8,seval]<;>rfl),xR.none _⟩
 by_cases w4:32768<x.qO
 ·simp only[Z8,seval,bf g2,bf g3,bf g4,bf g5,bf g6,bt g8,w1,w2,w3,w4];exact⟨_,dK rfl rfl rfl (by simp only[E8,seval]<;>rfl) (by simp only[E8,seval]<;>rfl),xR.none _⟩
 simp only[Z8,seval,bf g2,bf g3,bf g4,bf g5,bf g6,bt g8,w1,w2,w3,w4,e6,e7];exact⟨_,dK rfl rfl rfl (by simp only[E8,seval,Dc]<;>rfl) (by simp only[E8,seval,Dc]<;>rfl),xR.some _ _⟩
theorem ZO:Rg 0:=⟨by omega,by omega⟩
theorem zOk:pI zP:=⟨⟨none,rfl,by simp[ol]⟩,⟨none,rfl,by simp[ol]⟩,⟨none,rfl,by simp[ol]⟩,⟨none,rfl,by simp[ol],by simp[ol]⟩,⟨ZO,ZO,ZO,ZO,ZO⟩,⟨ZO,ZO⟩,⟨ZO,ZO,ZO,ZO⟩,ZO,ZO⟩
theorem aQ2 (x:xI) (h:pI x):∃r,aB Tryz.prog 184 [.agg (kZ x)]=some r∧∃e:Int,r=.v (.int .i64 e):=by
 have z:=zOk
 have hf:=h.flat
 obtain⟨r1,e1,o1,e,rfl⟩:=aQ1 x h
 have MU:=kx e1 (cU hf) (.eE _ (bE (yQ _) (.v _)))
 rw[cG Tryz.func184 rfl aMe (by kernel_rfl) rfl]
 by_cases g1:x.kind<1
 ·simp only[ZG,seval,Bool.false_and,Prod.mk.injEq,Kh,g1];exact⟨_,bX rfl (by simp only[E8,seval]<;>rfl) (by first|exact .v _|simp only[dV]),_,rfl⟩
 by_cases g9:8<x.kind
 ·simp only[ZG,seval,Bool.false_and,Prod.mk.injEq,Kh,g1,g9];exact⟨_,bX rfl (by simp only[E8,seval]<;>rfl) (by first|exact .v _|simp only[dV]),_,rfl⟩
 by_cases g0:e=0
 case neg =>
  simp only[ZG,seval,Bool.false_and,Prod.mk.injEq,Kh,g1,g9,MU,dM,bf g0];exact⟨_,bX rfl (by simp only[E8,seval]<;>rfl) (by first|exact .v _|simp only[dV]),_,rfl⟩
 by_cases k2:x.kind=2
 ·have hy:pI { zP with kind:=x.kind,block:=x.block }:=⟨z.Ga,z.c1,z.c2,z.UQ,h.rb,z.ra,z.rs,z.rt,z.rv⟩
  obtain⟨r2,e2,B,rfl⟩:=UR x { zP with kind:=x.kind,block:=x.block } h hy
  have Qw:=kx e2 (bE hf hy.flat) (.v _)
  have SN:=h.fl
  cases B
  all_goals
   simp only[ZG,seval,Bool.false_and,Prod.mk.injEq,Kh,g1,g9,MU,dM,bt g0,bt k2,Qw,Bf,Bg,Hc,Hd];exact⟨_,bX rfl (by simp only[E8,seval]<;>rfl) (by first|exact .v _|simp only[dV]),_,rfl⟩
 by_cases k3:x.kind=3
 ·have hy:pI { zP with kind:=x.kind,Ga:=x.Ga }:=⟨h.Ga,z.c1,z.c2,z.UQ,z.rb,h.ra,z.rs,z.rt,z.rv⟩
  obtain⟨r2,e2,B,rfl⟩:=UR x { zP with kind:=x.kind,Ga:=x.Ga } h hy
  have Qw:=kx e2 (bE hf hy.flat) (.v _)
  have SN:=h.fl
  cases B
  all_goals
   simp only[ZG,seval,Bool.false_and,Prod.mk.injEq,Kh,g1,g9,MU,dM,bt g0,bf k2,bt k3,Qw,Bf,Bg,Hc,Hd];exact⟨_,bX rfl (by simp only[E8,seval]<;>rfl) (by first|exact .v _|simp only[dV]),_,rfl⟩
 by_cases k4:x.kind=4
 ·have hy:pI { zP with kind:=x.kind,oV:=x.oV }:=⟨z.Ga,h.c1,h.c2,z.UQ,z.rb,z.ra,h.rs,z.rt,z.rv⟩
  obtain⟨r2,e2,B,rfl⟩:=UR x { zP with kind:=x.kind,oV:=x.oV } h hy
  have Qw:=kx e2 (bE hf hy.flat) (.v _)
  have SN:=h.fl
  cases B
  all_goals
   simp only[ZG,seval,Bool.false_and,Prod.mk.injEq,Kh,g1,g9,MU,dM,bt g0,bf k2,bf k3,bt k4,Qw,Bf,Bg,Hc,Hd];exact⟨_,bX rfl (by simp only[E8,seval]<;>rfl) (by first|exact .v _|simp only[dV]),_,rfl⟩
 by_cases k5:x.kind=5
 ·have hy:pI { zP with kind:=x.kind,table:=x.table }:=⟨z.Ga,z.c1,z.c2,h.UQ,z.rb,z.ra,z.rs,h.rt,z.rv⟩
  obtain⟨r2,e2,B,rfl⟩:=UR x { zP with kind:=x.kind,table:=x.table } h hy
  have Qw:=kx e2 (bE hf hy.flat) (.v _)
  have SN:=h.fl
  cases B
  all_goals
   simp only[ZG,seval,Bool.false_and,Prod.mk.injEq,Kh,g1,g9,MU,dM,bt g0,bf k2,bf k3,bf k4,bt k5,Qw,Bf,Bg,Hc,Hd];exact⟨_,bX rfl (by simp only[E8,seval]<;>rfl) (by first|exact .v _|simp only[dV]),_,rfl⟩
 by_cases k6:x.kind=6
 ·have hy:pI { zP with kind:=x.kind,verdict:=x.verdict }:=⟨z.Ga,z.c1,z.c2,z.UQ,z.rb,z.ra,z.rs,z.rt,h.rv⟩
  obtain⟨r2,e2,B,rfl⟩:=UR x { zP with kind:=x.kind,verdict:=x.verdict } h hy
  have Qw:=kx e2 (bE hf hy.flat) (.v _)
  have SN:=h.fl
  cases B
  all_goals
   simp only[ZG,seval,Bool.false_and,Prod.mk.injEq,Kh,g1,g9,MU,dM,bt g0,bf k2,bf k3,bf k4,bf k5,bt k6,Qw,Bf,Bg,Hc,Hd];exact⟨_,bX rfl (by simp only[E8,seval]<;>rfl) (by first|exact .v _|simp only[dV]),_,rfl⟩
 by_cases k8:x.kind=8
 ·have hy:pI { zP with kind:=x.kind,write:=x.write,qO:=x.qO }:=⟨z.Ga,z.c1,z.c2,z.UQ,z.rb,z.ra,z.rs,z.rt,z.rv⟩
  obtain⟨r2,e2,B,rfl⟩:=UR x { zP with kind:=x.kind,write:=x.write,qO:=x.qO } h hy
  have Qw:=kx e2 (bE hf hy.flat) (.v _)
  have SN:=h.fl
  cases B
  all_goals
   simp only[ZG,seval,Bool.false_and,Prod.mk.injEq,Kh,g1,g9,MU,dM,bt g0,bf k2,bf k3,bf k4,bf k5,bf k6,bt k8,Qw,Bf,Bg,Hc,Hd];exact⟨_,bX rfl (by simp only[E8,seval]<;>rfl) (by first|exact .v _|simp only[dV]),_,rfl⟩
 have hy:pI { zP with kind:=x.kind }:=⟨z.Ga,z.c1,z.c2,z.UQ,z.rb,z.ra,z.rs,z.rt,z.rv⟩
 obtain⟨r2,e2,B,rfl⟩:=UR x { zP with kind:=x.kind } h hy
 have Qw:=kx e2 (bE hf hy.flat) (.v _)
 have SN:=h.fl
 cases B
 all_goals
  simp only[ZG,seval,Bool.false_and,Prod.mk.injEq,Kh,g1,g9,MU,dM,bt g0,bf k2,bf k3,bf k4,bf k5,bf k6,bf k8,Qw,Bf,Bg,Hc,Hd];exact⟨_,bX rfl (by simp only[E8,seval]<;>rfl) (by first|exact .v _|simp only[dV]),_,rfl⟩
theorem x45 (n bits:Int) (h0:0<n) (h1:n≤1000):∃r,aB Tryz.prog 45 [.v (.int .i64 n),.v (.int .i64 bits)]=some r∧∃l:List Int,r=.uniq 3 1 l.length (aK l)∧(l.length:Int)≤n:=by
 rw[cL Tryz.func45 rfl aQ3 rfl];simp only[Z8,seval];refine cF (fun m st=>∃k:Nat,(st.env 0=.v (.int .i64 n)∧st.env 1=.v (.int .i64 bits)∧st.env 6=.v (.int .i64 k))∧(st.env 5=.v (.slice none 0 0)∨∃(l:List Int) (g:Nat),(st.env 5=.own 21 g∧st.heap 21 g=some (.row 3 1 l.length (aK l)))∧g<st.aQ 21∧0<l.length∧l.length≤k)∧(k:Int)≤n∧m=(n-k).toNat)
  (fun e st=>e=.exit 0∧st.env 0=.v (.int .i64 n)∧(st.env 5=.v (.slice none 0 0)∨∃(l:List Int) (g:Nat),(st.env 5=.own 21 g∧st.heap 21 g=some (.row 3 1 l.length (aK l)))∧0<l.length∧(l.length:Int)≤n)) n.toNat ?step ?start ?rest
 case step =>
  rintro m st ⟨k,hI,h5,hk,hm⟩
  by_cases bA:(k:Int)<n
  ·have q0:(0:Int)≤k:=by omega
   have hw:IntKind.i64.wrap ((k:Int)+1)=((k+1:Nat):Int):=by rw[mZ _ (by omega) (by omega)];omega
   by_cases hh:IntKind.i64.wrap ((BitVec.ofInt IntKind.i64.bits (bits.fdiv (2 ^ min (IntKind.u64.wrap (k:Int)).toNat IntKind.i64.bits)) &&& BitVec.ofInt IntKind.i64.bits 1).toNat:Int)=1
   ·rcases h5 with h5|⟨l,g,h5,hg,hl0,hl⟩
    ·apply oN ((n-((k+1:Nat):Int)).toNat)
     ·simp only[Z8,seval,hI,h5,bA,q0,xQ,bt hh,hw];rfl
     ·exact⟨k+1,by simp only[E8,seval,hI],.inr ⟨[(k:Int)],_,⟨by simp only[E8,seval]<;>rfl,by simp only[E8,seval]<;>rfl⟩,by simp only[E8,seval]<;>omega,by simp,by simp⟩,by omega,rfl⟩
    ·have uV:(g=st.aQ 21)=False:=eq_false (by omega)
     have nl:(l.length:Int)<1000000:=by omega
     apply oN ((n-((k+1:Nat):Int)).toNat)
     ·simp only[Z8,seval,hI,h5,uV,bA,q0,xQ,bt hh,hw,Em _ _ _ _ nl];rfl
     ·exact⟨k+1,by simp only[E8,seval,hI],.inr ⟨l++[(k:Int)],_,⟨by simp only[E8,seval]<;>rfl,by simp only[E8,seval]<;>rfl⟩,by simp only[E8,seval]<;>omega,by simp,by rw[List.length_append,List.length_cons,List.length_nil];omega⟩,by omega,rfl⟩
   ·have h5':st.env 5=.v (.slice none 0 0)∨∃(l:List Int) (g:Nat),(st.env 5=.own 21 g∧st.heap 21 g=some (.row 3 1 l.length (aK l)))∧g<st.aQ 21∧0<l.length∧l.length≤k+1:=h5.imp id fun ⟨l,g,a,b,c,d⟩=>⟨l,g,a,b,c,by omega⟩
    apply oN ((n-((k+1:Nat):Int)).toNat)
    ·simp only[Z8,seval,hI,bA,q0,xQ,bf hh,hw];rfl
    ·exact⟨k+1,by simp only[E8,seval,hI],by simpa only[E8,seval] using h5',by omega,rfl⟩
  ·have h5':st.env 5=.v (.slice none 0 0)∨∃(l:List Int) (g:Nat),(st.env 5=.own 21 g∧st.heap 21 g=some (.row 3 1 l.length (aK l)))∧0<l.length∧(l.length:Int)≤n:=h5.imp id fun ⟨l,g,a,b,c,d⟩=>⟨l,g,a,c,by omega⟩
   apply oT (.exit 0)
   ·simp only[Z8,seval,hI,bA];rfl
   ·exact⟨rfl,by simp only[E8,seval,hI],by simpa only[E8,seval] using h5'⟩
 case start=>exact⟨0,by simp only[E8,seval]<;>rfl,.inl (by simp only[E8,seval]),by omega,by simp⟩
 case rest =>
  rintro e st ⟨rfl,h0',h5|⟨l,g,h5,hl0,hl⟩⟩
  ·simp only[Z8,seval,h0',h5,h0];exact⟨_,Xk (n:=([0]:List Int).length) (cs:=aK [0]) (aH (by decide)) (.inl rfl) rfl (by simp only[E8,seval]<;>rfl) (by simp only[E8,seval]<;>rfl) (gF _),_,rfl,by simp;omega⟩
  ·have hn0:¬((l.length:Int)=0):=by omega
   simp only[Z8,seval,h0',h5,bf hn0];exact⟨_,tO rfl (by simp only[E8,seval,h5]<;>rfl) (by simp only[E8,seval,h5]<;>rfl) (gF _),l,rfl,hl⟩
theorem k45 (n bits:Int) (h0:0<n) (h1:n≤1000):∃l:List Int,(∀(st:St) (d:Nat),aN (aB Tryz.prog) 45 [.v (.int .i64 n),.v (.int .i64 bits)] st (some d)=some { dst:=some d,val:=.own d (st.aQ d),new:=some (d,[.row 3 1 l.length (aK l)])})∧(l.length:Int)≤n:=by
 obtain⟨r,hr,l,rfl,hl⟩:=x45 n bits h0 h1
 exact⟨l,fun st d=>jF (bE (.v _) (.v _)) hr,hl⟩
theorem x92 {s:aL} {v:SV} {q:Int} (h:GI s v q) (r:RG s v) (i e:Int) (he:Rg e):∃x,aB Tryz.prog 92 [.agg (aA s),.v (.int .i64 i),.v (.int .u64 e)]=some x∧∃c:dP,x=.agg (aY c)∧Rg c.aG:=by
 have S7:=LF v.ns h.up h.sd.nn i (IntKind.u64.wrap (e * s.cFg.kE))
 have hr:=EH h.up (i:=i) (s:=IntKind.u64.wrap (e * s.cFg.kE))
 obtain⟨k,hk⟩:∃k,GC v.ns i (IntKind.u64.wrap (e * s.cFg.kE))=k:=⟨_,rfl⟩
 rw[hk] at S7 hr
 rw[cL Tryz.func92 rfl aQ6 rfl];by_cases g1:k<0
 ·simp only[Z8,seval,h.sd.tree,S7,g1];exact⟨_,fK rfl (by simp only[E8,seval,Bc]<;>rfl) (by simp only[Z8,seval,Bc]<;>rfl) (by simp only[dV,and_self,Bc]),_,rfl,r.f⟩
 ·have k0:0≤k:=by omega
  have k1:k<v.ns.length:=by omega
  simp only[Z8,seval,h.sd.tree,S7,g1,k0,k1];exact⟨_,fK rfl (by simp only[E8,seval,Bc]<;>rfl) (by simp only[Z8,seval,Bc]<;>rfl) (by simp only[dV,and_self,Bc]),_,rfl,he⟩
end Go.Ab.Tryz
