/-
  Part 13 of the proof: an evaluator of programs, its soundness, and what functions of this program compute.
-/
import Derived.Test.YtmcjkemalibacaaGreatK12
import Derived.Test.YtmcjkemalibacaaGreatK9
import Derived.Test.YtmcjkemalibacaaGreatK11
set_option linter.all false
set_option maxRecDepth 20000
set_option maxHeartbeats 40000000
namespace Go.Ab.Tryz
open Classical Go.Proofs Go.Ab
theorem aRd {s:aL} {v:SV} {q:Int} (h:GI s v q):∃x,aB Tryz.prog 223 [.agg (aA s)]=some x∧∃m:List Int,x=.uniq 23 1 m.length (bK m)∧m.length=v.ns.length:=by
 have hf:=h.sd.flat
 have hn:=h.sd.nn
 obtain⟨r1,e1,o,rfl,ho⟩:=aQ2 h.sd
 have k239:=kx e1 (cU hf) (dY o)
 obtain⟨r2,e2,a,c,rfl,_⟩:=aLn o ho
 have F0:=kx e2 (cU (dY o)) (.eG _ (bE (.v _) (.v _)))
 have hcb:Flat s.cFg.iP:=h.sd.fl.1
 obtain⟨r3,e3,a3,c3,rfl⟩:=aQ5 s.cFg hcb a
 have k240:=kx e3 (bE ((yU _).2 hcb) (.v _)) (.eG _ (bE (.v _) (.v _)))
 obtain⟨r4,e4,m1,rfl,hm1⟩:=aRb v.ns hn h.pos s.gK v.L v.Q h.sd.eB h.sd.gW h.sd.nL h.sd.nQ o ho
 have hfv:Flat (.agg (fF s.gK)):=(Oa _).2 ⟨h.sd.fl.2.1,h.sd.fl.2.2.1⟩
 have k241:∀(st:St),aM (aB Tryz.prog) 241 [.agg (cJ ⟨v.ns⟩),.agg (fF s.gK),ov bK o] st (some 28)=_:=fun st=>jF (st:=st) (d:=28) (lM (lX _) hfv (dY o)) e4
 obtain⟨r5,e5,m2,rfl,hm2⟩:=aRa v.ns hn m1 hm1 s.eW a3
 have k243:∀(st:St) (g:Nat),st.heap 28 g=some (.row 23 1 m1.length (bK m1))→aM (aB Tryz.prog) 243 [.agg (cJ ⟨v.ns⟩),.own 28 g,.agg (bF s.eW),.v (.int .u64 a3)] st (some 37)=some { dst:=some 37,val:=.own 37 (st.aT 37),new:=some (37,[.row 23 1 m2.length (bK m2)])}:=by
  intro st g hh;rw[jU,List.map_cons,List.map_cons,List.map_cons,List.map_cons,List.map_nil,Jp,vT,hh,uN,Rr,Lu,bO,bO,bO,bO,fR];exact T9 e5 (ET m2)
 obtain⟨r6,e6,m3,rfl,hm3⟩:=aRc v.ns h.up hn h.pos m2 hm2
 have k242:∀(st:St) (g:Nat),st.heap 37 g=some (.row 23 1 m2.length (bK m2))→aM (aB Tryz.prog) 242 [.agg (cJ ⟨v.ns⟩),.own 37 g] st (some 38)=some { dst:=some 38,val:=.own 38 (st.aT 38),new:=some (38,[.row 23 1 m3.length (bK m3)])}:=by
  intro st g hh;rw[jU,List.map_cons,List.map_cons,List.map_nil,Jp,vT,hh,uN,bO,bO,fR];exact T9 e6 (ET m3)
 rw[cL Tryz.func223 rfl aLW rfl];simp only[Z8,seval,k239,F0,dE,k240,h.sd.tree,k241,k243,k242];exact⟨_,tU rfl (by simp only[E8,seval]<;>rfl) (by simp only[E8,seval]<;>rfl) (iH _),m3,rfl,hm3⟩
noncomputable def CN (s:aL) (v:SV) (i:Int):dP:=if 0≤i∧i<v.ns.length then (if wH s (nd v.ns i).block.slot<wH s s.now then (nd v.ns i).block.cV.pj else (nd v.ns i).block.gD) else fV
theorem aRe {s:aL} {v:SV} (hs:SD s v) (hp:s.cFg.jL≠0) (i:Int):aB Tryz.prog 252 [.agg (aA s),.v (.int .i64 i)]=some (.agg (aW (CN s v i))):=by
 have hf:=hs.flat
 rw[cL Tryz.func252 rfl aLX rfl];refine gX ?_
 by_cases g1:0≤i
 case neg =>
  have hv:CN s v i=fV:=if_neg (fun h=>g1 h.1)
  simp only[Z8,seval,Xw hs,g1,Bool.false_and];exact⟨_,fJ rfl (by simp only[E8,seval]<;>rfl) (by simp only[Z8,seval]<;>rfl) (by simp only[dU,and_self]),by rw[hv]⟩
 by_cases g2:i<(v.ns.length:Int)
 case neg =>
  have hv:CN s v i=fV:=if_neg (fun h=>g2 h.2)
  simp only[Z8,seval,Xw hs,g1,g2,Bool.and_false];exact⟨_,fJ rfl (by simp only[E8,seval]<;>rfl) (by simp only[Z8,seval]<;>rfl) (by simp only[dU,and_self]),by rw[hv]⟩
 by_cases g3:wH s (nd v.ns i).block.slot<wH s s.now
 ·have hv:CN s v i=(nd v.ns i).block.cV.pj:=by unfold CN;rw[if_pos ⟨g1,g2⟩,if_pos g3]
  simp only[Z8,seval,Xw hs,g1,g2,hs.tree,Nf s hp hf,g3];exact⟨_,fJ rfl (by simp only[E8,seval]<;>rfl) (by simp only[Z8,seval]<;>rfl) (by simp only[dU,and_self]),by rw[hv]⟩
 ·have hv:CN s v i=(nd v.ns i).block.gD:=by unfold CN;rw[if_pos ⟨g1,g2⟩,if_neg g3]
  simp only[Z8,seval,Xw hs,g1,g2,hs.tree,Nf s hp hf,g3];exact⟨_,fJ rfl (by simp only[E8,seval]<;>rfl) (by simp only[Z8,seval]<;>rfl) (by simp only[dU,and_self]),by rw[hv]⟩
theorem aCT {s:aL} {v:SV} (hs:SD s v) (hp:s.cFg.jL≠0) (i:Int) (st:St) (d:Option Nat):aM (aB Tryz.prog) 252 [.agg (aA s),.v (.int .i64 i)] st d=some { dst:=d,val:=.agg (aW (CN s v i))}:=bC (bE hs.flat (.v _)) (aRe hs hp i) (.agg _ (bM _))
theorem aLY {s:aL} {v:SV} (hs:SD s v) (hp:s.cFg.jL≠0) (i:Int):∃r,aB Tryz.prog 249 [.agg (aA s),.v (.int .i64 i)]=some r∧∃b:Bool,r=.v (.bool b):=by
 have hf:=hs.flat
 rw[cL Tryz.func249 rfl aLZ rfl];by_cases g1:0≤i
 case neg =>
  simp only[Z8,seval,Xw hs,g1,Bool.false_and];exact⟨_,bQ rfl (by simp only[E8,seval]<;>rfl) (by first|exact .v _|simp only[dU]),_,rfl⟩
 by_cases g2:i<(v.ns.length:Int)
 case neg =>
  simp only[Z8,seval,Xw hs,g1,g2,Bool.and_false];exact⟨_,bQ rfl (by simp only[E8,seval]<;>rfl) (by first|exact .v _|simp only[dU]),_,rfl⟩
 by_cases g3:(nd v.ns i).status=2
 ·simp only[Z8,seval,Xw hs,g1,g2,hs.tree,bt g3];exact⟨_,bQ rfl (by simp only[E8,seval]<;>rfl) (by first|exact .v _|simp only[dU]),_,rfl⟩
 by_cases g4:s.aU.gD.aE=0
 ·simp only[Z8,seval,Xw hs,g1,g2,hs.tree,bf g3,aCT hs hp,bt g4];exact⟨_,bQ rfl (by simp only[E8,seval]<;>rfl) (by first|exact .v _|simp only[dU]),_,rfl⟩
 by_cases g5:(CN s v i).aE=s.aU.gD.aE
 ·simp only[Z8,seval,Xw hs,g1,g2,hs.tree,bf g3,aCT hs hp,bf g4,bt g5];exact⟨_,bQ rfl (by simp only[E8,seval]<;>rfl) (by first|exact .v _|simp only[dU]),_,rfl⟩
 by_cases g6:wH s s.now≤(CN s v i).aE
 ·simp only[Z8,seval,Xw hs,g1,g2,hs.tree,bf g3,aCT hs hp,bf g4,bf g5,Nf s hp hf,g6];exact⟨_,bQ rfl (by simp only[E8,seval]<;>rfl) (by first|exact .v _|simp only[dU]),_,rfl⟩
 ·simp only[Z8,seval,Xw hs,g1,g2,hs.tree,bf g3,aCT hs hp,bf g4,bf g5,Nf s hp hf,g6];exact⟨_,bQ rfl (by simp only[E8,seval]<;>rfl) (by first|exact .v _|simp only[dU]),_,rfl⟩
theorem aGU (ns:List Node) (i x:Int):∀k:Nat,x∈Ts ns i k→(0≤x∧x<k)∧(nd ns x).up=i:=by
 intro k;induction k with
 | zero=>intro h;simp[Ts] at h
 | succ k ih =>
   intro h;unfold Ts at h;split at h
   ·rename_i hc;rcases List.mem_append.1 h with h|h
    ·have:=ih h;omega
    ·have hx:=List.mem_singleton.1 h
     subst hx;exact⟨by omega,hc⟩
   ·have:=ih h;omega
theorem HR {ns:List Node} (hu:gL ns) (hr:(nd ns 0).up=-1) {i x:Int} (h:x∈wR ns i):i<x∧0≤x∧x<ns.length:=by
 unfold wR at h;split at h
 ·simp at h
 ·rename_i hi;obtain⟨⟨x0,x1⟩,Lm⟩:=aGU ns i x _ h
  by_cases hx:x=0
  ·subst hx;rw[hr] at Lm;omega
  ·have:=(hu x (by omega) x1).2;omega
theorem aL0 {s:aL} {v:SV} (hs:SD s v) (hu:gL v.ns) (hr:(nd v.ns 0).up=-1) (hp:s.cFg.jL≠0):∀(n:Nat) (i:Int),((v.ns.length:Int)-i).toNat≤n→∃b:Bool,aB Tryz.prog 244 [.agg (aA s),.v (.int .i64 i)]=some (.v (.bool b)):=by
 have base:∀(i:Int),wR v.ns i=[]→∃b:Bool,aB Tryz.prog 244 [.agg (aA s),.v (.int .i64 i)]=some (.v (.bool b)):=by
  intro i hc;obtain⟨r,hr9,b,rfl⟩:=aLY hs hp i
  have U0:=kx hr9 (bE hs.flat (.v _)) (.v _)
  have kc:=fun st d=>aFh v.ns hu hr hs.nn i hc st d
  suffices h:∃r,aB Tryz.prog 244 [.agg (aA s),.v (.int .i64 i)]=some r∧∃b:Bool,r=.v (.bool b) by
   obtain⟨r,h,b,rfl⟩:=h;exact⟨b,h⟩
  rw[cL Tryz.func244 rfl aFw rfl];cases b
  ·simp only[Z8,seval,U0,hs.tree,kc];refine cC (fun m st=>st.env 5=.v (.slice none 0 0)∧st.env 6=.v (.int .i64 0)∧m=0) (fun e st=>e=.exit 0) 0 ?step ?start ?rest
   case step =>
    rintro m st ⟨h5,h6,_⟩
    apply oT (.exit 0)
    ·simp only[Z8,seval,h5,h6,Int.lt_irrefl];rfl
    ·exact rfl
   case start=>exact⟨by simp only[E8,seval]<;>rfl,by simp only[E8,seval]<;>rfl,rfl⟩
   case rest =>
    rintro e st rfl
    simp only[Z8,seval];exact⟨_,bQ rfl (by simp only[E8,seval]<;>rfl) (by first|exact .v _|simp only[dU]),_,rfl⟩
  ·simp only[Z8,seval,U0];exact⟨_,bQ rfl (by simp only[E8,seval]<;>rfl) (by first|exact .v _|simp only[dU]),_,rfl⟩
 intro n;induction n with
 | zero =>
   intro i hi;exact base i (ML hu hr (by omega))
 | succ n ih =>
   intro i hi;by_cases hc:wR v.ns i=[]
   ·exact base i hc
   obtain⟨r,hr9,b,rfl⟩:=aLY hs hp i
   have U0:=kx hr9 (bE hs.flat (.v _)) (.v _)
   have kc:=fun st d=>aKQ v.ns hu hr hs.nn i hc st d
   have hB:∀x:Int,∃b:Bool,x∈wR v.ns i→aB Tryz.prog 244 [.agg (aA s),.v (.int .i64 x)]=some (.v (.bool b)):=by
    intro x;by_cases hx:x∈wR v.ns i
    ·have:=HR hu hr hx
     obtain⟨b,hb⟩:=ih x (by omega)
     exact⟨b,fun _=>hb⟩
    ·exact⟨false,fun h=>absurd h hx⟩
   obtain⟨B,hB⟩:∃B:Int→Bool,∀x,x∈wR v.ns i→aB Tryz.prog 244 [.agg (aA s),.v (.int .i64 x)]=some (.v (.bool (B x))):=⟨fun x=>Classical.choose (hB x),fun x=>Classical.choose_spec (hB x)⟩
   have hgt:∀x∈wR v.ns i,i<x∧0≤x∧x<v.ns.length:=fun x hx=>HR hu hr hx
   have hin:((wR v.ns i).length:Int)<1000000:=by
    have h1:(wR v.ns i).length≤v.ns.length:=by
     unfold wR;split
     ·simp
     ·exact Vy v.ns i v.ns.length
    have:=hs.nn;omega
   obtain⟨l,el⟩:∃l,wR v.ns i=l:=⟨_,rfl⟩
   rw[el] at kc hB hin;suffices h:∃r,aB Tryz.prog 244 [.agg (aA s),.v (.int .i64 i)]=some r∧∃b:Bool,r=.v (.bool b) by
    obtain⟨r,h,b,rfl⟩:=h;exact⟨b,h⟩
   rw[cL Tryz.func244 rfl aFw rfl];cases b
   case true =>
    simp only[Z8,seval,U0];exact⟨_,bQ rfl (by simp only[E8,seval]<;>rfl) (by first|exact .v _|simp only[dU]),_,rfl⟩
   simp only[Z8,seval,U0,hs.tree,kc];refine cC (fun m st=>∃k:Nat,(st.env 2=.ptr 2 0 0∧st.heap 2 0=some (.cells (aA s))∧st.env 5=.own 13 0∧st.heap 13 0=some (.row 3 1 l.length (aK l))∧st.env 6=.v (.int .i64 k))∧(∀j:Nat,j<k→¬(B (it l (j:Int))=true))∧k≤l.length∧m=l.length-k)
    (fun e st=>(e=.ret∧∃k:Nat,k<l.length∧(B (it l (k:Int))=true)∧(∀j:Nat,j<k→¬(B (it l (j:Int))=true))∧st.env 4=.v (.bool true))∨(e=.exit 0∧(∀j:Nat,j<l.length→¬(B (it l (j:Int))=true))∧st.env 2=.ptr 2 0 0∧st.heap 2 0=some (.cells (aA s))∧st.env 5=.own 13 0∧st.heap 13 0=some (.row 3 1 l.length (aK l)))) (l.length) ?step ?start ?rest
   case step =>
    rintro m st ⟨k,hI,hj,hk,hm⟩
    by_cases aY:(k:Int)<l.length
    ·have q0:(0:Int)≤k:=by omega
     have hw:IntKind.i64.wrap ((k:Int)+1)=((k+1:Nat):Int):=by rw[mT _ (by omega) (by omega)];omega
     have gi:=nX q0 aY
     have hm2:it l (k:Int)∈l:=by obtain⟨h1,h2⟩:=xP q0 aY;rw[h2];exact List.getElem_mem h1
     have kb:=kx (hB _ hm2) (bE hs.flat (.v _)) (.v _)
     by_cases hh:B (it l (k:Int))=true
     ·apply oT (.ret)
      ·simp only[Z8,seval,hI,aY,q0,kb,gi,hh];rfl
      ·exact .inl ⟨rfl,k,by omega,hh,hj,by simp only[E8,seval,kb,gi]⟩
     ·have hn:B (it l (k:Int))=false:=by simpa using hh
      apply oN (l.length-(k+1))
      ·simp only[Z8,seval,hI,aY,q0,kb,gi,hn,hw];rfl
      ·exact⟨k+1,by simp only[E8,seval,hI],fun j h=>(Nat.lt_succ_iff_lt_or_eq.1 h).elim (hj j) fun e=>by subst e;exact hh,by omega,rfl⟩
    ·apply oT (.exit 0)
     ·simp only[Z8,seval,hI,aY,aY];rfl
     ·exact .inr ⟨rfl,fun j h=>hj j (by omega),by simp only[E8,seval,hI]⟩
   case start=>exact⟨0,by simp only[E8,seval]<;>rfl,fun j h=>by omega,by omega,by omega⟩
   case rest =>
    rintro e st (⟨rfl,k,hk,hh,hj,h⟩|⟨rfl,hj,hI⟩)
    ·simp only[Z8,seval];exact⟨_,bQ rfl (by simp only[E8,seval,h]<;>rfl) (by first|exact .v _|simp only[dU,h]),_,rfl⟩
    ·simp only[Z8,seval];exact⟨_,bQ rfl (by simp only[E8,seval]<;>rfl) (by first|exact .v _|simp only[dU]),_,rfl⟩
theorem aRh {s:aL} {v:SV} {q:Int} (h:GI s v q):∃x,aB Tryz.prog 224 [.agg (aA s)]=some x∧∃m:List Bool,x=.uniq 4 1 m.length (mW m)∧m.length=v.ns.length:=by
 have hn:=h.sd.nn
 have h0:=h.pos
 obtain⟨B,hB⟩:∃B:Int→Bool,∀x,aB Tryz.prog 244 [.agg (aA s),.v (.int .i64 x)]=some (.v (.bool (B x))):=⟨fun x=>Classical.choose (aL0 h.sd h.up h.Xi h.sp _ x (Nat.le_refl _)),fun x=>Classical.choose_spec (aL0 h.sd h.up h.Xi h.sp _ x (Nat.le_refl _))⟩
 have kb:∀(x:Int) (st:St) (d:Option Nat),aM (aB Tryz.prog) 244 [.agg (aA s),.v (.int .i64 x)] st d=some { dst:=d,val:=.v (.bool (B x))}:=fun x=>kx (hB x) (bE h.sd.flat (.v _)) (.v _)
 rw[cL Tryz.func224 rfl aL1 rfl];simp only[Z8,seval];refine cC (fun m st=>∃k:Nat,(st.env 1=.ptr 1 0 0∧st.heap 1 0=some (.cells (aA s))∧st.env 4=.v (.int .i64 k))∧((k=0∧st.env 3=.v (.slice none 0 0))∨∃(l:List Bool) (g:Nat),st.env 3=.own 18 g∧g<st.aT 18∧st.heap 18 g=some (.row 4 1 l.length (mW l))∧l.length=k)∧k≤v.ns.length∧m=v.ns.length-k)
  (fun e st=>e=.exit 0∧∃(l:List Bool) (g:Nat),st.env 3=.own 18 g∧st.heap 18 g=some (.row 4 1 l.length (mW l))∧l.length=v.ns.length) v.ns.length ?step ?start ?rest
 case step =>
  rintro m st ⟨k,hI,h5,hk,hm⟩
  by_cases aY:(k:Int)<v.ns.length
  ·have q0:(0:Int)≤k:=by omega
   have hw:IntKind.i64.wrap ((k:Int)+1)=((k+1:Nat):Int):=by rw[mT _ (by omega) (by omega)];omega
   rcases h5 with ⟨qC,h5⟩|⟨l',g,h5,hg,As,Gx⟩
   ·apply oN (v.ns.length-(k+1))
    ·simp only[Z8,seval,hI,h5,aY,q0,h.sd.tree,kb,hw];rfl
    ·exact⟨k+1,by simp only[E8,seval,hI],.inr ⟨[B k],st.aT 18,by simp only[E8,seval]<;>rfl,by simp only[E8,seval]<;>omega,by simp only[E8,seval]<;>rfl,by simp;omega⟩,by omega,rfl⟩
   ·have nl:(l'.length:Int)<1000000:=by omega
    apply oN (v.ns.length-(k+1))
    ·simp only[Z8,seval,hI,h5,As,aY,q0,h.sd.tree,kb,hw,NJ _ _ _ _ nl];rfl
    ·exact⟨k+1,by simp only[E8,seval,hI],.inr ⟨l'++[B k],st.aT 18,by simp only[E8,seval]<;>rfl,by simp only[E8,seval]<;>omega,by simp only[E8,seval]<;>rfl,by rw[List.length_append];simp;omega⟩,by omega,rfl⟩
  ·have Aq:k=v.ns.length:=by omega
   rcases h5 with ⟨qC,h5⟩|⟨l,g,h5,hg,As,hl⟩
   ·omega
   ·apply oT (.exit 0)
    ·simp only[Z8,seval,hI,aY,h.sd.tree];rfl
    ·exact⟨rfl,l,g,by simp only[E8,seval,h5],by simp only[E8,seval,As],by omega⟩
 case start=>exact⟨0,by simp only[E8,seval]<;>rfl,.inl ⟨rfl,by simp only[E8,seval]⟩,by omega,by omega⟩
 case rest =>
  rintro e st ⟨rfl,l,g,h5,As,hl⟩
  simp only[Z8,seval,h5];exact⟨_,tU rfl (by simp only[E8,seval,h5]<;>rfl) (by simp only[E8,seval,As]<;>rfl) (Tv _),l,rfl,hl⟩
theorem vU {x:AV} (h:Flat x):jE x=[]:=by
 have one:∀c,Flat c→iB c=[]:=fun c hc=>by cases hc<;>rfl
 cases h with
 | agg cs h =>
   simp only[jE];rw[List.flatMap_eq_nil_iff];exact fun c hc=>one c (h c hc)
 | _=>rfl
theorem VD {args:List AV} (h:∀x∈args,Flat x):args.flatMap jE=[]:=List.flatMap_eq_nil_iff.2 fun x hx=>vU (h x hx)
theorem NK {call:Nat→List AV→Option AV} {g:Nat} {args:List AV} {st:St} {d:Option Nat} (h:∀x∈args,Flat x):fG call g args st d=aM call g args st d:=by
 unfold fG;rw[VD h]
theorem Hs {call:Nat→List AV→Option AV} {g:Nat} {args:List AV} {r:AV} {st:St} {d:Option Nat} (hf:∀x∈args,Flat x) (h:call g args=some r) (hr:Flat r):fG call g args st d=some { dst:=d,val:=r }:=by
 rw[NK hf];exact bC hf h hr
noncomputable def Lw (call:Nat→List AV→Option AV) (g:Nat) (xs:Option (List AV)) (s k:Nat) (st:St) (d:Option Nat):Option rX :=
 cT xs fun xs=>cT (call g xs) fun r=>Em r st d s k
theorem Ol {call:Nat→List AV→Option AV} {g:Nat} {args:List AV} {st:St} {d:Option Nat} {s k:Nat} (hk:args.flatMap jE=[(s,k)]) (he:∀x∈args,ZH x):fG call g args st d=Lw call g (cP (args.map (fO st))) s k st d:=by
 unfold fG Lw;rw[hk];simp only
 rw[if_pos he];cases cP (args.map (fO st))<;>rfl
theorem NL {call:Nat→List AV→Option AV} {g:Nat} {xs:List AV} {r:AV} {s k:Nat} {st:St} {d:Option Nat} (h:call g xs=some r) (hr:Flat r):Lw call g (some xs) s k st d=some { dst:=d,val:=r,dS:=some (s,k,none)}:=by
 unfold Lw Em;simp only[cO,h,if_pos hr]
theorem aCU {call:Nat→List AV→Option AV} {g:Nat} {xs:List AV} {e sz n:Nat} {cs:List AV} {s k:Nat} {st:St} {d:Nat} (h:call g xs=some (.uniq e sz n cs)) (hm:∀c∈cs,iE c):Lw call g (some xs) s k st (some d)=some { dst:=some d,val:=.own d (st.aT d),dS:=some (s,k,none),new:=some (d,[.row e sz n cs])}:=by
 have hnf:¬Flat (.uniq e sz n cs):=by intro h;cases h
 unfold Lw Em;simp only[cO,h,if_neg hnf,if_pos hm]
theorem U1 {call:Nat→List AV→Option AV} {g:Nat} {args:List AV} {e sz n:Nat} {cs:List AV} {st:St} {d:Nat} (hf:∀x∈args,Flat x) (h:call g args=some (.uniq e sz n cs)):fG call g args st (some d)=some { dst:=some d,val:=.own d (st.aT d),new:=some (d,[.row e sz n cs])}:=by
 have hnf:¬Flat (.uniq e sz n cs):=by intro h;cases h
 rw[NK hf];unfold aM;rw[if_pos hf,h];simp only[cO];unfold jC;rw[if_neg hnf];rfl
theorem Rs {st:St} {a g:Nat} {L:List Int} (hh:st.heap a g=some (.row 3 1 L.length (aK L))):fO st (.own a g)=some (ov aK (some L)):=by
 rw[vT,hh];exact kA L.length L
theorem aL2 (o:Option (List Int)) (hn:((ol o).length:Int)<999999) (x:Int) :
 ((∀(st:St) (d:Nat),fG (aB Tryz.prog) 235 [ov aK o,.v (.int .i64 x)] st (some d)=some { dst:=some d,val:=ov aK o }) ∧
  ∀(st:St) (d a g:Nat) (L:List Int),o=some L→st.heap a g=some (.row 3 1 L.length (aK L))→fG (aB Tryz.prog) 235 [.own a g,.v (.int .i64 x)] st (some d)=some { dst:=some d,val:=ov aK (some L),dS:=some (a,g,none)}) ∨
 ∃M:List Int,M.length=(ol o).length+1∧(∀(st:St) (d:Nat),fG (aB Tryz.prog) 235 [ov aK o,.v (.int .i64 x)] st (some d)=some { dst:=some d,val:=.own d (st.aT d),new:=some (d,[.row 3 1 M.length (aK M)])}) ∧
  ∀(st:St) (d a g:Nat) (L:List Int),o=some L→st.heap a g=some (.row 3 1 L.length (aK L))→fG (aB Tryz.prog) 235 [.own a g,.v (.int .i64 x)] st (some d)=some { dst:=some d,val:=.own d (st.aT d),dS:=some (a,g,none),new:=some (d,[.row 3 1 M.length (aK M)])}:=by
 have one:∀(st:St) (d a g:Nat) (L:List Int),o=some L→st.heap a g=some (.row 3 1 L.length (aK L))→fG (aB Tryz.prog) 235 [.own a g,.v (.int .i64 x)] st (some d)=Lw (aB Tryz.prog) 235 (some [ov aK o,.v (.int .i64 x)]) a g st (some d):=by
  rintro st d a g L rfl hh
  rw[Ol (s:=a) (k:=g) rfl (by intro y hy;simp only[List.mem_cons,List.not_mem_nil,or_false] at hy;rcases hy with rfl|rfl;exact .inr (.inl ⟨a,g,rfl⟩);exact .inl (.v _)),
   List.map_cons,List.map_cons,List.map_nil,Rs hh,Lu,bO,bO,fR]
  rfl
 obtain⟨r,hr,h⟩:=aQ7 o hn x
 rcases h with rfl|⟨M,rfl,hM⟩
 ·refine .inl ⟨fun st d=>Hs (bE (bX o) (.v _)) hr (bX o),fun st d a g L ho hh=>?_⟩
  rw[one st d a g L ho hh];subst ho;exact NL hr (bX _)
 ·refine .inr ⟨M,hM,fun st d=>U1 (bE (bX o) (.v _)) hr,fun st d a g L ho hh=>?_⟩
  rw[one st d a g L ho hh];exact aCU hr (F7 M)
theorem aL3 (x:fY) (V W:Option (List Int)) (hV:x.first.eZ=ov aK V) (hW:x.second.eZ=ov aK W) (nV:((ol V).length:Int)<99999) (nW:((ol W).length:Int)<99999) :
 ∃r,aB Tryz.prog 221 [.agg (cD x)]=some r∧∃o:Option (List Int),((ol o).length:Int)≤(ol V).length∧(r=ov aK o∨∃L,o=some L∧r=.uniq 3 1 L.length (aK L)):=by
 have f1:Flat x.first.eZ:=by rw[hV];exact bX V
 have f2:Flat x.second.eZ:=by rw[hW];exact bX W
 rw[cL Tryz.func221 rfl aL4 rfl];simp only[Z8,seval];refine cC (fun m st=>∃k:Nat,(st.env 1=.ptr 1 0 0∧st.heap 1 0=some (.cells (cD x))∧st.env 4=.v (.int .i64 k))∧(∃o:Option (List Int),(ol o).length≤k∧(st.env 3=ov aK o∨∃g L,o=some L∧st.env 3=.own 30 g∧g<st.aT 30∧st.heap 30 g=some (.row 3 1 L.length (aK L))))∧k≤(ol V).length∧m=(ol V).length-k)
  (fun e st=>e=.exit 0∧∃o:Option (List Int),(ol o).length≤(ol V).length∧(st.env 3=ov aK o∨∃g L,o=some L∧st.env 3=.own 30 g∧st.heap 30 g=some (.row 3 1 L.length (aK L)))) (ol V).length ?step ?start ?rest
 case step =>
  rintro m st ⟨k,hI,⟨o,ho,h3⟩,hk,hm⟩
  by_cases aY:(k:Int)<(ol V).length
  ·have q0:(0:Int)≤k:=by omega
   have hw:IntKind.i64.wrap ((k:Int)+1)=((k+1:Nat):Int):=by rw[mT _ (by omega) (by omega)];omega
   have U2:=aGS W (by omega) (gx (0:Int) (ol V) (k:Int))
   by_cases h1:gx (0:Int) (ol V) (k:Int)∈ol W
   ·have ER:=eq_true h1
    rcases aL2 o (by omega) (gx (0:Int) (ol V) (k:Int)) with ⟨ea,eb⟩|⟨M,hM,ea,eb⟩
    ·rcases h3 with h3|⟨g,L,hL,h3,hg,hh⟩
     ·apply oN ((ol V).length-(k+1))
      ·simp only[Z8,seval,hI,h3,aY,q0,hV,hW,U2,ER,ea,hw];rfl
      ·exact⟨k+1,by simp only[E8,seval,hI],⟨o,by omega,.inl (by simp only[E8,seval])⟩,by omega,rfl⟩
     ·have U3:=fun st d a g=>eb st d a g L hL
      have ho':(ol (some L)).length≤k:=by rw[← hL];exact ho
      apply oN ((ol V).length-(k+1))
      ·simp only[Z8,seval,hI,h3,hh,aY,q0,hV,hW,U2,ER,U3,hw];rfl
      ·exact⟨k+1,by simp only[E8,seval,hI],⟨some L,by omega,.inl (by simp only[E8,seval])⟩,by omega,rfl⟩
    ·rcases h3 with h3|⟨g,L,hL,h3,hg,hh⟩
     ·apply oN ((ol V).length-(k+1))
      ·simp only[Z8,seval,hI,h3,aY,q0,hV,hW,U2,ER,ea,hw];rfl
      ·exact⟨k+1,by simp only[E8,seval,hI],⟨some M,by show M.length≤_;omega,.inr ⟨_,M,rfl,by simp only[E8,seval]<;>rfl,by simp only[E8,seval]<;>omega,by simp only[E8,seval]<;>rfl⟩⟩,by omega,rfl⟩
     ·have U3:=fun st d a g=>eb st d a g L hL
      have vC:(g=st.aT 30)=False:=eq_false (by omega)
      apply oN ((ol V).length-(k+1))
      ·simp only[Z8,seval,hI,h3,hh,vC,aY,q0,hV,hW,U2,ER,U3,hw];rfl
      ·exact⟨k+1,by simp only[E8,seval,hI],⟨some M,by show M.length≤_;omega,.inr ⟨_,M,rfl,by simp only[E8,seval]<;>rfl,by simp only[E8,seval]<;>omega,by simp only[E8,seval]<;>rfl⟩⟩,by omega,rfl⟩
   ·have ER:=eq_false h1
    have h3':st.env 3=ov aK o∨∃g L,o=some L∧st.env 3=.own 30 g∧g<st.aT 30∧st.heap 30 g=some (.row 3 1 L.length (aK L)):=h3
    apply oN ((ol V).length-(k+1))
    ·simp only[Z8,seval,hI,aY,q0,hV,hW,U2,ER,hw];rfl
    ·exact⟨k+1,by simp only[E8,seval,hI],⟨o,by omega,by simpa only[E8,seval] using h3'⟩,by omega,rfl⟩
  ·have h3':st.env 3=ov aK o∨∃g L,o=some L∧st.env 3=.own 30 g∧st.heap 30 g=some (.row 3 1 L.length (aK L)):=h3.imp id fun ⟨g,L,a,b,_,c⟩=>⟨g,L,a,b,c⟩
   apply oT (.exit 0)
   ·simp only[Z8,seval,hI,aY,hV];rfl
   ·exact⟨rfl,o,by omega,by simpa only[E8,seval] using h3'⟩
 case start=>exact⟨0,by simp only[E8,seval]<;>rfl,⟨none,by simp[ol],.inl (by simp only[E8,seval]<;>rfl)⟩,by omega,by omega⟩
 case rest =>
  rintro e st ⟨rfl,o,ho,h3⟩
  rcases h3 with h3|⟨g,L,hL,h3,hh⟩
  ·simp only[Z8,seval,h3];exact⟨_,bQ rfl (by simp only[E8,seval,h3]<;>rfl) (bX o),o,by omega,.inl rfl⟩
  ·simp only[Z8,seval,h3];exact⟨_,tU rfl (by simp only[E8,seval,h3]<;>rfl) (by simp only[E8,seval,hh]<;>rfl) (gI _),o,by omega,.inr ⟨L,hL,rfl⟩⟩
theorem aL5 {o:Option (List Int)} {L:List Int} (h:(ol o).length≤L.length):IntKind.i64.wrap ((L.length:Int)-((ol o).length:Int))≠0→L≠[]:=by
 rintro hn rfl
 have h0:(ol o).length=0:=by simpa using h
 rw[h0] at hn;exact hn (by decide)
theorem aRi (o V:Option (List Int)) (no:((ol o).length:Int)<900000) (nV:((ol V).length:Int)<99999) :
 ∃r,aB Tryz.prog 220 [ov aK o,ov aK V]=some r∧∃(L:List Int) (n:Int),r=.eG [ov aK (some L),.v (.int .i64 n)]∧L.length≤(ol o).length+(ol V).length∧(n≠0→L≠[]):=by
 rw[cL Tryz.func220 rfl aL6 (by cases o<;>cases V<;>rfl)]
 have no':((ol o).length:Int)<1000000:=by omega
 simp only[Z8,seval,Ok _ no'];refine cC (fun m st=>∃k:Nat,(st.env 0=ov aK o∧st.env 1=ov aK V∧st.env 7=.v (.int .i64 k))∧(∃L:List Int,((ol o).length≤L.length∧L.length≤(ol o).length+k)∧(st.env 6=ov aK (some L)∨(∃g,st.env 6=.own 21 g∧g<st.aT 21∧st.heap 21 g=some (.row 3 1 L.length (aK L)))∨(st.env 6=.own 9 0∧st.heap 9 0=some (.row 3 1 L.length (aK L)))))∧k≤(ol V).length∧m=(ol V).length-k)
  (fun e st=>e=.exit 0∧(st.env 0=ov aK o)∧∃L:List Int,((ol o).length≤L.length∧L.length≤(ol o).length+(ol V).length)∧(st.env 6=ov aK (some L)∨∃a g,st.env 6=.own a g∧st.heap a g=some (.row 3 1 L.length (aK L)))) (ol V).length ?step ?start ?rest
 case step =>
  rintro m st ⟨k,hI,⟨L,hL,h3⟩,hk,hm⟩
  by_cases aY:(k:Int)<(ol V).length
  ·have q0:(0:Int)≤k:=by omega
   have hw:IntKind.i64.wrap ((k:Int)+1)=((k+1:Nat):Int):=by rw[mT _ (by omega) (by omega)];omega
   rcases aL2 (some L) (by show (L.length:Int)<_;omega) (gx (0:Int) (ol V) (k:Int)) with ⟨ea,eb⟩|⟨M,hM,ea,eb⟩
   ·rcases h3 with h3|⟨g,h3,hg,hh⟩|⟨h3,hh⟩
    ·apply oN ((ol V).length-(k+1))
     ·simp only[Z8,seval,hI,h3,aY,q0,ea,hw];rfl
     ·exact⟨k+1,by simp only[E8,seval,hI],⟨L,by omega,.inl (by simp only[E8,seval])⟩,by omega,rfl⟩
    ·have U3:=fun st d a g=>eb st d a g L rfl
     apply oN ((ol V).length-(k+1))
     ·simp only[Z8,seval,hI,h3,hh,aY,q0,U3,hw];rfl
     ·exact⟨k+1,by simp only[E8,seval,hI],⟨L,by omega,.inl (by simp only[E8,seval])⟩,by omega,rfl⟩
    ·have U3:=fun st d a g=>eb st d a g L rfl
     apply oN ((ol V).length-(k+1))
     ·simp only[Z8,seval,hI,h3,hh,aY,q0,U3,hw];rfl
     ·exact⟨k+1,by simp only[E8,seval,hI],⟨L,by omega,.inl (by simp only[E8,seval])⟩,by omega,rfl⟩
   ·have hM':M.length=L.length+1:=hM
    rcases h3 with h3|⟨g,h3,hg,hh⟩|⟨h3,hh⟩
    ·apply oN ((ol V).length-(k+1))
     ·simp only[Z8,seval,hI,h3,aY,q0,ea,hw];rfl
     ·exact⟨k+1,by simp only[E8,seval,hI],⟨M,by omega,.inr (.inl ⟨_,by simp only[E8,seval]<;>rfl,by simp only[E8,seval]<;>omega,by simp only[E8,seval]<;>rfl⟩)⟩,by omega,rfl⟩
    ·have U3:=fun st d a g=>eb st d a g L rfl
     have vC:(g=st.aT 21)=False:=eq_false (by omega)
     apply oN ((ol V).length-(k+1))
     ·simp only[Z8,seval,hI,h3,hh,vC,aY,q0,U3,hw];rfl
     ·exact⟨k+1,by simp only[E8,seval,hI],⟨M,by omega,.inr (.inl ⟨_,by simp only[E8,seval]<;>rfl,by simp only[E8,seval]<;>omega,by simp only[E8,seval]<;>rfl⟩)⟩,by omega,rfl⟩
    ·have U3:=fun st d a g=>eb st d a g L rfl
     apply oN ((ol V).length-(k+1))
     ·simp only[Z8,seval,hI,h3,hh,aY,q0,U3,hw];rfl
     ·exact⟨k+1,by simp only[E8,seval,hI],⟨M,by omega,.inr (.inl ⟨_,by simp only[E8,seval]<;>rfl,by simp only[E8,seval]<;>omega,by simp only[E8,seval]<;>rfl⟩)⟩,by omega,rfl⟩
  ·have h3':st.env 6=ov aK (some L)∨∃a g,st.env 6=.own a g∧st.heap a g=some (.row 3 1 L.length (aK L)):=by
    rcases h3 with h3|⟨g,h3,hg,hh⟩|⟨h3,hh⟩
    ·exact .inl h3
    ·exact .inr ⟨21,g,h3,hh⟩
    ·exact .inr ⟨9,0,h3,hh⟩
   apply oT (.exit 0)
   ·simp only[Z8,seval,hI,aY];rfl
   ·exact⟨rfl,by simp only[E8,seval,hI],L,by omega,by simpa only[E8,seval] using h3'⟩
 case start=>exact⟨0,by simp only[E8,seval]<;>rfl,⟨ol o,by omega,.inr (.inr ⟨by simp only[E8,seval],by simp only[E8,seval]⟩)⟩,by omega,by omega⟩
 case rest =>
  rintro e st ⟨rfl,h0,L,hL,h3⟩
  rcases h3 with h3|⟨a,g,h3,hh⟩
  ·simp only[Z8,seval,h3,h0];exact⟨_,dN rfl rfl rfl (by simp only[E8,seval,h3,Fa]<;>rfl) (by simp only[E8,seval,h3,Fa]<;>rfl),L,_,rfl,hL.2,aL5 hL.1⟩
  ·simp only[Z8,seval,h3,hh,h0];exact⟨_,dN rfl rfl rfl (by simp only[E8,seval,h3,hh,kA]<;>rfl) (by simp only[E8,seval,h3,hh,kA]<;>rfl),L,_,rfl,hL.2,aL5 hL.1⟩
theorem aRj (x:fY) (V W:Option (List Int)) (hV:x.first.eZ=ov aK V) (hW:x.second.eZ=ov aK W) (nV:((ol V).length:Int)<99999) (nW:((ol W).length:Int)<99999) (n:Int) :
 ∃r,aB Tryz.prog 219 [.agg (cD x),.v (.int .i64 n)]=some r∧∃e:Int,r=.v (.int .i64 e)∧e≠21:=by
 have f1:Flat x.first.eZ:=by rw[hV];exact bX V
 have f2:Flat x.second.eZ:=by rw[hW];exact bX W
 have fx:Flat (.agg (cD x)):=(nC x).2 ⟨f1,f2⟩
 have kV:=kx (c40 V (by omega) n) (bE (bX V) (.v _)) (.v _)
 have kW:=kx (c40 W (by omega) n) (bE (bX W) (.v _)) (.v _)
 obtain⟨ev,CA⟩:∃e,BY (ol V) n=e:=⟨_,rfl⟩
 obtain⟨ew,hew⟩:∃e,BY (ol W) n=e:=⟨_,rfl⟩
 rw[CA] at kV;rw[hew] at kW;obtain⟨r1,O9,c,rfl⟩:=aQ3 x.first x.second f1 f2
 have U4:=kx O9 (bE ((zQ _).2 f1) ((zQ _).2 f2)) (.v _)
 obtain⟨r2,hr2,o,ho,hro⟩:=aL3 x V W hV hW nV nW
 rw[cL Tryz.func219 rfl aL7 rfl];by_cases g1:ev=0
 case neg =>
  simp only[Z8,seval,hV,hW,kV,bf g1];exact⟨_,bQ rfl (by simp only[E8,seval]<;>rfl) (by first|exact .v _|simp only[dU]),_,rfl,by rw[← CA];exact US _ _⟩
 by_cases g2:ew=0
 case neg =>
  simp only[Z8,seval,hV,hW,kV,kW,bt g1,bf g2];exact⟨_,bQ rfl (by simp only[E8,seval]<;>rfl) (by first|exact .v _|simp only[dU]),_,rfl,by rw[← hew];exact US _ _⟩
 by_cases g3:x.first.target<x.first.source
 ·simp only[Z8,seval,hV,hW,kV,kW,bt g1,bt g2,g3];exact⟨_,bQ rfl (by simp only[E8,seval]<;>rfl) (by first|exact .v _|simp only[dU]),_,rfl,by decide⟩
 by_cases g4:x.second.target<x.second.source
 ·simp only[Z8,seval,hV,hW,kV,kW,bt g1,bt g2,g3,g4];exact⟨_,bQ rfl (by simp only[E8,seval]<;>rfl) (by first|exact .v _|simp only[dU]),_,rfl,by decide⟩
 cases c
 ·simp only[Z8,seval,hV,hW,kV,kW,bt g1,bt g2,g3,g4,U4];exact⟨_,bQ rfl (by simp only[E8,seval]<;>rfl) (by first|exact .v _|simp only[dU]),_,rfl,by decide⟩
 rcases hro with rfl|⟨L,hL,rfl⟩
 ·have Yj:=kx hr2 (cU fx) (bX o)
  by_cases g5:((ol o).length:Int)=0
  ·simp only[Z8,seval,hV,hW,kV,kW,bt g1,bt g2,g3,g4,U4,Yj,bt g5];exact⟨_,bQ rfl (by simp only[E8,seval]<;>rfl) (by first|exact .v _|simp only[dU]),_,rfl,by decide⟩
  ·simp only[Z8,seval,hV,hW,kV,kW,bt g1,bt g2,g3,g4,U4,Yj,bf g5];exact⟨_,bQ rfl (by simp only[E8,seval]<;>rfl) (by first|exact .v _|simp only[dU]),_,rfl,by decide⟩
 ·have Yj:∀(st:St) (d:Nat),aM (aB Tryz.prog) 221 [.agg (cD x)] st (some d)=_:=fun st d=>jF (st:=st) (d:=d) (cU fx) hr2
  by_cases g5:(L.length:Int)=0
  ·simp only[Z8,seval,hV,hW,kV,kW,bt g1,bt g2,g3,g4,U4,Yj,bt g5];exact⟨_,bQ rfl (by simp only[E8,seval]<;>rfl) (by first|exact .v _|simp only[dU]),_,rfl,by decide⟩
  ·simp only[Z8,seval,hV,hW,kV,kW,bt g1,bt g2,g3,g4,U4,Yj,bf g5];exact⟨_,bQ rfl (by simp only[E8,seval]<;>rfl) (by first|exact .v _|simp only[dU]),_,rfl,by decide⟩
theorem aRl {s:aL} {v:SV} {q:Int} (h:GI s v q) (r:RG s v) (x:fY) (V W:Option (List Int)) (hV:x.first.eZ=ov aK V) (hW:x.second.eZ=ov aK W) (nV:((ol V).length:Int)≤1000) (nW:((ol W).length:Int)≤1000) (hq:q+1000≤900000) :
 ∃r,aB Tryz.prog 205 [.agg (aA s),.agg (cD x)]=some r∧StN s v (q+1000) r:=by
 have hf:=h.sd.flat
 have pJ:=h.sd.fl
 have hz:=Jo
 have f1:Flat x.first.eZ:=by rw[hV];exact bX V
 have f2:Flat x.second.eZ:=by rw[hW];exact bX W
 have fx:Flat (.agg (cD x)):=(nC x).2 ⟨f1,f2⟩
 obtain⟨r1,O9,e1,rfl,he1⟩:=aRj x V W hV hW (by omega) (by omega) (ol v.B).length
 have U5:=kx O9 (bE fx (.v _)) (.v _)
 obtain⟨r2,hr2,o,ho,hro⟩:=aL3 x V W hV hW (by omega) (by omega)
 have nq:=h.nQ
 obtain⟨r3,hr3,L,n,rfl,hL,CO⟩:=aRi v.Q o (by omega) (by omega)
 have fr:Flat (.eG [ov aK (some L),.v (.int .i64 n)]):=.eG _ (bE (bX _) (.v _))
 have k220:∀(st:St) (d:Option Nat),fG (aB Tryz.prog) 220 [ov aK v.Q,ov aK o] st d=_:=fun st d=>Hs (st:=st) (d:=d) (bE (bX _) (bX _)) hr3 fr
 rw[cL Tryz.func205 rfl aL8 rfl];by_cases g1:e1=0
 case neg =>
  simp only[Z8,seval,Xv h.sd,U5,bf g1];exact⟨_,by apply dN;rfl;all_goals simp only[aH,bY,Z8,seval,hz]<;>rfl,gA,e1,rfl,hz,he1,fun h=>absurd h g1⟩
 have hQ:((ol (some L)).length:Int)≤q+1000:=by show (L.length:Int)≤_;omega
 have h':GI { s with gK:={ s.gK with gW:=ov aK (some L)} } { v with Q:=some L } (q+1000) :=
  ⟨⟨h.sd.iP,h.sd.eB,rfl,h.sd.early,h.sd.bN,h.sd.tree,h.sd.tables,h.sd.eV,h.sd.tB,h.sd.nB,h.sd.nL,by show ((ol (some L)).length:Int)<1000000;omega,h.sd.nE,h.sd.nO,h.sd.nT,h.sd.nn⟩,h.up,h.Xi,h.pos,h.nl,h.UY,h.jL,h.NF,h.nB,h.nO,h.NG,h.nE,h.TL,h.nT,h.TM,hQ,hq,h.gD⟩
 have F9:=h'.sd.flat
 rcases hro with rfl|⟨M,hM,rfl⟩
 ·have Yj:=kx hr2 (cU fx) (bX o)
  by_cases g2:n=0
  ·simp only[Z8,seval,Xv h.sd,U5,bt g1,h.sd.gW,Yj,k220,dE,bt g2];exact⟨_,by apply dN;rfl;all_goals simp only[aH,bY,Z8,seval,hz]<;>rfl,gA,9,rfl,hz,by decide,fun h=>by cases h⟩
  ·simp only[Z8,seval,Xv h.sd,U5,bt g1,h.sd.gW,Yj,k220,dE,bf g2];exact⟨_,by apply dN;rfl;all_goals simp only[aH,bY,Z8,seval,F9]<;>rfl,_,0,rfl,F9,by decide,fun _=>⟨_,h',⟨r.now,r.j,r.f,r.nd,r.or,r.rt,r.fe,r.ds,r.tb,⟨fun e=>CO g2 (by injection e),r.ne.e,r.ne.o,r.ne.t,r.ne.ea,r.ne.tb⟩⟩,rfl,rfl⟩⟩
 ·have Yj:∀(st:St) (d:Nat),aM (aB Tryz.prog) 221 [.agg (cD x)] st (some d)=_:=fun st d=>jF (st:=st) (d:=d) (cU fx) hr2
  have k220':∀(st:St) (a g:Nat) (d:Option Nat),st.heap a g=some (.row 3 1 M.length (aK M))→fG (aB Tryz.prog) 220 [ov aK v.Q,.own a g] st d=some { dst:=d,val:=.eG [ov aK (some L),.v (.int .i64 n)],dS:=some (a,g,none)}:=by
   intro st a g d hh;rw[Ol (s:=a) (k:=g) (by rw[List.flatMap_cons,vU (bX v.Q)];rfl) (by intro y hy;simp only[List.mem_cons,List.not_mem_nil,or_false] at hy;rcases hy with rfl|rfl;exact .inl (bX _);exact .inr (.inl ⟨a,g,rfl⟩)),
    List.map_cons,List.map_cons,List.map_nil,Fa,Rs hh,bO,bO,fR,← hM]
   exact NL hr3 fr
  by_cases g2:n=0
  ·simp only[Z8,seval,Xv h.sd,U5,bt g1,h.sd.gW,Yj,k220',dE,bt g2];exact⟨_,by apply dN;rfl;all_goals simp only[aH,bY,Z8,seval,hz]<;>rfl,gA,9,rfl,hz,by decide,fun h=>by cases h⟩
  ·simp only[Z8,seval,Xv h.sd,U5,bt g1,h.sd.gW,Yj,k220',dE,bf g2];exact⟨_,by apply dN;rfl;all_goals simp only[aH,bY,Z8,seval,F9]<;>rfl,_,0,rfl,F9,by decide,fun _=>⟨_,h',⟨r.now,r.j,r.f,r.nd,r.or,r.rt,r.fe,r.ds,r.tb,⟨fun e=>CO g2 (by injection e),r.ne.e,r.ne.o,r.ne.t,r.ne.ea,r.ne.tb⟩⟩,rfl,rfl⟩⟩
theorem VE {l:List Int} {n:Int} (h:BY l n=0):∀x∈l,0≤x∧x<n:=by
 intro x hx;unfold BY at h;have gP:l≠[]:=fun e=>by subst e;cases hx
 rw[if_neg gP] at h;by_cases g:uL (Uw l n) l.length<0
 ·rcases rD (Uw l n) l.length with ⟨_,hj⟩|⟨k,h1,_,_,h3⟩
  ·obtain⟨j,hj1,rfl⟩:=List.getElem_of_mem hx
   have hb:=hj j hj1
   have e:gx (0:Int) l j=l[j]:=by simp[gx,hj1]
   unfold Uw at hb;rw[e] at hb;omega
  ·omega
 ·rw[if_neg g] at h;split at h<;>omega
theorem HS {s:aL} {v:SV} {a:sG} {V:List Int} (h:(Gy s v a V).2=0):BY V (ol v.B).length=0:=by
 unfold Gy at h;by_cases g:BY V (ol v.B).length≠0
 ·rw[if_pos g] at h;exact h
 ·exact Classical.not_not.1 g
theorem GI.cast {s:aL} {v:SV} {q:Int} (h:GI s v q) (a:sG) (V:List Int):GI (Rn s v a V) { v with L:=some (uO (ol v.L) a.target.aE a.root V).1 } q:=by
 have hl:(uO (ol v.L) a.target.aE a.root V).1.length=(ol v.L).length:=Rm _ _ _ _
 exact⟨⟨h.sd.iP,rfl,h.sd.gW,h.sd.early,h.sd.bN,h.sd.tree,h.sd.tables,h.sd.eV,h.sd.tB,h.sd.nB,by show ((uO (ol v.L) a.target.aE a.root V).1.length:Int)<1000000;rw[hl];exact h.sd.nL,h.sd.nQ,h.sd.nE,h.sd.nO,h.sd.nT,h.sd.nn⟩,h.up,h.Xi,h.pos,h.nl,h.UY,h.jL,hl.trans h.NF,h.nB,h.nO,h.NG,h.nE,h.TL,h.nT,h.TM,h.nQ,h.S7,h.gD⟩
def wW (s:aL) (x:AV):aL:={ s with cF:={ s.cF with early:=x }}
theorem VF {e sz n:Nat} {cs:List AV} (h:¬ ∀c∈cs,Flat c):jG (some (.row e sz n cs))=none:=by
 unfold jG;simp only[if_neg h]
theorem aGV {a:sG} {x g:Nat} (h:a.eZ=.own x g) (l:List sG):¬ ∀c∈dR (l++[a]),Flat c:=by
 intro hf;have hm:AV.own x g∈dR (l++[a]):=by
  unfold dR;rw[List.flatMap_append,List.mem_append];refine .inr ?_
  rw[List.flatMap_cons,List.flatMap_nil,List.append_nil];unfold iD;rw[h];simp
 have:=hf _ hm
 cases this
theorem lV {α:Type} {a b:List (Option α)} {x y:List α} (ha:cP a=some x) (hb:cP b=some y):cP (a++b)=some (x++y):=by
 induction a generalizing x with
 | nil=>simp only[fR,Option.some.injEq] at ha;subst ha;simpa using hb
 | cons c a ih =>
   cases c with
   | none=>simp[cP] at ha
   | some c =>
     rw[bO] at ha;simp only[Option.map_eq_some_iff] at ha;obtain⟨z,hz,rfl⟩:=ha
     rw[List.cons_append,bO,ih hz];rfl
theorem Dk {cs:List AV} {f:AV→Option AV} (h:∀c∈cs,f c=some c):cP (cs.map f)=some cs:=by
 induction cs with
 | nil=>rfl
 | cons c cs ih=>rw[List.map_cons,h c (List.mem_cons_self ..),bO,ih fun x hx=>h x (List.mem_cons_of_mem _ hx)];rfl
theorem Yk {st:St} {c:AV} (h:Flat c):cS st c=some c:=by unfold cS;rw[if_pos h]
theorem U6 {st:St} {c:AV} (h:Flat c):Cw st c=some c:=by
 unfold Cw;cases h<;>exact Yk (by constructor;try assumption)
theorem G0 {s:aL} {v:SV} (h:SD s v) (st:St) {E:List sG} (hE:∀x∈E,Flat x.eZ) {a:sG} {V:List Int} {x g x' g' n:Nat}
 (hh:st.heap x g=some (.row 87 67 n (dR (E++[{ a with eZ:=.own x' g' }])))) (vA:st.heap x' g'=some (.row 3 1 V.length (aK V))) :
 Nj st (.agg (aA (wW s (.own x g))))=some (.agg (aA (wW s (.sl n (dR (E++[{ a with eZ:=ov aK (some V)}])))))):=by
 obtain⟨h1,h2,h3,h4,h5,h6,h7⟩:=h.fl
 have fl:∀ {cs:List AV},(∀c∈cs,Flat c)→cP (cs.map (Cw st))=some cs:=fun hc=>Dk fun c m=>U6 (hc c m)
 have fl1:∀ {cs:List AV},(∀c∈cs,Flat c)→cP (cs.map (cS st))=some cs:=fun hc=>Dk fun c m=>Yk (hc c m)
 have hv:cS st (.own x' g')=some (ov aK (some V)):=by rw[bP,vA];exact kA _ _
 have hatt:cP ((dR (E++[{ a with eZ:=.own x' g' }])).map (cS st))=some (dR (E++[{ a with eZ:=ov aK (some V)}])):=by
  unfold dR;rw[List.flatMap_append,List.flatMap_append,List.map_append];refine lV (fl1 (tD E hE)) ?_
  simp only[List.flatMap_cons,List.flatMap_nil,List.append_nil];unfold iD;rw[List.map_append,List.map_append,List.map_append];refine lV (fl1 (eD _)) (lV (fl1 (dX _)) (lV (fl1 (bM _)) ?_))
  rw[List.map_cons,List.map_nil,hv];rfl
 have hea:Cw st (.own x g)=some (.sl n (dR (E++[{ a with eZ:=ov aK (some V)}]))):=by
  unfold Cw;simp only[hh,hatt];rfl
 unfold Nj;simp only
 have:cP ((aA (wW s (.own x g))).map (Cw st))=some (aA (wW s (.sl n (dR (E++[{ a with eZ:=ov aK (some V)}]))))):=by
  unfold wW aA jX;simp only[List.map_append];refine lV (fl (uF _ h1)) (lV (fl (qW _ h2 h3)) (lV (fl (lF _)) (lV (lV ?_ (fl (by simpa using h5))) (lV (fl (wS _ h6)) (lV (fl (eD _)) (lV (fl (dX _)) (fl (by simpa using h7))))))))
  rw[List.map_cons,List.map_nil,hea];rfl
 rw[this];rfl
theorem U7 {s:aL} {v:SV} (h:SD s v) (st:St) {E:List sG} {a:sG} {x g x' g' n:Nat} (ha:a.eZ=.own x' g')
 (hh:st.heap x g=some (.row 87 67 n (dR (E++[a])))):fO st (.agg (aA (wW s (.own x g))))=none:=by
 have pJ:=h.fl
 have hn:=VF (e:=87) (sz:=67) (n:=n) (aGV ha E)
 unfold wW;simp only[bS,gJ,bP,hh,hn,cW,dU,pJ,cO,NM]
theorem GI.early {s:aL} {v:SV} {q:Int} (h:GI s v q) (E:Option (List sG)) (hE:∀a∈ol E,Df a) (hn:((ol E).length:Int)≤s.cFg.lK.qG):GI (wW s (ov dR E)) { v with E:=E } q :=
 ⟨⟨h.sd.iP,h.sd.eB,h.sd.gW,rfl,h.sd.bN,h.sd.tree,h.sd.tables,hE,h.sd.tB,h.sd.nB,h.sd.nL,h.sd.nQ,by have:=h.TL;show ((ol E).length:Int)<1000000;omega,h.sd.nO,h.sd.nT,h.sd.nn⟩,h.up,h.Xi,h.pos,h.nl,h.UY,h.jL,h.NF,h.nB,h.nO,h.NG,hn,h.TL,h.nT,h.TM,h.nQ,h.S7,h.gD⟩
theorem aGW (s:aL) (v:SV) (a:sG) (V:List Int):(Gy s v a V).2≠21:=by
 unfold Gy;split
 ·exact US _ _
 repeat (split;simp)
 simp
theorem aRm {s:aL} {v:SV} {q:Int} (h:GI s v q) (r:RG s v) (a:sG) (V:Option (List Int)) (hV:a.eZ=ov aK V) (nV:((ol V).length:Int)<99999) :
 ∃r,aB Tryz.prog 204 [.agg (aA s),.agg (iD a)]=some r∧StN s v q r:=by
 have hf:=h.sd.flat
 have pJ:=h.sd.fl
 have hz:=Jo
 have fa:Flat (.agg (iD a)):=(zP a).2 (by rw[hV];exact bX V)
 have k39:=kx (c39 h.sd h.up h.sp a V hV (by omega)) (bE hf fa) (.eG _ (bE (.v _) (.v _)))
 rw[cL Tryz.func204 rfl aL9 rfl];by_cases g1:(Gy s v a (ol V)).2=0
 case neg =>
  simp only[Z8,seval,k39,dE,bf g1];exact⟨_,by apply dN;rfl;all_goals simp only[aH,bY,Z8,seval,hz]<;>rfl,gA,_,rfl,hz,aGW _ _ _ _,fun h=>absurd h g1⟩
 cases g2:(Gy s v a (ol V)).1
 ·have hr:∀x∈ol V,0≤x∧x<(ol v.L).length:=by rw[h.NF];exact VE (HS g1)
  have h':=h.cast a (ol V)
  have F9:=h'.sd.flat
  have k44:=kx (c44 h.sd a V hV (by omega) hr) (bE hf fa) F9
  simp only[Z8,seval,k39,dE,bt g1,g2,k44];exact⟨_,by apply dN;rfl;all_goals simp only[aH,bY,Z8,seval,F9]<;>rfl,_,0,rfl,F9,by decide,fun _=>⟨_,h',⟨r.now,r.j,r.f,r.nd,r.or,r.rt,r.fe,r.ds,r.tb,⟨r.ne.q,r.ne.e,r.ne.o,r.ne.t,r.ne.ea,r.ne.tb⟩⟩,rfl,rfl⟩⟩
 ·by_cases g3:s.cFg.lK.qG≤((ol v.E).length:Int)
  ·simp only[Z8,seval,k39,dE,bt g1,g2,h.sd.early,g3];exact⟨_,by apply dN;rfl;all_goals simp only[aH,bY,Z8,seval,hz]<;>rfl,gA,11,rfl,hz,by decide,fun h=>by cases h⟩
  ·have hE:∀b∈ol (some (ol v.E++[{ a with eZ:=ov aK (some (ol V))}])),Df b:=by
    intro b hb;rcases List.mem_append.1 (show b∈ol v.E++[{ a with eZ:=ov aK (some (ol V))}] from hb) with hb|hb
    ·exact h.sd.eV b hb
    ·rw[List.mem_singleton] at hb;subst hb;exact⟨some (ol V),rfl,by show ((ol V).length:Int)<_;omega⟩
   have hVne:ol V≠[]:=fun e=>by have h0:=HS g1;rw[e] at h0;simp[BY] at h0
   have hEa:∀b∈ol (some (ol v.E++[{ a with eZ:=ov aK (some (ol V))}])),∃W,b.eZ=ov aK (some W)∧W≠[]:=by
    intro b hb;rcases List.mem_append.1 (show b∈ol v.E++[{ a with eZ:=ov aK (some (ol V))}] from hb) with hb|hb
    ·exact r.ne.ea b hb
    ·rw[List.mem_singleton] at hb;subst hb;exact⟨ol V,rfl,hVne⟩
   have h':=h.early (some (ol v.E++[{ a with eZ:=ov aK (some (ol V))}])) hE (by show (((ol v.E++[{ a with eZ:=ov aK (some (ol V))}]).length:Nat):Int)≤_;rw[List.length_append,List.length_cons,List.length_nil];omega)
   have F9:=h'.sd.flat
   have nE:=h.sd.nE
   have hEf:∀x∈ol v.E,Flat x.eZ:=fun x m=>(h.sd.eV x m).fl
   simp only[Z8,seval,k39,dE,bt g1,g2,h.sd.early,g3,hV,Ok _ (show ((ol V).length:Int)<1000000 by omega),o0 _ nE,We _ _ _ _ nE]
   have hlen:(ol v.E++[{ a with eZ:=.own 35 0 }]).length=(ol v.E++[{ a with eZ:=ov aK (some (ol V))}]).length:=by rw[List.length_append,List.length_append];rfl
   exact⟨_,aMa rfl (by simp only[bY,Z8,seval]<;>rfl) (by simp only[bY,E8,seval]<;>rfl)
    (U7 h.sd _ rfl (by simp only[E8,seval]<;>rfl)) (G0 (x':=35) (g':=0) h.sd _ hEf (by simp only[E8,seval,hlen]<;>rfl) (by simp only[E8,seval]<;>rfl)) (by simp only[Z8,seval]<;>rfl),_,0,rfl,F9,by decide,fun _=>⟨_,h',⟨r.now,r.j,r.f,r.nd,r.or,r.rt,r.fe,r.ds,r.tb,⟨r.ne.q,by simp,r.ne.o,r.ne.t,hEa,r.ne.tb⟩⟩,rfl,rfl⟩⟩
theorem aRo (ns:List Node) (hu:gL ns) (hr:(nd ns 0).up=-1) (hn:(ns.length:Int)<1000000) (w:List Int) (hw:w.length=ns.length) (b:List Bool) (hb:b.length=ns.length) (i:Int) :
 ∃r,aB Tryz.prog 225 [.agg (cJ ⟨ns⟩),.sl w.length (bK w),.sl b.length (mW b),.v (.int .i64 i)]=some r∧∃k:Int,r=.v (.int .i64 k)∧(k=-1∨(i<k∧0≤k∧k<ns.length)):=by
 rw[cL Tryz.func225 rfl aMb rfl];by_cases hc:wR ns i=[]
 ·have kc:=fun st d=>aFh ns hu hr hn i hc st d
  simp only[Z8,seval,kc];refine cC (fun m st=>st.env 9=.v (.int .i64 (-1))∧st.env 10=.v (.slice none 0 0)∧st.env 11=.v (.int .i64 0)∧m=0) (fun e st=>e=.exit 0∧st.env 9=.v (.int .i64 (-1))) 0 ?step ?start ?rest
  case step =>
   rintro m st ⟨h9,h10,h11,_⟩
   apply oT (.exit 0)
   ·simp only[Z8,seval,h9,h10,h11,Int.lt_irrefl];rfl
   ·exact⟨rfl,by simp only[E8,seval,h9]⟩
  case start=>exact⟨by simp only[E8,seval]<;>rfl,by simp only[E8,seval]<;>rfl,by simp only[E8,seval]<;>rfl,rfl⟩
  case rest =>
   rintro e st ⟨rfl,h9⟩
   simp only[Z8,seval,h9];exact⟨_,bQ rfl (by simp only[E8,seval,h9]<;>rfl) (by first|exact .v _|simp only[dU,h9]),-1,rfl,.inl rfl⟩
 have kc:=fun st d=>aKQ ns hu hr hn i hc st d
 have hgt:∀x∈wR ns i,i<x∧0≤x∧x<ns.length:=fun x hx=>HR hu hr hx
 have hin:((wR ns i).length:Int)<1000000:=by
  have h1:(wR ns i).length≤ns.length:=by
   unfold wR;split
   ·simp
   ·exact Vy ns i ns.length
  omega
 obtain⟨l,el⟩:∃l,wR ns i=l:=⟨_,rfl⟩
 rw[el] at kc hgt hin;simp only[Z8,seval,kc];refine cC (fun m st=>∃(k:Nat) (xS:Int),(st.env 4=.ptr 4 0 0∧st.heap 4 0=some (.cells (cJ ⟨ns⟩))∧st.env 1=.sl w.length (bK w)∧st.env 2=.sl b.length (mW b)∧st.env 10=.own 15 0∧st.heap 15 0=some (.row 3 1 l.length (aK l))∧st.env 9=.v (.int .i64 xS)∧st.env 11=.v (.int .i64 k))∧(xS=-1∨(i<xS∧0≤xS∧xS<ns.length))∧k≤l.length∧m=l.length-k)
  (fun e st=>e=.exit 0∧∃xS:Int,st.env 9=.v (.int .i64 xS)∧(xS=-1∨(i<xS∧0≤xS∧xS<ns.length))) l.length ?step ?start ?rest
 case step =>
  rintro m st ⟨k,xS,hI,FR,hk,hm⟩
  by_cases aY:(k:Int)<l.length
  case neg =>
   apply oT (.exit 0)
   ·simp only[Z8,seval,hI,aY];rfl
   ·exact⟨rfl,xS,by simp only[E8,seval,hI],FR⟩
  have q0:(0:Int)≤k:=by omega
  have hwr:IntKind.i64.wrap ((k:Int)+1)=((k+1:Nat):Int):=by rw[mT _ (by omega) (by omega)];omega
  have gi:=nX q0 aY
  obtain⟨c,ec⟩:∃c,it l (k:Int)=c:=⟨_,rfl⟩
  have hc:=hgt c (by rw[← ec];obtain⟨h1,h2⟩:=xP q0 aY;rw[h2];exact List.getElem_mem h1)
  obtain⟨c0,c1,c2⟩:=hc
  have c3:c<(w.length:Int):=by rw[hw];exact c2
  have c4:c<(b.length:Int):=by rw[hb];exact c2
  cases g1:gx false b c
  ·apply oN (l.length-(k+1))
   ·simp only[Z8,seval,hI,aY,q0,gi,ec,c1,c3,c4,g1,hwr,lD,lE];rfl
   ·exact⟨k+1,xS,by simp only[E8,seval,hI],FR,by omega,rfl⟩
  by_cases g2:xS<0
  ·apply oN (l.length-(k+1))
   ·simp only[Z8,seval,hI,aY,q0,gi,ec,c1,c3,c4,g1,g2,hwr,lD,lE];rfl
   ·exact⟨k+1,c,by simp only[E8,seval,hI],.inr ⟨c0,c1,c2⟩,by omega,rfl⟩
  have b1:0≤xS:=by omega
  have b2:xS<ns.length:=by omega
  have b3:xS<(w.length:Int):=by rw[hw];exact b2
  by_cases g3:gx (0:Int) w xS<gx (0:Int) w c
  ·apply oN (l.length-(k+1))
   ·simp only[Z8,seval,hI,aY,q0,gi,ec,c1,c3,c4,g1,g2,b1,b3,g3,hwr,lD,lE];rfl
   ·exact⟨k+1,c,by simp only[E8,seval,hI],.inr ⟨c0,c1,c2⟩,by omega,rfl⟩
  by_cases g4:gx (0:Int) w c=gx (0:Int) w xS
  case neg =>
   apply oN (l.length-(k+1))
   ·simp only[Z8,seval,hI,aY,q0,gi,ec,c1,c3,c4,g1,g2,b1,b3,g3,bf g4,hwr,lD,lE];rfl
   ·exact⟨k+1,xS,by simp only[E8,seval,hI],FR,by omega,rfl⟩
  by_cases g5:0<aLf (nd ns c).block.root (nd ns xS).block.root
  ·apply oN (l.length-(k+1))
   ·simp only[Z8,seval,hI,aY,q0,gi,ec,c1,c2,c3,c4,g1,g2,b1,b2,b3,g3,bt g4,aGH,g5,hwr,lD,lE];rfl
   ·exact⟨k+1,c,by simp only[E8,seval,hI],.inr ⟨c0,c1,c2⟩,by omega,rfl⟩
  ·apply oN (l.length-(k+1))
   ·simp only[Z8,seval,hI,aY,q0,gi,ec,c1,c2,c3,c4,g1,g2,b1,b2,b3,g3,bt g4,aGH,g5,hwr,lD,lE];rfl
   ·exact⟨k+1,xS,by simp only[E8,seval,hI],FR,by omega,rfl⟩
 case start=>exact⟨0,-1,by simp only[E8,seval]<;>rfl,.inl rfl,by omega,by omega⟩
 case rest =>
  rintro e st ⟨rfl,xS,h9,FR⟩
  simp only[Z8,seval,h9];exact⟨_,bQ rfl (by simp only[E8,seval,h9]<;>rfl) (by first|exact .v _|simp only[dU,h9]),xS,rfl,FR⟩
theorem aRp {s:aL} {v:SV} {q:Int} (h:GI s v q):∃r,aB Tryz.prog 208 [.agg (aA s)]=some r∧∃k:Int,r=.v (.int .i64 k)∧0≤k∧k<v.ns.length:=by
 have hf:=h.sd.flat
 have hn:=h.sd.nn
 obtain⟨r1,e1,w,rfl,hw⟩:=aRd h
 obtain⟨r2,e2,b,rfl,hb⟩:=aRh h
 have k223:∀(st:St) (d:Nat),aM (aB Tryz.prog) 223 [.agg (aA s)] st (some d)=_:=fun st d=>jF (st:=st) (d:=d) (cU hf) e1
 have k224:∀(st:St) (d:Nat),aM (aB Tryz.prog) 224 [.agg (aA s)] st (some d)=_:=fun st d=>jF (st:=st) (d:=d) (cU hf) e2
 have hB:∀i:Int,∃k:Int,aB Tryz.prog 225 [.agg (cJ ⟨v.ns⟩),.sl w.length (bK w),.sl b.length (mW b),.v (.int .i64 i)]=some (.v (.int .i64 k))∧(k=-1∨(i<k∧0≤k∧k<v.ns.length)):=fun i=>by
  obtain⟨r,hr,k,rfl,hk⟩:=aRo v.ns h.up h.Xi hn w hw b hb i
  exact⟨k,hr,hk⟩
 have kB:∀(i:Int) (k:Int),aB Tryz.prog 225 [.agg (cJ ⟨v.ns⟩),.sl w.length (bK w),.sl b.length (mW b),.v (.int .i64 i)]=some (.v (.int .i64 k))→∀(st:St) (g1 g2:Nat) (d:Option Nat),st.heap 8 g1=some (.row 23 1 w.length (bK w))→st.heap 10 g2=some (.row 4 1 b.length (mW b)) →
  aM (aB Tryz.prog) 225 [.agg (cJ ⟨v.ns⟩),.own 8 g1,.own 10 g2,.v (.int .i64 i)] st d=some { dst:=d,val:=.v (.int .i64 k)}:=by
  intro i k hk st g1 g2 d hh1 vA;rw[jU,List.map_cons,List.map_cons,List.map_cons,List.map_cons,List.map_nil,Jp,vT,hh1,uN,vT,vA,o6,Lu,bO,bO,bO,bO,fR];exact Tr hk
 rw[cL Tryz.func208 rfl aMd rfl];simp only[Z8,seval,k223,k224,h.sd.tree,mS _ _ hn];refine cC (fun m st=>∃i:Int,(st.env 1=.ptr 1 0 0∧st.heap 1 0=some (.cells (aA s))∧st.env 3=.own 8 0∧st.heap 8 0=some (.row 23 1 w.length (bK w))∧st.env 4=.own 10 0∧st.heap 10 0=some (.row 4 1 b.length (mW b))∧st.env 5=.v (.int .i64 i))∧0≤i∧i<v.ns.length∧m=v.ns.length-i.toNat)
  (fun e st=>e=.ret∧∃i:Int,st.env 2=.v (.int .i64 i)∧0≤i∧i<v.ns.length) (v.ns.length-(aN v.ns s.aU.gD.root).toNat) ?step ?start ?rest
 case step =>
  rintro m st ⟨i,hI,i0,i1,hm⟩
  obtain⟨k,hk,U8⟩:=hB i
  have kb:=kB i k hk
  by_cases aY:k<0
  ·apply oT (.ret)
   ·simp only[Z8,seval,hI,h.sd.tree,kb,aY];rfl
   ·exact⟨rfl,i,by simp only[E8,seval],i0,i1⟩
  ·apply oN (v.ns.length-k.toNat)
   ·simp only[Z8,seval,hI,h.sd.tree,kb,aY];rfl
   ·exact⟨k,by simp only[E8,seval,hI],by omega,by omega,rfl⟩
 case start=>exact⟨_,by simp only[E8,seval]<;>rfl,h.gD,(eQ _ _).2,rfl⟩
 case rest =>
  rintro e st ⟨rfl,i,h2,i0,i1⟩
  simp only[Z8,seval];exact⟨_,bQ rfl (by simp only[E8,seval,h2]<;>rfl) (by first|exact .v _|simp only[dU,h2]),i,rfl,i0,i1⟩
theorem VG (r:Command):Flat (.agg (eK r))=True:=eq_true (.agg _ (sN r))
theorem aRq {s:aL} {v:SV} {q:Int} (h:GI s v q):∃r,aB Tryz.prog 199 [.agg (aA s)]=some r∧∃c:Command,r=.agg (eK c):=by
 have hf:=h.sd.flat
 obtain⟨r1,e1,k,rfl,k0,k1⟩:=aRp h
 have k208:=kx e1 (cU hf) (.v _)
 obtain⟨r2,e2,r,rfl⟩:=aQ4 h.sd
 have k209:=kx e2 (cU hf) (qU r)
 rw[cL Tryz.func199 rfl aMe rfl];simp only[Z8,seval,k208,k209,h.sd.tree,k0,k1];exact⟨_,fJ rfl (by simp only[E8,seval,VG]<;>rfl) (by simp only[Z8,seval,VG]<;>rfl) (by simp only[dU,and_self,VG]),_,rfl⟩
theorem aMf (t:State) (hf:Flat (.agg (aQ t))) {v:SV} {q:Int} (h:GI t.store v q):∃r,aB Tryz.prog 181 [.agg (aQ t)]=some r∧∃(b:Bool) (c:Command) (y:AV),r=.eG [.agg (aQ { t with Lx:=b,last:=c }),y]∧Flat y:=by
 have ZM:=h.sd.flat
 have pJ:=(uG t).1 hf
 obtain⟨r1,e1,c,rfl⟩:=aRq h
 have aGZ:=kx e1 (cU ZM) (.agg _ (sN c))
 have hfc:∀x∈eK c,Flat x:=sN c
 have ex:jG (some (.row 56 96 1 (eK c)))=some (.sl 1 (eK c)):=by
  unfold jG;simp only[if_pos hfc]
 rw[cG Tryz.func181 rfl aMg (by kernel_rfl) rfl]
 have F9:Flat (.agg (aQ { t with Lx:=true,last:=c })):=(uG _).2 pJ
 cases g1:t.Lx
 ·simp only[ZG,seval,Bool.false_and,Prod.mk.injEq,U9,aGZ,g1];exact⟨_,by apply dN;rfl;all_goals simp only[aH,bY,Z8,seval,F9,ex]<;>rfl,true,c,_,rfl,.sl _ _ hfc⟩
 ·by_cases g2:t.last=c
  ·simp only[ZG,seval,Bool.false_and,Prod.mk.injEq,U9,aGZ,g1,g2];exact⟨_,by apply dN;rfl;all_goals simp only[aH,bY,Z8,seval,hf]<;>rfl,t.Lx,t.last,_,rfl,.v _⟩
  ·simp only[ZG,seval,Bool.false_and,Prod.mk.injEq,U9,aGZ,g1,g2];exact⟨_,by apply dN;rfl;all_goals simp only[aH,bY,Z8,seval,F9,ex]<;>rfl,true,c,_,rfl,.sl _ _ hfc⟩
theorem wrap_u64 (x:Int) (h1:0≤x) (h2:x<18446744073709551616):IntKind.u64.wrap x=x:=by
 unfold IntKind.wrap;simp[IntKind.signed,IntKind.bits]
 omega
theorem aMh (o:Option (List Int)) (hn:((ol o).length:Int)≤1000) (hb:∀x∈ol o,0≤x∧x≤1000):∃a:Int,aB Tryz.prog 175 [ov bK o]=some (.eG [.v (.int .u64 a),.v (.int .i64 0)])∧0≤a∧a≤1000000:=by
 suffices h:∃r,aB Tryz.prog 175 [ov bK o]=some r∧∃a:Int,r=.eG [.v (.int .u64 a),.v (.int .i64 0)]∧0≤a∧a≤1000000 by
  obtain⟨r,h,a,rfl,h1⟩:=h;exact⟨a,h,h1⟩
 have add:∀(a:Int) (k:Nat),0≤a∧a≤1000 * k→k<(ol o).length→CG a (gx (0:Int) (ol o) (k:Int))=(a+gx (0:Int) (ol o) (k:Int),0)∧0≤a+gx (0:Int) (ol o) (k:Int)∧a+gx (0:Int) (ol o) (k:Int)≤1000 * ((k+1:Nat):Int):=by
  intro a k ha hk;have hx:=hb _ (oO (z:=(0:Int)) (show (0:Int)≤k by omega) (show (k:Int)<(ol o).length by omega))
  obtain⟨x,ex⟩:∃x,gx (0:Int) (ol o) (k:Int)=x:=⟨_,rfl⟩
  rw[ex] at hx ⊢;have w1:IntKind.u64.wrap (18446744073709551615-x)=18446744073709551615-x:=wrap_u64 _ (by omega) (by omega)
  have w2:IntKind.u64.wrap (a+x)=a+x:=wrap_u64 _ (by omega) (by omega)
  unfold CG;rw[w1,w2,if_neg (by omega)]
  exact⟨rfl,by omega,by omega⟩
 rw[cL Tryz.func175 rfl aFn (by cases o<;>rfl)]
 simp only[Z8,seval];refine cC (fun m st=>∃(k:Nat) (a:Int),(st.env 0=ov bK o∧st.env 4=.v (.int .u64 a)∧st.env 5=.v (.int .i64 k))∧(0≤a∧a≤1000 * k)∧k≤(ol o).length∧m=(ol o).length-k)
  (fun e st=>e=.exit 0∧∃a:Int,st.env 4=.v (.int .u64 a)∧0≤a∧a≤1000000) (ol o).length ?step ?start ?rest
 case step =>
  rintro m st ⟨k,a,hI,ha,hk,hm⟩
  by_cases aY:(k:Int)<(ol o).length
  ·have q0:(0:Int)≤k:=by omega
   have hw:IntKind.i64.wrap ((k:Int)+1)=((k+1:Nat):Int):=by rw[mT _ (by omega) (by omega)];omega
   obtain⟨h1,h2⟩:=add a k ha (by omega)
   apply oN ((ol o).length-(k+1))
   ·simp only[Z8,seval,hI,aY,q0,aGt,dE,h1,hw];rfl
   ·exact⟨k+1,_,by simp only[E8,seval,hI]<;>rfl,h2,by omega,rfl⟩
  ·apply oT (.exit 0)
   ·simp only[Z8,seval,hI,aY];rfl
   ·exact⟨rfl,a,by simp only[E8,seval,hI],by omega⟩
 case start=>exact⟨0,0,by simp only[E8,seval]<;>exact⟨rfl,rfl⟩,by omega,by omega,by omega⟩
 case rest =>
  rintro e st ⟨rfl,a,h,ha⟩
  simp only[Z8,seval,h];exact⟨_,dN rfl rfl rfl (by simp only[E8,seval,h]<;>rfl) (by simp only[E8,seval,h]<;>rfl),_,rfl,ha⟩
theorem aMi (t:Table) (b:Option (List Int)) (ht:t.iP=ov bK b) (hn:((ol b).length:Int)≤1000) (hb:∀x∈ol b,0≤x∧x≤1000):aB Tryz.prog 130 [.agg (cA t),.v (.int .i64 (ol b).length)]=some (.v (.int .i64 0)):=by
 obtain⟨a,hr,a0,a1⟩:=aMh b hn hb
 have F0:=kx hr (cU (dY b)) (.eG _ (bE (.v _) (.v _)))
 rw[cL Tryz.func130 rfl aFp rfl];refine gX ?_
 have h3:(4611686018427387904<a)=False:=eq_false (by omega)
 simp only[Z8,seval,ht,bt (rfl:((ol b).length:Int)=(ol b).length),F0,dE,h3];exact⟨_,bQ rfl (by simp only[E8,seval]<;>rfl) (by first|exact .v _|simp only[dU]),rfl⟩
theorem aCW:mkRoot 1≠dV:=by decide
structure Ht (c:Config) (b:List Int):Prop where
 iP:c.iP=ov bK (some b)
 nb:1≤b.length∧b.length≤64
 bv:∀x∈b,0≤x∧x≤1000
 jL:1≤c.jL∧c.jL≤64
 bp:c.Hq≤100
 sM:1≤c.lK.sM∧c.lK.sM≤4096
 wU:0≤c.lK.wU∧c.lK.wU≤64
 qG:0≤c.lK.qG∧c.lK.qG≤256
 qF:1≤c.lK.qF∧c.lK.qF≤64
 oP:0≤c.lK.oP∧c.lK.oP≤256
 back:1≤c.lK.rQ∧c.lK.rQ≤1048576
 gen:c.cX=mkRoot 1
 n6:6≤c.lK.sM
theorem aG0 (n:Nat):((List.range n).flatMap fun _=>jO tN)=dD (List.replicate n tN):=by
 induction n with
 | zero=>rfl
 | succ n ih=>rw[List.range_succ,List.flatMap_append,ih,List.replicate_succ',dD,dD,List.flatMap_append];simp
theorem NN (t:Table):aI [t]=cA t:=by simp[aI]
def NO (c:Config):Block:={ eA with root:=c.cX,gD:=⟨0,c.cX⟩,fin:=⟨0,c.cX⟩,cV:=⟨⟨0,c.cX⟩,⟨0,c.cX⟩⟩}
def yI (c:Config) (b:List Int):aL:=⟨c,⟨ov dD (some (List.replicate b.length tN)),.v (.slice none 0 0)⟩,⟨⟨0,c.cX⟩,⟨0,c.cX⟩⟩,Ey,⟨.sl 1 (bZ [⟨NO c,-1,1⟩])⟩,0,dV,ov aI (some [⟨⟨0,c.cX⟩,ov bK (some b)⟩])⟩
def Av (c:Config) (b:List Int):SV:={ B:=some b,L:=some (List.replicate b.length tN),Q:=none,E:=none,O:=none,ns:=[⟨NO c,-1,1⟩],T:=some [⟨⟨0,c.cX⟩,ov bK (some b)⟩]}
theorem GI.new {c:Config} {b:List Int} (h:Ht c b):GI (yI c b) (Av c b) 0:=by
 have hb:=h.nb
 refine⟨⟨h.iP,rfl,rfl,rfl,rfl,rfl,rfl, ?_, ?_, ?_, ?_, ?_, ?_, ?_, ?_, ?_⟩, ?_, ?_, ?_, ?_,h.sM.2,h.jL, ?_, ?_, ?_,h.wU.2, ?_,h.qG.2, ?_,h.qF.2, ?_,by omega, ?_⟩
 ·intro a ha;cases ha
 ·intro t ht;rw[show t=⟨⟨0,c.cX⟩,ov bK (some b)⟩ by simpa [Av,ol] using ht]
  exact⟨some b,rfl,by show (b.length:Int)<_;omega⟩
 ·show (b.length:Int)<_;omega
 ·show ((List.replicate b.length tN).length:Int)<_;rw[List.length_replicate];omega
 ·show ((0:Nat):Int)<_;omega
 ·show ((0:Nat):Int)<_;omega
 ·show ((0:Nat):Int)<_;omega
 ·show ((1:Nat):Int)<_;omega
 ·show ((1:Nat):Int)<_;omega
 ·intro i h0 h1;have:i<((1:Nat):Int):=h1;omega
 ·rfl
 ·show 0<1;omega
 ·show ((1:Nat):Int)≤c.lK.sM;have:=h.sM.1;omega
 ·show (List.replicate b.length tN).length=b.length;rw[List.length_replicate]
 ·show (b.length:Int)≤1024;omega
 ·show ((0:Nat):Int)≤c.lK.wU;have:=h.wU.1;omega
 ·show ((0:Nat):Int)≤c.lK.qG;have:=h.qG.1;omega
 ·show ((1:Nat):Int)≤c.lK.qF;have:=h.qF.1;omega
 ·show ((0:Nat):Int)≤0;omega
 ·exact Oh (j:=0) (by omega) (by show (0:Int)<((1:Nat):Int);omega) rfl
theorem aMj {c:Config} {b:List Int} (h:Ht c b):aB Tryz.prog 102 [.agg (bW c)]=some (.eG [.agg (aA (yI c b)),.v (.int .i64 0)]):=by
 obtain⟨aCX,hnb,hbv,hspe,hbp,h1,h2,h3,h4,h5,h6,hg0,_⟩:=h
 have hg:c.cX≠dV:=by rw[hg0];exact aCW
 have f1:=hspe.1;have f2:¬64<c.jL:=by omega
 have f1':¬c.jL<1:=by omega
 have f3:¬100<c.Hq:=by omega
 have f4:¬(1024:Int)<(b.length:Int):=by omega
 have f6:¬c.lK.rQ<1:=by omega
 have f7:¬1048576<c.lK.rQ:=by omega
 have n1:((ol (some b)).length:Int)<1000000:=by show (b.length:Int)<_;omega
 have hb0:(0:Int)≤(b.length:Int):=by omega
 have TZ:(b.length:Int) * 48≤140737488355328:=by omega
 have ZK:(b.length:Int)≤(maxLen:Int):=by unfold maxLen;omega
 have zE:fV.aE=0:=rfl
 have kt:∀(st:St) (d:Option Nat),aM (aB Tryz.prog) 130 [.agg (cA ⟨⟨0,c.cX⟩,ov bK (some b)⟩),.v (.int .i64 b.length)] st d=some { dst:=d,val:=.v (.int .i64 0)}:=kx (aMi ⟨⟨0,c.cX⟩,ov bK (some b)⟩ (some b) rfl (by show (b.length:Int)≤_;omega) hbv) (bE ((iG ⟨⟨0,c.cX⟩,ov bK (some b)⟩).2 (dY (some b))) (.v _)) (.v _)
 have aGN:=kx (aLs ⟨⟨0,c.cX⟩,ov bK (some b)⟩ (some b) rfl n1) (cU ((iG ⟨⟨0,c.cX⟩,ov bK (some b)⟩).2 (dY (some b)))) ((iG ⟨⟨0,c.cX⟩,ov bK (some b)⟩).2 (dY (some b)))
 rw[cL Tryz.func102 rfl aMk rfl];refine gX ?_
 simp only[Z8,seval,lD,lE,aCX,f1',f2,f3,f4,f6,f7,aPU,h1.1,h1.2,h2.1,h2.2,h3.1,h3.2,h4.1,h4.2,h5.1,h5.2,hg,zE,kt,hb0,TZ,ZK,Int.toNat_natCast,aG0,aGN,aPK,Ew b (show (b.length:Int)<1000000 by omega)]
 have exT:=Og 1 [⟨⟨0,c.cX⟩,ov bK (some b)⟩] (by intro y hy;rw[List.mem_singleton] at hy;subst hy;exact dY (some b))
 rw[NN] at exT;have hcc:∀x,x=c.iP→({ lK:=c.lK,jL:=c.jL,Hq:=c.Hq,CI:=c.CI,cX:=c.cX,iP:=x }:Config)=c:=by rintro _ rfl;rfl
 have zs:gA.gK.gW=.v (.slice none 0 0)∧gA.cF.early=.v (.slice none 0 0)∧gA.cF.bN=.v (.slice none 0 0):=⟨rfl,rfl,rfl⟩
 exact⟨_,by apply dN;rfl;all_goals simp only[aH,bY,Z8,seval,bS,gJ,bP,uN,Wc,exT,cW,dU,zs]<;>rfl,by unfold yI;simp only[ov,List.length_replicate,NN,hcc (.sl b.length (bK b)) aCX.symm]<;>rfl⟩
end Go.Ab.Tryz
section
namespace Go.Ab
open Classical
theorem Om [Ext] (P:Program) {f:Nat} {fn:Func} {c:Code} (hf:P.funcs[f]? = some fn) (hb:fn.body=some c) (oZ:bI fn=true) (e sz m:Nat) (cs xs:List AV) (hx:Ext.ext f (.uniq e sz m cs :: xs)=none) :
 aB P f (.uniq e sz m cs :: xs)=cT (zJ P c (St.tJ e sz m cs xs)) (V0 P fn):=by
 simp only[bI,hb,Bool.and_eq_true,Bool.not_eq_true'] at oZ;rw[NP P hf hb oZ.1 e sz m cs xs hx,oZ.2];rfl
theorem o7 [Ext] (P:Program) {f:Nat} {fn:Func} {c:Code} (hf:P.funcs[f]? = some fn) (hb:fn.body=some c) (oZ:sX fn=true) (hc:oE c=true) (e sz m:Nat) (cs xs:List AV) (hx:Ext.ext f (.uniq e sz m cs :: xs)=none) :
 aB P f (.uniq e sz m cs :: xs)=cT (wX P true c (St.tJ e sz m cs xs)) (V0 P fn):=by
 rw[NP P hf hb oZ e sz m cs xs hx,hc]
theorem zV [Ext] {P:Program} {fn:Func} {st:St} {e:Ex} {t s g ee sz n:Nat} {cs:List AV} (he:e=.ret∨e=.normal) (hr:fn.results.toList=[.tmp t]) (h1:st.env t=.own s g) (h2:st.heap s g=some (.row ee sz n cs)) (hm:∀c∈cs,iE c) :
 V0 P fn (e,st)=some (.uniq ee sz n cs):=V1 he hr (by unfold lR;simp only[h1]) h2 hm
end Go.Ab
namespace Go.Ab.Tryz
open Classical Go.Proofs Go.Ab
theorem zW (l:List Int):∀c∈kI l,iE c:=by
 intro c hc;unfold kI at hc;obtain⟨x,_,hx⟩:=List.mem_flatMap.1 hc
 rw[cU8,List.mem_singleton] at hx;subst hx;exact .v _
def Wr (F:Nat) (rest:List AV) (K:Int):Prop:=∀l:List Int,(l.length:Int)+K<900000→∃m:List Int,aB Tryz.prog F (.uniq 5 1 l.length (kI l) :: rest)=some (.uniq 5 1 m.length (kI m))∧(m.length:Int)≤l.length+K
def WrN (F:Nat) (rest:List AV) (K:Int):Prop:=∃m:List Int,aB Tryz.prog F (.v (.slice none 0 0) :: rest)=some (.uniq 5 1 m.length (kI m))∧(m.length:Int)≤K
theorem Wr.at {F:Nat} {rest:List AV} {K:Int} (h:Wr F rest K) (hr:∀x∈rest,Flat x) {l:List Int} (hl:(l.length:Int)+K<900000) :
 ∃m:List Int,(∀s k d c,mvE (aB Tryz.prog) F rest s k d c (some (.row 5 1 l.length (kI l)))=some { dst:=some d,val:=.own d c,dS:=some (s,k,none),new:=some (d,[.row 5 1 m.length (kI m)])})∧(m.length:Int)≤l.length+K:=by
 obtain⟨m,h1,h2⟩:=h l hl
 exact⟨m,fun s k d c=>V5 (vV l) hr h1,h2⟩
theorem WrN.at {F:Nat} {rest:List AV} {K:Int} (h:WrN F rest K) (hr:∀x∈rest,Flat x) :
 ∃m:List Int,(∀(st:St) (d:Nat),lQ (aB Tryz.prog) F (.v (.slice none 0 0) :: rest) st (some d)=some { dst:=some d,val:=.own d (st.aT d),new:=some (d,[.row 5 1 m.length (kI m)])})∧(m.length:Int)≤K:=by
 obtain⟨m,h1,h2⟩:=h
 exact⟨m,fun st d=>VH hr h1,h2⟩
def tb:Nat→Int
 | 0=>18446744073709551616
 | k+1=>tb k / 128+1
theorem tb9:tb 9=3:=by decide
theorem o8 (x:Int):x.fdiv (2 ^ min 7 IntKind.u64.bits)=x / 128:=by
 show x.fdiv 128=x / 128
 exact Int.fdiv_eq_ediv_of_nonneg x (by decide)
theorem aCY (l:List Int):kI l=l.map fun x=>.v (.int .u8 x):=by
 induction l with
 | nil=>rfl
 | cons a l ih=>simp only[kI,List.flatMap_cons,List.map_cons,cU8] at *;rw[ih];rfl
theorem NQ (r:cN):bF r=kI r.toList:=by rw[aCY];rfl
theorem Wf {P:Program} {T:Nat} {k:IntKind} {a b:Int}:gM P .or T (.v (.int k a)) (.v (.int k b))=some (.v (.int k (k.wrap (BitVec.ofInt k.bits a ||| BitVec.ofInt k.bits b).toNat))):=by simp[gM]
theorem aMm:dW Tryz.prog 27=none:=by kernel_rfl
theorem aMn (r:cN) (st:St) (s g o:Nat) (h:st.heap s g=some (.cells (bF r))):dB Tryz.prog st 27 (.ptr s g o) none none=some (.vw s g o 32):=by
 simp only[dB,aMm,aGG,h]
theorem V6 (st:St) (s g:Nat) (r:cN) (h:st.heap s g=some (.cells (bF r))):aX st (.vw s g 0 32)=some (r.toList.length,kI r.toList):=by
 have hl:(bF r).length=32:=aO r
 simp only[aX,h,Nat.zero_add,List.drop_zero];rw[if_pos (by omega),List.take_of_length_le (by omega),NQ]
 simp
theorem Yl (n:Int) (hn:Rg n):Wr 215 [.v (.int .u64 n)] 10:=by
 intro l hl;suffices h:∃r,aB Tryz.prog 215 [.uniq 5 1 l.length (kI l),.v (.int .u64 n)]=some r∧∃m:List Int,r=.uniq 5 1 m.length (kI m)∧(m.length:Int)≤l.length+10 by
  obtain⟨r,h,m,rfl,h2⟩:=h;exact⟨m,h,h2⟩
 rw[Om Tryz.prog Tryz.func215 rfl aFC _ _ _ _ _ (uP _ _)];simp only[Z8,seval,mJ,oQ,mK,mL,oR];refine cC (fun m st=>∃(x:Int) (k:Nat) (l':List Int) (a g:Nat),(st.env 0=.own a g∧st.heap a g=some (.row 5 1 l'.length (kI l'))∧st.env 1=.v (.int .u64 x))∧((a=0∧g=0)∨(a=13∧g<st.aT 13))∧l'.length=l.length+k∧0≤x∧x<tb k∧k≤9∧m=x.toNat)
  (fun e st=>e=.exit 0∧∃(x:Int) (l':List Int) (a g:Nat),(st.env 0=.own a g∧st.heap a g=some (.row 5 1 l'.length (kI l'))∧st.env 1=.v (.int .u64 x))∧a≠19∧(l'.length:Int)≤l.length+9) n.toNat ?step ?start ?rest
 case step =>
  rintro m st ⟨x,k,l',a,g,hI,HT,Gx,x0,hx,hk,hm⟩
  by_cases aY:127<x
  ·have hk8:k≤8:=by
    rcases Nat.lt_or_ge k 9 with h|h
    ·omega
    ·have:k=9:=by omega
     subst this;rw[tb9] at hx;omega
   have Rb:(l'.length:Int)<1000000:=by omega
   have Jq:x / 128<tb (k+1):=by show x / 128<tb k / 128+1;omega
   have ll:∀b:Int,(l'++[b]).length=l.length+(k+1):=fun b=>by rw[List.length_append,List.length_cons,List.length_nil];omega
   rcases HT with ⟨rfl,rfl⟩|⟨rfl,hg⟩
   ·apply oN ((x / 128).toNat)
    ·simp only[Z8,seval,hI,aY,Wf,Ly _ _ _ _ Rb,o8];rfl
    ·exact⟨x / 128,k+1,_,13,_,by and_intros<;>(simp only[E8,seval]<;>rfl),.inr ⟨rfl,by simp only[E8,seval]<;>omega⟩,ll _,by omega,Jq,by omega,rfl⟩
   ·have vC:(g=st.aT 13)=False:=eq_false (by omega)
    apply oN ((x / 128).toNat)
    ·simp only[Z8,seval,hI,aY,vC,Wf,Ly _ _ _ _ Rb,o8];rfl
    ·exact⟨x / 128,k+1,_,13,_,by and_intros<;>(simp only[E8,seval]<;>rfl),.inr ⟨rfl,by simp only[E8,seval]<;>omega⟩,ll _,by omega,Jq,by omega,rfl⟩
  ·apply oT (.exit 0)
   ·simp only[Z8,seval,hI,aY];rfl
   ·exact⟨rfl,x,l',a,g,by simp only[E8,seval,hI],by omega,by omega⟩
 case start=>exact⟨n,0,l,0,0,by simp only[E8,seval,mJ,oQ,mK,mL,oR]<;>rfl,.inl ⟨rfl,rfl⟩,rfl,hn.1,hn.2,by omega,rfl⟩
 case rest =>
  rintro e st ⟨rfl,x,l',a,g,hI,ha,Gx⟩
  have ha':(a=19)=False:=eq_false ha
  have Rb:(l'.length:Int)<1000000:=by omega
  simp only[Z8,seval,hI,ha',Ly _ _ _ _ Rb];exact⟨_,zV (.inl rfl) rfl (by simp only[E8,seval]<;>rfl) (by simp only[E8,seval]<;>rfl) (zW _),_,rfl,by rw[List.length_append,List.length_cons,List.length_nil];omega⟩
theorem G1 (n:Int) (hn:Rg n):WrN 215 [.v (.int .u64 n)] 10:=by
 suffices h:∃r,aB Tryz.prog 215 [.v (.slice none 0 0),.v (.int .u64 n)]=some r∧∃m:List Int,r=.uniq 5 1 m.length (kI m)∧(m.length:Int)≤10 by
  obtain⟨r,h,m,rfl,h2⟩:=h;exact⟨m,h,h2⟩
 rw[cL Tryz.func215 rfl aFC rfl];simp only[Z8,seval];refine cC (fun m st=>∃(x:Int) (k:Nat),st.env 1=.v (.int .u64 x)∧((k=0∧st.env 0=.v (.slice none 0 0))∨∃(l':List Int) (g:Nat),(st.env 0=.own 13 g∧st.heap 13 g=some (.row 5 1 l'.length (kI l')))∧g<st.aT 13∧l'.length=k)∧0≤x∧x<tb k∧k≤9∧m=x.toNat)
  (fun e st=>e=.exit 0∧∃(x:Int),st.env 1=.v (.int .u64 x)∧(st.env 0=.v (.slice none 0 0)∨∃(l':List Int) (g:Nat),(st.env 0=.own 13 g∧st.heap 13 g=some (.row 5 1 l'.length (kI l')))∧(l'.length:Int)≤9)) n.toNat ?step ?start ?rest
 case step =>
  rintro m st ⟨x,k,hI,h0,x0,hx,hk,hm⟩
  by_cases aY:127<x
  ·have hk8:k≤8:=by
    rcases Nat.lt_or_ge k 9 with h|h
    ·omega
    ·have:k=9:=by omega
     subst this;rw[tb9] at hx;omega
   have Jq:x / 128<tb (k+1):=by show x / 128<tb k / 128+1;omega
   rcases h0 with ⟨qC,h0⟩|⟨l',g,h0,hg,Gx⟩
   ·have ll:∀b:Int,([b]:List Int).length=k+1:=fun b=>by rw[List.length_cons,List.length_nil];omega
    apply oN ((x / 128).toNat)
    ·simp only[Z8,seval,hI,h0,aY,Wf,VI,o8];rfl
    ·exact⟨x / 128,k+1,by simp only[E8,seval],.inr ⟨_,_,⟨by simp only[E8,seval]<;>rfl,by simp only[E8,seval]<;>rfl⟩,by simp only[E8,seval]<;>omega,ll _⟩,by omega,Jq,by omega,rfl⟩
   ·have Rb:(l'.length:Int)<1000000:=by omega
    have ll:∀b:Int,(l'++[b]).length=k+1:=fun b=>by rw[List.length_append,List.length_cons,List.length_nil];omega
    have vC:(g=st.aT 13)=False:=eq_false (by omega)
    apply oN ((x / 128).toNat)
    ·simp only[Z8,seval,hI,h0,aY,vC,Wf,Ly _ _ _ _ Rb,o8];rfl
    ·exact⟨x / 128,k+1,by simp only[E8,seval],.inr ⟨_,_,⟨by simp only[E8,seval]<;>rfl,by simp only[E8,seval]<;>rfl⟩,by simp only[E8,seval]<;>omega,ll _⟩,by omega,Jq,by omega,rfl⟩
  ·have h0':st.env 0=.v (.slice none 0 0)∨∃(l':List Int) (g:Nat),(st.env 0=.own 13 g∧st.heap 13 g=some (.row 5 1 l'.length (kI l')))∧(l'.length:Int)≤9:=by
    rcases h0 with ⟨_,h0⟩|⟨l',g,h0,hg,Gx⟩
    ·exact .inl h0
    ·exact .inr ⟨l',g,h0,by omega⟩
   apply oT (.exit 0)
   ·simp only[Z8,seval,hI,aY];rfl
   ·exact⟨rfl,x,by simp only[E8,seval,hI],by simpa only[E8,seval] using h0'⟩
 case start=>exact⟨n,0,by simp only[E8,seval]<;>rfl,.inl ⟨rfl,by simp only[E8,seval]<;>rfl⟩,hn.1,hn.2,by omega,rfl⟩
 case rest =>
  rintro e st ⟨rfl,x,hI,h0⟩
  rcases h0 with h0|⟨l',g,h0,Gx⟩
  ·simp only[Z8,seval,hI,h0,VI];exact⟨_,Ym (n:=([IntKind.u8.wrap x]:List Int).length) (cs:=kI [IntKind.u8.wrap x]) (aH (by decide)) (.inl rfl) rfl (by simp only[E8,seval]<;>rfl) (by simp only[E8,seval]<;>rfl) (vV _),_,rfl,by rw[List.length_cons,List.length_nil];omega⟩
  ·have Rb:(l'.length:Int)<1000000:=by omega
   simp only[Z8,seval,hI,h0,Ly _ _ _ _ Rb];exact⟨_,tU rfl (by simp only[E8,seval]<;>rfl) (by simp only[E8,seval]<;>rfl) (vV _),_,rfl,by rw[List.length_append,List.length_cons,List.length_nil];omega⟩
theorem HU (r:cN):Wr 226 [.agg (bF r)] 32:=by
 intro l hl;suffices h:∃x,aB Tryz.prog 226 [.uniq 5 1 l.length (kI l),.agg (bF r)]=some x∧∃m:List Int,x=.uniq 5 1 m.length (kI m)∧(m.length:Int)≤l.length+32 by
  obtain⟨r,h,m,rfl,h2⟩:=h;exact⟨m,h,h2⟩
 have Rb:(l.length:Int)<1000000:=by omega
 have hc:bF r=kI r.toList:=NQ r
 have hr:(r.toList.length:Int)<1000000:=by simp
 rw[Om Tryz.prog Tryz.func226 rfl aMo _ _ _ _ _ (uP _ _)];simp only[Z8,seval,mJ,oQ,mK,mL,oR,aMn r,V6 _ _ _ r,VJ _ _ _ _ Rb hr];exact⟨_,zV (.inl rfl) rfl (by simp only[E8,seval]<;>rfl) (by simp only[E8,seval]<;>rfl) (zW _),_,rfl,by rw[List.length_append];simp⟩
theorem V7 (c:dP) (h:Rg c.aE):Wr 228 [.agg (aW c)] 42:=by
 intro l hl;suffices h:∃r,aB Tryz.prog 228 [.uniq 5 1 l.length (kI l),.agg (aW c)]=some r∧∃m:List Int,r=.uniq 5 1 m.length (kI m)∧(m.length:Int)≤l.length+42 by
  obtain⟨r,h,m,rfl,h2⟩:=h;exact⟨m,h,h2⟩
 obtain⟨m1,e1,b1⟩:=(Yl c.aE h).at (cU (.v _)) (l:=l) (by omega)
 obtain⟨m2,e2,b2⟩:=(HU c.root).at (cU (qU _)) (l:=m1) (by omega)
 rw[o7 Tryz.prog Tryz.func228 rfl aMp (by kernel_rfl) _ _ _ _ _ (uP _ _)]
 simp only[ZG,seval,Bool.false_and,Prod.mk.injEq,aMq,mJ,oQ,mK,mL,oR,e1,e2];exact⟨_,zV (.inl rfl) rfl (by simp only[E8,seval]<;>rfl) (by simp only[E8,seval]<;>rfl) (zW _),_,rfl,by omega⟩
end Go.Ab.Tryz
end
namespace Go.Ab.Tryz
open Classical Go.Proofs Go.Ab
theorem aMr (o p:Option (List Int)) (hn:((ol o).length:Int)<1000000):∃r,aB Tryz.prog 105 [ov aK o,ov aK p]=some r∧∃b:Bool,r=.v (.bool b):=by
 rw[cL Tryz.func105 rfl aFD (by cases o<;>cases p<;>rfl)]
 by_cases g:((ol o).length:Int)=((ol p).length:Int)
 case neg =>
  simp only[Z8,seval,bf g];exact⟨_,bQ rfl (by simp only[E8,seval]<;>rfl) (by first|exact .v _|simp only[dU]),_,rfl⟩
 simp only[Z8,seval,bt g];refine cC (fun m st=>∃k:Nat,(st.env 0=ov aK o∧st.env 1=ov aK p∧st.env 5=.v (.int .i64 k))∧k≤(ol o).length∧m=(ol o).length-k)
  (fun e st=>(e=.ret∧st.env 4=.v (.bool false))∨e=.exit 0) (ol o).length ?step ?start ?rest
 case step =>
  rintro m st ⟨k,hI,hk,hm⟩
  by_cases aY:(k:Int)<(ol o).length
  ·have q0:(0:Int)≤k:=by omega
   have q1:(k:Int)<((ol p).length:Int):=by omega
   have hw:IntKind.i64.wrap ((k:Int)+1)=((k+1:Nat):Int):=by rw[mT _ (by omega) (by omega)];omega
   by_cases hh:gx (0:Int) (ol o) (k:Int)=gx (0:Int) (ol p) (k:Int)
   ·apply oN ((ol o).length-(k+1))
    ·simp only[Z8,seval,hI,aY,q0,q1,bt hh,hw];rfl
    ·exact⟨k+1,by simp only[E8,seval,hI],by omega,rfl⟩
   ·apply oT (.ret)
    ·simp only[Z8,seval,hI,aY,q0,q1,bf hh];rfl
    ·exact .inl ⟨rfl,by simp only[E8,seval]⟩
  ·apply oT (.exit 0)
   ·simp only[Z8,seval,hI,aY];rfl
   ·exact .inr rfl
 case start=>exact⟨0,by simp only[E8,seval]<;>rfl,by omega,by omega⟩
 case rest =>
  rintro e st (⟨rfl,h⟩|rfl)
  ·simp only[Z8,seval,h];exact⟨_,bQ rfl (by simp only[E8,seval,h]<;>rfl) (by first|exact .v _|simp only[dU,h]),_,rfl⟩
  ·simp only[Z8,seval];exact⟨_,bQ rfl (by simp only[E8,seval]<;>rfl) (by first|exact .v _|simp only[dU]),_,rfl⟩
theorem aRr (o p:Option (List Int)) (hn:((ol o).length:Int)<1000000):∃r,aB Tryz.prog 103 [ov bK o,ov bK p]=some r∧∃b:Bool,r=.v (.bool b):=by
 rw[cL Tryz.func103 rfl aFE (by cases o<;>cases p<;>rfl)]
 by_cases g:((ol o).length:Int)=((ol p).length:Int)
 case neg =>
  simp only[Z8,seval,bf g];exact⟨_,bQ rfl (by simp only[E8,seval]<;>rfl) (by first|exact .v _|simp only[dU]),_,rfl⟩
 simp only[Z8,seval,bt g];refine cC (fun m st=>∃k:Nat,(st.env 0=ov bK o∧st.env 1=ov bK p∧st.env 5=.v (.int .i64 k))∧k≤(ol o).length∧m=(ol o).length-k)
  (fun e st=>(e=.ret∧st.env 4=.v (.bool false))∨e=.exit 0) (ol o).length ?step ?start ?rest
 case step =>
  rintro m st ⟨k,hI,hk,hm⟩
  by_cases aY:(k:Int)<(ol o).length
  ·have q0:(0:Int)≤k:=by omega
   have q1:(k:Int)<((ol p).length:Int):=by omega
   have hw:IntKind.i64.wrap ((k:Int)+1)=((k+1:Nat):Int):=by rw[mT _ (by omega) (by omega)];omega
   by_cases hh:gx (0:Int) (ol o) (k:Int)=gx (0:Int) (ol p) (k:Int)
   ·apply oN ((ol o).length-(k+1))
    ·simp only[Z8,seval,hI,aY,q0,q1,bt hh,hw];rfl
    ·exact⟨k+1,by simp only[E8,seval,hI],by omega,rfl⟩
   ·apply oT (.ret)
    ·simp only[Z8,seval,hI,aY,q0,q1,bf hh];rfl
    ·exact .inl ⟨rfl,by simp only[E8,seval]⟩
  ·apply oT (.exit 0)
   ·simp only[Z8,seval,hI,aY];rfl
   ·exact .inr rfl
 case start=>exact⟨0,by simp only[E8,seval]<;>rfl,by omega,by omega⟩
 case rest =>
  rintro e st (⟨rfl,h⟩|rfl)
  ·simp only[Z8,seval,h];exact⟨_,bQ rfl (by simp only[E8,seval,h]<;>rfl) (by first|exact .v _|simp only[dU,h]),_,rfl⟩
  ·simp only[Z8,seval];exact⟨_,bQ rfl (by simp only[E8,seval]<;>rfl) (by first|exact .v _|simp only[dU]),_,rfl⟩
theorem aRs (a b:sG) (ha:Df a) (hb:Df b):∃r,aB Tryz.prog 108 [.agg (iD a),.agg (iD b)]=some r∧∃b:Bool,r=.v (.bool b):=by
 obtain⟨V,hV,nV⟩:=ha
 obtain⟨W,hW,nW⟩:=hb
 obtain⟨r1,e1,B,rfl⟩:=aMr V W nV
 have V8:=kx e1 (bE (bX V) (bX W)) (.v _)
 rw[cL Tryz.func108 rfl aFF rfl];by_cases g1:a.slot=b.slot
 case neg =>
  simp only[Z8,seval,hV,hW,bf g1];exact⟨_,bQ rfl (by simp only[E8,seval]<;>rfl) (by first|exact .v _|simp only[dU]),_,rfl⟩
 by_cases g2:a.root=b.root
 case neg =>
  simp only[Z8,seval,hV,hW,bt g1,g2];exact⟨_,bQ rfl (by simp only[E8,seval]<;>rfl) (by first|exact .v _|simp only[dU]),_,rfl⟩
 by_cases g3:a.target=b.target
 case neg =>
  simp only[Z8,seval,hV,hW,bt g1,g2,g3];exact⟨_,bQ rfl (by simp only[E8,seval]<;>rfl) (by first|exact .v _|simp only[dU]),_,rfl⟩
 simp only[Z8,seval,hV,hW,bt g1,g2,g3,V8];exact⟨_,bQ rfl (by simp only[E8,seval]<;>rfl) (by first|exact .v _|simp only[dU]),_,rfl⟩
theorem aRt (a b:Table) (ha:qN a) (hb:qN b):∃r,aB Tryz.prog 159 [.agg (cA a),.agg (cA b)]=some r∧∃b:Bool,r=.v (.bool b):=by
 obtain⟨V,hV,nV⟩:=ha
 obtain⟨W,hW,nW⟩:=hb
 obtain⟨r1,e1,B,rfl⟩:=aRr V W nV
 have V9:=kx e1 (bE (dY V) (dY W)) (.v _)
 rw[cL Tryz.func159 rfl aFG rfl];by_cases g1:a.ck=b.ck
 case neg =>
  simp only[Z8,seval,hV,hW,g1];exact⟨_,bQ rfl (by simp only[E8,seval]<;>rfl) (by first|exact .v _|simp only[dU]),_,rfl⟩
 simp only[Z8,seval,hV,hW,g1,V9];exact⟨_,bQ rfl (by simp only[E8,seval]<;>rfl) (by first|exact .v _|simp only[dU]),_,rfl⟩
def wY (a:Claim):Prop:=∃V:Option (List Int),a.eZ=ov aK V∧((ol V).length:Int)≤1000
theorem wY.fl {a:Claim} (h:wY a):Flat (.agg (gU a)):=by obtain⟨V,h,_⟩:=h;exact (zQ a).2 (by rw[h];exact bX V)
theorem aMs (a b:Claim) (ha:wY a) (hb:wY b):∃r,aB Tryz.prog 232 [.agg (gU a),.agg (gU b)]=some r∧∃b:Bool,r=.v (.bool b):=by
 obtain⟨V,hV,nV⟩:=ha
 obtain⟨W,hW,nW⟩:=hb
 obtain⟨r1,e1,B,rfl⟩:=aMr V W (by omega)
 have V8:=kx e1 (bE (bX V) (bX W)) (.v _)
 rw[cL Tryz.func232 rfl aMt rfl];by_cases g1:a.source=b.source
 case neg =>
  simp only[Z8,seval,hV,hW,bf g1];exact⟨_,bQ rfl (by simp only[E8,seval]<;>rfl) (by first|exact .v _|simp only[dU]),_,rfl⟩
 by_cases g2:a.target=b.target
 case neg =>
  simp only[Z8,seval,hV,hW,bt g1,bf g2];exact⟨_,bQ rfl (by simp only[E8,seval]<;>rfl) (by first|exact .v _|simp only[dU]),_,rfl⟩
 by_cases g3:a.root=b.root
 case neg =>
  simp only[Z8,seval,hV,hW,bt g1,bt g2,g3];exact⟨_,bQ rfl (by simp only[E8,seval]<;>rfl) (by first|exact .v _|simp only[dU]),_,rfl⟩
 simp only[Z8,seval,hV,hW,bt g1,bt g2,g3,V8];exact⟨_,bQ rfl (by simp only[E8,seval]<;>rfl) (by first|exact .v _|simp only[dU]),_,rfl⟩
theorem aRu (a b:fY) (h1:wY a.first) (h2:wY a.second) (h3:wY b.first) (h4:wY b.second):∃r,aB Tryz.prog 216 [.agg (cD a),.agg (cD b)]=some r∧∃b:Bool,r=.v (.bool b):=by
 obtain⟨r1,e1,B1,rfl⟩:=aMs a.first b.first h1 h3
 obtain⟨r2,e2,B2,rfl⟩:=aMs a.second b.second h2 h4
 have k1:=kx e1 (bE h1.fl h3.fl) (.v _)
 have k2:=kx e2 (bE h2.fl h4.fl) (.v _)
 rw[cL Tryz.func216 rfl aMu rfl];cases B1
 ·simp only[Z8,seval,k1];exact⟨_,bQ rfl (by simp only[E8,seval]<;>rfl) (by first|exact .v _|simp only[dU]),_,rfl⟩
 ·simp only[Z8,seval,k1,k2];exact⟨_,bQ rfl (by simp only[E8,seval]<;>rfl) (by first|exact .v _|simp only[dU]),_,rfl⟩
structure pK (x:xM):Prop where
 Gp:∃V:Option (List Int),x.Gp.eZ=ov aK V∧((ol V).length:Int)≤1000
 c1:wY x.pB.first
 c2:wY x.pB.second
 VK:∃b:Option (List Int),x.table.iP=ov bK b∧((ol b).length:Int)≤1000∧∀y∈ol b,Rg y
 rb:RB x.block
 ra:Rg x.Gp.slot∧Rg x.Gp.target.aE
 rs:Rg x.pB.first.source∧Rg x.pB.first.target∧Rg x.pB.second.source∧Rg x.pB.second.target
 rt:Rg x.table.ck.aE
 rv:Rg x.verdict.tagged.tag
theorem pK.aFH {x:xM} (h:pK x):Df x.Gp:=by obtain⟨V,h1,h2⟩:=h.Gp;exact⟨V,h1,by omega⟩
theorem pK.W0 {x:xM} (h:pK x):qN x.table:=by obtain⟨V,h1,h2,_⟩:=h.VK;exact⟨V,h1,by omega⟩
theorem pK.fl {x:xM} (h:pK x):Flat x.Gp.eZ∧Flat x.pB.first.eZ∧Flat x.pB.second.eZ∧Flat x.table.iP:=by
 obtain⟨V,h1,_⟩:=h.Gp;obtain⟨V2,h2,_⟩:=h.c1;obtain⟨V3,h3,_⟩:=h.c2;obtain⟨V4,h4,_⟩:=h.VK
 rw[h1,h2,h3,h4];exact⟨bX _,bX _,bX _,dY _⟩
theorem pK.flat {x:xM} (h:pK x):Flat (.agg (lA x)):=(UP x).2 h.fl
theorem VL (a b:xM) (ha:pK a) (hb:pK b):∃r,aB Tryz.prog 201 [.agg (lA a),.agg (lA b)]=some r∧∃b:Bool,r=.v (.bool b):=by
 have fa:=ha.fl
 have fb:=hb.fl
 obtain⟨r1,e1,B1,rfl⟩:=aRs a.Gp b.Gp ha.aFH hb.aFH
 obtain⟨r2,e2,B2,rfl⟩:=aRu a.pB b.pB ha.c1 ha.c2 hb.c1 hb.c2
 obtain⟨r3,e3,B3,rfl⟩:=aRt a.table b.table ha.W0 hb.W0
 have k1:=kx e1 (bE ((zP _).2 fa.1) ((zP _).2 fb.1)) (.v _)
 have k2:=kx e2 (bE ((nC _).2 ⟨fa.2.1,fa.2.2.1⟩) ((nC _).2 ⟨fb.2.1,fb.2.2.1⟩)) (.v _)
 have k3:=kx e3 (bE ((iG _).2 fa.2.2.2) ((iG _).2 fb.2.2.2)) (.v _)
 rw[cL Tryz.func201 rfl aMv rfl];by_cases g1:a.kind=b.kind
 case neg =>
  simp only[Z8,seval,lD,lE,bf g1];exact⟨_,bQ rfl (by simp only[E8,seval]<;>rfl) (by first|exact .v _|simp only[dU]),_,rfl⟩
 by_cases g2:a.block=b.block
 case neg =>
  simp only[Z8,seval,lD,lE,bt g1,g2];exact⟨_,bQ rfl (by simp only[E8,seval]<;>rfl) (by first|exact .v _|simp only[dU]),_,rfl⟩
 cases B1
 ·simp only[Z8,seval,lD,lE,bt g1,g2,k1];exact⟨_,bQ rfl (by simp only[E8,seval]<;>rfl) (by first|exact .v _|simp only[dU]),_,rfl⟩
 cases B2
 ·simp only[Z8,seval,lD,lE,bt g1,g2,k1,k2];exact⟨_,bQ rfl (by simp only[E8,seval]<;>rfl) (by first|exact .v _|simp only[dU]),_,rfl⟩
 cases B3
 ·simp only[Z8,seval,lD,lE,bt g1,g2,k1,k2,k3];exact⟨_,bQ rfl (by simp only[E8,seval]<;>rfl) (by first|exact .v _|simp only[dU]),_,rfl⟩
 by_cases g3:a.verdict=b.verdict
 case neg =>
  simp only[Z8,seval,lD,lE,bt g1,g2,k1,k2,k3,g3];exact⟨_,bQ rfl (by simp only[E8,seval]<;>rfl) (by first|exact .v _|simp only[dU]),_,rfl⟩
 by_cases g4:a.write=b.write
 case neg =>
  simp only[Z8,seval,lD,lE,bt g1,g2,k1,k2,k3,g3,bf g4];exact⟨_,bQ rfl (by simp only[E8,seval]<;>rfl) (by first|exact .v _|simp only[dU]),_,rfl⟩
 simp only[Z8,seval,lD,lE,bt g1,g2,k1,k2,k3,g3,bt g4];exact⟨_,bQ rfl (by simp only[E8,seval]<;>rfl) (by first|exact .v _|simp only[dU]),_,rfl⟩
theorem aCZ (cs:List AV) (o:Nat) (h:32≤cs.length-o):fB Tryz.prog 26 cs o=some (.agg (rd cs o 32)):=by
 have e:fQ Tryz.prog 26=some (true,32):=by kernel_rfl
 unfold fB;simp only[e];rw[if_pos ⟨by omega,h⟩]
theorem W1:sL Tryz.prog 26=some 32:=by kernel_rfl
theorem aMw:eI Tryz.prog 26=some tO:=by kernel_rfl
theorem aMx:jJ Tryz.prog 26=some (32,1):=by kernel_rfl
theorem aMy:dW Tryz.prog 26=none:=by kernel_rfl
theorem aMz (r:cN) (st:St) (s g o:Nat) (h:st.heap s g=some (.cells (bF r))):dB Tryz.prog st 26 (.ptr s g o) none none=some (.vw s g o 32):=by
 simp only[dB,aMy,aMx,h]
theorem aG2 (st:St) (x:AV) {k:IntKind} {i:Int} (h0:0≤i) (h1:i<32):bH Tryz.prog st 26 x (.v (.int k i))=vK x (i.toNat * 1):=HI aMx st x h0 h1
theorem xT (x:Int):(IntKind.u64.wrap x<0)=False:=by
 refine eq_false ?_
 unfold IntKind.wrap;simp[IntKind.signed,IntKind.bits]
 omega
theorem aRv (w:qE):∃r:cN,aB Tryz.prog 246 [.agg (gG w)]=some (.agg (bF r)):=by
 suffices h:∃x,aB Tryz.prog 246 [.agg (gG w)]=some x∧∃r:cN,x=.agg (bF r) by
  obtain⟨x,h,r,rfl⟩:=h;exact⟨r,h⟩
 rw[cL Tryz.func246 rfl aMA rfl];simp only[Z8,seval,aMw];refine cC (fun m st=>∃(k:Nat) (r:cN),(st.env 1=.ptr 1 0 0∧st.heap 1 0=some (.cells (gG w))∧st.env 3=.ptr 3 0 0∧st.heap 3 0=some (.cells (bF r))∧st.env 2=.ptr 2 0 0∧st.heap 2 0=some (.cells (bF dV))∧st.env 4=.v (.int .i64 k))∧k≤32∧m=32-k)
  (fun e st=>e=.exit 0∧∃r:cN,st.env 3=.ptr 3 0 0∧st.heap 3 0=some (.cells (bF r))∧st.env 2=.ptr 2 0 0∧st.heap 2 0=some (.cells (bF dV))) 32 ?step ?start ?rest
 case step =>
  rintro m st ⟨k,r,hI,hk,hm⟩
  by_cases aY:(k:Int)<32
  ·have q0:(0:Int)≤k:=by omega
   have hw:IntKind.i64.wrap ((k:Int)+1)=((k+1:Nat):Int):=by rw[mT _ (by omega) (by omega)];omega
   obtain⟨i,hi⟩:∃i:Int,i=31-(k:Int):=⟨_,rfl⟩
   have hi1:IntKind.i64.wrap (31-(k:Int))=i:=by rw[mT _ (by omega) (by omega),hi]
   have i0:0≤i:=by omega
   have i1:i<32:=by omega
   have hj:IntKind.i64.wrap ((k:Int).tdiv 8)=(k:Int) / 8:=by rw[Int.tdiv_eq_ediv_of_nonneg q0,mT _ (by omega) (by omega)]
   have j0:0≤(k:Int) / 8:=by omega
   have j1:(k:Int) / 8<4:=by omega
   have i31:i.toNat≤31:=by omega
   have gw:=Rf w j0 j1
   have Lm:=fun x=>Xd r i.toNat (i.toNat+1) x (by omega) rfl
   apply oN (32-(k+1))
   ·simp only[Z8,seval,hI,aY,q0,hi1,i0,i1,hj,j0,j1,Hn,aG2,gw,i31,Lm,xT,Nat.mul_one,hw];rfl
   ·exact⟨k+1,_,by simp only[E8,seval,hI]<;>rfl,by omega,rfl⟩
  ·apply oT (.exit 0)
   ·simp only[Z8,seval,hI,aY];rfl
   ·exact⟨rfl,r,by simp only[E8,seval,hI]⟩
 case start=>exact⟨0,dV,by simp only[E8,seval]<;>rfl,by omega,by omega⟩
 case rest =>
  rintro e st ⟨rfl,r,hI⟩
  simp only[Z8,seval,hI,aCZ,W1];exact⟨_,fJ rfl (by simp only[E8,seval,hI,aCZ,W1]<;>rfl) (by simp only[Z8,seval,hI,aCZ,W1]<;>rfl) (by simp only[dU,and_self,hI,aCZ,W1]),r,rfl⟩
theorem aRw (w:qE):∃r:cN,∀(st:St) (d:Option Nat),aM (aB Tryz.prog) 246 [.agg (gG w)] st d=some { dst:=d,val:=.agg (bF r)}:=by
 obtain⟨r,h⟩:=aRv w
 exact⟨r,kx h (cU (.agg _ (iQ w))) (qU r)⟩
theorem aMB (x:qE):Wr 227 [.agg (gG x)] 32:=by
 intro l hl;suffices h:∃r,aB Tryz.prog 227 [.uniq 5 1 l.length (kI l),.agg (gG x)]=some r∧∃m:List Int,r=.uniq 5 1 m.length (kI m)∧(m.length:Int)≤l.length+32 by
  obtain⟨r,h,m,rfl,h2⟩:=h;exact⟨m,h,h2⟩
 have Rb:(l.length:Int)<1000000:=by omega
 obtain⟨r,kr⟩:=aRw x
 have hr:(r.toList.length:Int)<1000000:=by simp
 rw[Om Tryz.prog Tryz.func227 rfl aMC _ _ _ _ _ (uP _ _)];simp only[Z8,seval,mJ,oQ,mK,mL,oR,kr,aMw,W1,aMz r,V6 _ _ _ r,VJ _ _ _ _ Rb hr];exact⟨_,zV (.inl rfl) rfl (by simp only[E8,seval]<;>rfl) (by simp only[E8,seval]<;>rfl) (zW _),_,rfl,by rw[List.length_append];simp⟩
theorem aRx (b:Bool):Wr 229 [.v (.bool b)] 1:=by
 intro l hl;suffices h:∃r,aB Tryz.prog 229 [.uniq 5 1 l.length (kI l),.v (.bool b)]=some r∧∃m:List Int,r=.uniq 5 1 m.length (kI m)∧(m.length:Int)≤l.length+1 by
  obtain⟨r,h,m,rfl,h2⟩:=h;exact⟨m,h,h2⟩
 have Rb:(l.length:Int)<1000000:=by omega
 rw[Om Tryz.prog Tryz.func229 rfl aMD _ _ _ _ _ (uP _ _)];cases b
 all_goals
  simp only[Z8,seval,mJ,oQ,mK,mL,oR,Ly _ _ _ _ Rb];exact⟨_,zV (.inl rfl) rfl (by simp only[E8,seval]<;>rfl) (by simp only[E8,seval]<;>rfl) (zW _),_,rfl,by rw[List.length_append,List.length_cons,List.length_nil];omega⟩
theorem hU (x:Int):Rg (IntKind.u64.wrap x):=by
 unfold Rg IntKind.wrap;simp[IntKind.signed,IntKind.bits]
 omega
theorem aG3 (V:Option (List Int)) (nV:((ol V).length:Int)≤1000):Wr 230 [ov aK V] 10010:=by
 intro l hl;suffices h:∃r,aB Tryz.prog 230 [.uniq 5 1 l.length (kI l),ov aK V]=some r∧∃m:List Int,r=.uniq 5 1 m.length (kI m)∧(m.length:Int)≤l.length+10010 by
  obtain⟨r,h,m,rfl,h2⟩:=h;exact⟨m,h,h2⟩
 obtain⟨m1,e1,b1⟩:=(Yl _ (hU ((ol V).length:Int))).at (cU (.v _)) (l:=l) (by omega)
 rw[Om Tryz.prog Tryz.func230 rfl aME _ _ _ _ _ (uP _ _)];simp only[Z8,seval,mJ,oQ,mK,mL,oR,e1];refine cC (fun m st=>∃(k:Nat) (p:List Int) (a g:Nat),(st.env 0=.own a g∧st.heap a g=some (.row 5 1 p.length (kI p))∧st.env 1=ov aK V∧st.env 5=.v (.int .i64 k))∧((a=10∧g<st.aT 10)∨(a=24∧g<st.aT 24)∨(a=38∧g<st.aT 38))∧(p.length:Int)≤l.length+10+10 * k∧k≤(ol V).length∧m=(ol V).length-k)
  (fun e st=>e=.exit 0∧∃(p:List Int) (a g:Nat),(st.env 0=.own a g∧st.heap a g=some (.row 5 1 p.length (kI p)))∧(p.length:Int)≤l.length+10010) (ol V).length ?step ?start ?rest
 case step =>
  rintro m st ⟨k,p,a,g,hI,HT,hp,hk,hm⟩
  by_cases aY:(k:Int)<(ol V).length
  ·have q0:(0:Int)≤k:=by omega
   have hw:IntKind.i64.wrap ((k:Int)+1)=((k+1:Nat):Int):=by rw[mT _ (by omega) (by omega)];omega
   have fin:∀(p':List Int),(p'.length:Int)≤p.length+10→(p'.length:Int)≤l.length+10+10 * ((k+1:Nat):Int):=fun p' h=>by omega
   by_cases h1:(k:Int)=0
   ·have z0:(0:Int)<((ol V).length:Int):=by omega
    have z1:(0:Int)≤0:=by omega
    obtain⟨p',e2,b2⟩:=(Yl _ (hU (gx (0:Int) (ol V) (0:Int)))).at (cU (.v _)) (l:=p) (by omega)
    rcases HT with ⟨rfl,hg⟩|⟨rfl,hg⟩|⟨rfl,hg⟩
    ·apply oN ((ol V).length-(k+1))
     ·simp only[Z8,seval,hI,aY,q0,bt h1,z0,z1,e2,hw];rfl
     ·exact⟨k+1,p',_,_,⟨by simp only[E8,seval]<;>rfl,by simp only[E8,seval]<;>rfl,by simp only[E8,seval,hI],by simp only[E8,seval]⟩,.inr (.inl ⟨rfl,by simp only[E8,seval]<;>omega⟩),fin p' b2,by omega,rfl⟩
    ·have vC:(g=st.aT 24)=False:=eq_false (by omega)
     apply oN ((ol V).length-(k+1))
     ·simp only[Z8,seval,hI,vC,aY,q0,bt h1,z0,z1,e2,hw];rfl
     ·exact⟨k+1,p',_,_,⟨by simp only[E8,seval]<;>rfl,by simp only[E8,seval]<;>rfl,by simp only[E8,seval,hI],by simp only[E8,seval]⟩,.inr (.inl ⟨rfl,by simp only[E8,seval]<;>omega⟩),fin p' b2,by omega,rfl⟩
    ·apply oN ((ol V).length-(k+1))
     ·simp only[Z8,seval,hI,aY,q0,bt h1,z0,z1,e2,hw];rfl
     ·exact⟨k+1,p',_,_,⟨by simp only[E8,seval]<;>rfl,by simp only[E8,seval]<;>rfl,by simp only[E8,seval,hI],by simp only[E8,seval]⟩,.inr (.inl ⟨rfl,by simp only[E8,seval]<;>omega⟩),fin p' b2,by omega,rfl⟩
   ·have ZW:IntKind.i64.wrap ((k:Int)-1)=(k:Int)-1:=mT _ (by omega) (by omega)
    have y0:(0:Int)≤(k:Int)-1:=by omega
    have y1:(k:Int)-1<((ol V).length:Int):=by omega
    obtain⟨p',e2,b2⟩:=(Yl _ (hU (IntKind.i64.wrap (IntKind.i64.wrap (gx (0:Int) (ol V) (k:Int)-gx (0:Int) (ol V) ((k:Int)-1))-1)))).at (cU (.v _)) (l:=p) (by omega)
    rcases HT with ⟨rfl,hg⟩|⟨rfl,hg⟩|⟨rfl,hg⟩
    ·apply oN ((ol V).length-(k+1))
     ·simp only[Z8,seval,hI,aY,q0,bf h1,ZW,y0,y1,e2,hw];rfl
     ·exact⟨k+1,p',_,_,⟨by simp only[E8,seval]<;>rfl,by simp only[E8,seval]<;>rfl,by simp only[E8,seval,hI],by simp only[E8,seval]⟩,.inr (.inr ⟨rfl,by simp only[E8,seval]<;>omega⟩),fin p' b2,by omega,rfl⟩
    ·apply oN ((ol V).length-(k+1))
     ·simp only[Z8,seval,hI,aY,q0,bf h1,ZW,y0,y1,e2,hw];rfl
     ·exact⟨k+1,p',_,_,⟨by simp only[E8,seval]<;>rfl,by simp only[E8,seval]<;>rfl,by simp only[E8,seval,hI],by simp only[E8,seval]⟩,.inr (.inr ⟨rfl,by simp only[E8,seval]<;>omega⟩),fin p' b2,by omega,rfl⟩
    ·have vC:(g=st.aT 38)=False:=eq_false (by omega)
     apply oN ((ol V).length-(k+1))
     ·simp only[Z8,seval,hI,vC,aY,q0,bf h1,ZW,y0,y1,e2,hw];rfl
     ·exact⟨k+1,p',_,_,⟨by simp only[E8,seval]<;>rfl,by simp only[E8,seval]<;>rfl,by simp only[E8,seval,hI],by simp only[E8,seval]⟩,.inr (.inr ⟨rfl,by simp only[E8,seval]<;>omega⟩),fin p' b2,by omega,rfl⟩
  ·apply oT (.exit 0)
   ·simp only[Z8,seval,hI,aY];rfl
   ·exact⟨rfl,p,a,g,by simp only[E8,seval,hI],by omega⟩
 case start=>exact⟨0,m1,10,0,by and_intros<;>(simp only[E8,seval,mJ,oQ,mK,mL,oR]<;>rfl),.inl ⟨rfl,by simp only[E8,seval,mJ,oQ,mK,mL,oR]<;>omega⟩,by omega,by omega,by omega⟩
 case rest =>
  rintro e st ⟨rfl,p,a,g,hI,hp⟩
  simp only[Z8,seval,hI];exact⟨_,zV (.inl rfl) rfl (by simp only[E8,seval]<;>rfl) (by simp only[E8,seval,hI]<;>rfl) (zW _),_,rfl,hp⟩
theorem aRy (c:Claim) (V:Option (List Int)) (hV:c.eZ=ov aK V) (nV:((ol V).length:Int)≤1000) (h1:Rg c.source) (h2:Rg c.target):Wr 231 [.agg (gU c)] 10100:=by
 intro l hl;suffices h:∃r,aB Tryz.prog 231 [.uniq 5 1 l.length (kI l),.agg (gU c)]=some r∧∃m:List Int,r=.uniq 5 1 m.length (kI m)∧(m.length:Int)≤l.length+10100 by
  obtain⟨r,h,m,rfl,h2⟩:=h;exact⟨m,h,h2⟩
 obtain⟨m1,e1,b1⟩:=(Yl c.source h1).at (cU (.v _)) (l:=l) (by omega)
 obtain⟨m2,e2,b2⟩:=(Yl c.target h2).at (cU (.v _)) (l:=m1) (by omega)
 obtain⟨m3,e3,b3⟩:=(HU c.root).at (cU (qU _)) (l:=m2) (by omega)
 obtain⟨m4,e4,b4⟩:=(aG3 V nV).at (cU (bX V)) (l:=m3) (by omega)
 rw[o7 Tryz.prog Tryz.func231 rfl aFI (by kernel_rfl) _ _ _ _ _ (uP _ _)]
 simp only[ZG,seval,Bool.false_and,Prod.mk.injEq,aFJ,mJ,oQ,mK,mL,oR,e1,e2,e3,e4,hV,Bm,Bn,Ho,Hp];exact⟨_,zV (.inl rfl) rfl (by simp only[E8,seval]<;>rfl) (by simp only[E8,seval]<;>rfl) (zW _),_,rfl,by omega⟩
theorem aRz (c:Claim) (V:Option (List Int)) (hV:c.eZ=ov aK V) (nV:((ol V).length:Int)≤1000) (h1:Rg c.source) (h2:Rg c.target):WrN 231 [.agg (gU c)] 10100:=by
 suffices h:∃r,aB Tryz.prog 231 [.v (.slice none 0 0),.agg (gU c)]=some r∧∃m:List Int,r=.uniq 5 1 m.length (kI m)∧(m.length:Int)≤10100 by
  obtain⟨r,h,m,rfl,h2⟩:=h;exact⟨m,h,h2⟩
 obtain⟨m1,e1,b1⟩:=(G1 c.source h1).at (cU (.v _))
 obtain⟨m2,e2,b2⟩:=(Yl c.target h2).at (cU (.v _)) (l:=m1) (by omega)
 obtain⟨m3,e3,b3⟩:=(HU c.root).at (cU (qU _)) (l:=m2) (by omega)
 obtain⟨m4,e4,b4⟩:=(aG3 V nV).at (cU (bX V)) (l:=m3) (by omega)
 rw[cG Tryz.func231 rfl aFI (by kernel_rfl) rfl]
 simp only[ZG,seval,Bool.false_and,Prod.mk.injEq,aFJ,e1,e2,e3,e4,hV,Bm,Bn,Ho,Hp];exact⟨_,tU rfl (by simp only[E8,seval]<;>rfl) (by simp only[E8,seval]<;>rfl) (vV _),_,rfl,by omega⟩
theorem aRA (x:Block) (h:RB x):WrN 210 [.agg (aP x)] 400:=by
 suffices h:∃r,aB Tryz.prog 210 [.v (.slice none 0 0),.agg (aP x)]=some r∧∃m:List Int,r=.uniq 5 1 m.length (kI m)∧(m.length:Int)≤400 by
  obtain⟨r,h,m,rfl,h2⟩:=h;exact⟨m,h,h2⟩
 obtain⟨m1,e1,b1⟩:=(G1 x.slot h.sl).at (cU (.v _))
 obtain⟨m2,e2,b2⟩:=(HU x.root).at (cU (qU _)) (l:=m1) (by omega)
 obtain⟨m3,e3,b3⟩:=(HU x.parent).at (cU (qU _)) (l:=m2) (by omega)
 obtain⟨m4,e4,b4⟩:=(HU x.jK).at (cU (qU _)) (l:=m3) (by omega)
 obtain⟨m5,e5,b5⟩:=(aMB x.diff).at (cU (.agg _ (iQ _))) (l:=m4) (by omega)
 obtain⟨m6,e6,b6⟩:=(aMB x.FM).at (cU (.agg _ (iQ _))) (l:=m5) (by omega)
 obtain⟨m7,e7,b7⟩:=(V7 x.gD h.j).at (cU (.agg _ (bM _))) (l:=m6) (by omega)
 obtain⟨m8,e8,b8⟩:=(V7 x.fin h.f).at (cU (.agg _ (bM _))) (l:=m7) (by omega)
 obtain⟨m9,e9,b9⟩:=(V7 x.cV.pj h.pj).at (cU (.agg _ (bM _))) (l:=m8) (by omega)
 obtain⟨m10,e10,b10⟩:=(V7 x.cV.pf h.pf).at (cU (.agg _ (bM _))) (l:=m9) (by omega)
 obtain⟨m11,e11,b11⟩:=(aRx x.Fb).at (cU (.v _)) (l:=m10) (by omega)
 rw[cG Tryz.func210 rfl aMF (by kernel_rfl) rfl]
 simp only[ZG,seval,Bool.false_and,Prod.mk.injEq,aMG,e1,e2,e3,e4,e5,e6,e7,e8,e9,e10,e11];exact⟨_,tU rfl (by simp only[E8,seval]<;>rfl) (by simp only[E8,seval]<;>rfl) (vV _),_,rfl,by omega⟩
def xU (r:AV):Prop:=∃(o:Option (List Int)) (e:Int),r=.eG [ov kI o,.v (.int .i64 e)]
theorem xU.none (e:Int):xU (.eG [.v (.slice none 0 0),.v (.int .i64 e)]):=⟨Option.none,e,rfl⟩
theorem xU.some (l:List Int) (e:Int):xU (.eG [.sl l.length (kI l),.v (.int .i64 e)]):=⟨Option.some l,e,rfl⟩
theorem aRB (a:sG) (V:Option (List Int)) (hV:a.eZ=ov aK V) (nV:((ol V).length:Int)≤1000) (h1:Rg a.slot) (h2:Rg a.target.aE):∃r,aB Tryz.prog 211 [.agg (iD a)]=some r∧xU r:=by
 have LS:=kx (c40 V (by omega) 1024) (bE (bX V) (.v _)) (.v _)
 obtain⟨e,he⟩:∃e,BY (ol V) 1024=e:=⟨_,rfl⟩
 rw[he] at LS;obtain⟨m1,e1,b1⟩:=(G1 a.slot h1).at (cU (.v _))
 obtain⟨m2,e2,b2⟩:=(HU a.root).at (cU (qU _)) (l:=m1) (by omega)
 obtain⟨m3,e3,b3⟩:=(V7 a.target h2).at (cU (.agg _ (bM _))) (l:=m2) (by omega)
 obtain⟨m4,e4,b4⟩:=(aG3 V nV).at (cU (bX V)) (l:=m3) (by omega)
 rw[cG Tryz.func211 rfl aMH (by kernel_rfl) rfl]
 by_cases g:e=0
 ·simp only[ZG,seval,Bool.false_and,Prod.mk.injEq,aFK,hV,LS,bt g,e1,e2,e3,e4,Bm,Bn,Ho,Hp];exact⟨_,dN rfl rfl rfl (by simp only[E8,seval,Dl]<;>rfl) (by simp only[E8,seval,Dl]<;>rfl),xU.some _ _⟩
 ·simp only[ZG,seval,Bool.false_and,Prod.mk.injEq,aFK,hV,LS,bf g];exact⟨_,dN rfl rfl rfl (by simp only[E8,seval]<;>rfl) (by simp only[E8,seval]<;>rfl),xU.none _⟩
theorem aRC (a:fY) (h1:wY a.first) (h2:wY a.second) (r1:Rg a.first.source) (r2:Rg a.first.target) (r3:Rg a.second.source) (r4:Rg a.second.target):∃r,aB Tryz.prog 212 [.agg (cD a)]=some r∧xU r:=by
 obtain⟨V,hV,nV⟩:=id h1
 obtain⟨W,hW,nW⟩:=id h2
 have kV:=kx (c40 V (by omega) 1024) (bE (bX V) (.v _)) (.v _)
 have kW:=kx (c40 W (by omega) 1024) (bE (bX W) (.v _)) (.v _)
 obtain⟨ev,CA⟩:∃e,BY (ol V) 1024=e:=⟨_,rfl⟩
 obtain⟨ew,hew⟩:∃e,BY (ol W) 1024=e:=⟨_,rfl⟩
 rw[CA] at kV;rw[hew] at kW;obtain⟨m1,e1,b1⟩:=(aRz a.first V hV nV r1 r2).at (cU h1.fl)
 obtain⟨m2,e2,b2⟩:=(aRy a.second W hW nW r3 r4).at (cU h2.fl) (l:=m1) (by omega)
 rw[cL Tryz.func212 rfl aMI rfl];by_cases g1:ev=0
 case neg =>
  simp only[Z8,seval,hV,hW,kV,bf g1];exact⟨_,dN rfl rfl rfl (by simp only[E8,seval]<;>rfl) (by simp only[E8,seval]<;>rfl),xU.none _⟩
 by_cases g2:ew=0
 case neg =>
  simp only[Z8,seval,hV,hW,kV,kW,bt g1,bf g2];exact⟨_,dN rfl rfl rfl (by simp only[E8,seval]<;>rfl) (by simp only[E8,seval]<;>rfl),xU.none _⟩
 simp only[Z8,seval,hV,hW,kV,kW,bt g1,bt g2,e1,e2];exact⟨_,dN rfl rfl rfl (by simp only[E8,seval,Dl]<;>rfl) (by simp only[E8,seval,Dl]<;>rfl),xU.some _ _⟩
theorem aRD (t:Table) (b:Option (List Int)) (hb:t.iP=ov bK b) (nb:((ol b).length:Int)≤1000) (rb:∀y∈ol b,Rg y) (rt:Rg t.ck.aE):∃r,aB Tryz.prog 213 [.agg (cA t)]=some r∧xU r:=by
 have hfT:Flat (.agg (cA t)):=(iG t).2 (by rw[hb];exact dY b)
 obtain⟨m1,e1,b1⟩:=(G1 t.ck.aE rt).at (cU (.v _))
 obtain⟨m2,e2,b2⟩:=(HU t.ck.root).at (cU (qU _)) (l:=m1) (by omega)
 obtain⟨m3,e3,b3⟩:=(Yl _ (hU ((ol b).length:Int))).at (cU (.v _)) (l:=m2) (by omega)
 rw[cG Tryz.func213 rfl aMJ (by kernel_rfl) rfl]
 have g1:¬(1024:Int)<((ol b).length:Int):=by omega
 simp only[ZG,seval,Bool.false_and,Prod.mk.injEq,NR,hb,g1,e1,e2,e3,Bm,Bn,Ho,Hp];refine jH (fun m st=>∃(k:Nat) (p:List Int) (a g:Nat),(st.env 1=.ptr 1 0 0∧st.heap 1 0=some (.cells (cA t))∧st.env 4=.own a g∧st.heap a g=some (.row 5 1 p.length (kI p))∧st.env 5=.v (.int .i64 k))∧((a=22∧g=0)∨(a=36∧g<st.aT 36))∧(p.length:Int)≤100+10 * k∧k≤(ol b).length∧m=(ol b).length-k)
  (fun e st=>e=.exit 0∧∃(p:List Int) (a g:Nat),st.env 4=.own a g∧st.heap a g=some (.row 5 1 p.length (kI p))) (ol b).length ?step ?start ?rest
 case step =>
  rintro m st ⟨k,p,a,g,hI,HT,hp,hk,hm⟩
  by_cases aY:(k:Int)<(ol b).length
  ·have q0:(0:Int)≤k:=by omega
   have hw:IntKind.i64.wrap ((k:Int)+1)=((k+1:Nat):Int):=by rw[mT _ (by omega) (by omega)];omega
   obtain⟨p',e4,b4⟩:=(Yl _ (rb _ (oO (z:=(0:Int)) q0 aY))).at (cU (.v _)) (l:=p) (by omega)
   rcases HT with ⟨rfl,rfl⟩|⟨rfl,hg⟩
   ·apply Au ((ol b).length-(k+1))
    ·simp only[ZG,seval,Bool.false_and,Prod.mk.injEq,NR,hI,aY,q0,hb,e4,hw];rfl
    ·exact⟨k+1,p',36,_,⟨by simp only[E8,seval,hI],by simp only[E8,seval,hI],by simp only[E8,seval]<;>rfl,by simp only[E8,seval]<;>rfl,by simp only[E8,seval]⟩,.inr ⟨rfl,by simp only[E8,seval]<;>omega⟩,by omega,by omega,rfl⟩
   ·have vC:(g=st.aT 36)=False:=eq_false (by omega)
    apply Au ((ol b).length-(k+1))
    ·simp only[ZG,seval,Bool.false_and,Prod.mk.injEq,NR,hI,vC,aY,q0,hb,e4,hw];rfl
    ·exact⟨k+1,p',36,_,⟨by simp only[E8,seval,hI],by simp only[E8,seval,hI],by simp only[E8,seval]<;>rfl,by simp only[E8,seval]<;>rfl,by simp only[E8,seval]⟩,.inr ⟨rfl,by simp only[E8,seval]<;>omega⟩,by omega,by omega,rfl⟩
  ·apply BZ (.exit 0)
   ·simp only[ZG,seval,Bool.false_and,Prod.mk.injEq,NR,hI,aY,hb];rfl
   ·exact⟨rfl,p,a,g,by simp only[E8,seval,hI],by simp only[E8,seval,hI]⟩
 case start=>exact⟨0,m3,22,0,by and_intros<;>(simp only[E8,seval]<;>rfl),.inl ⟨rfl,rfl⟩,by omega,by omega,by omega⟩
 case rest =>
  rintro e st ⟨rfl,p,a,g,h4,hh⟩
  simp only[ZG,seval,Bool.false_and,Prod.mk.injEq,NR,h4,hh];exact⟨_,dN rfl rfl rfl (by simp only[E8,seval,h4,hh,Dl]<;>rfl) (by simp only[E8,seval,h4,hh,Dl]<;>rfl),xU.some _ _⟩
theorem aRE (v:gV) (h:Rg v.tagged.tag):∃r,aB Tryz.prog 214 [.agg (dL v)]=some r∧xU r:=by
 obtain⟨m1,e1,b1⟩:=(G1 v.tagged.tag h).at (cU (.v _))
 obtain⟨m2,e2,b2⟩:=(Yl _ (hU v.kind)).at (cU (.v _)) (l:=m1) (by omega)
 obtain⟨m3,e3,b3⟩:=(HU v.eB).at (cU (qU _)) (l:=m2) (by omega)
 rw[cG Tryz.func214 rfl aMK (by kernel_rfl) rfl]
 by_cases g1:v.kind<1
 ·simp only[ZG,seval,Bool.false_and,Prod.mk.injEq,W3,g1];exact⟨_,dN rfl rfl rfl (by simp only[E8,seval]<;>rfl) (by simp only[E8,seval]<;>rfl),xU.none _⟩
 by_cases g2:4<v.kind
 ·simp only[ZG,seval,Bool.false_and,Prod.mk.injEq,W3,g1,g2];exact⟨_,dN rfl rfl rfl (by simp only[E8,seval]<;>rfl) (by simp only[E8,seval]<;>rfl),xU.none _⟩
 simp only[ZG,seval,Bool.false_and,Prod.mk.injEq,W3,g1,g2,e1,e2,e3];exact⟨_,dN rfl rfl rfl (by simp only[E8,seval,Dl]<;>rfl) (by simp only[E8,seval,Dl]<;>rfl),xU.some _ _⟩
theorem aRF (x:xM) (h:pK x):∃r,aB Tryz.prog 200 [.agg (lA x)]=some r∧xU r:=by
 have pJ:=h.fl
 obtain⟨V,hV,nV⟩:=h.Gp
 obtain⟨b,hb,nb,rb⟩:=h.VK
 obtain⟨m1,e1,b1⟩:=(aRA x.block h.rb).at (cU (qL _))
 obtain⟨r2,e2,o2,f2,rfl⟩:=aRB x.Gp V hV nV h.ra.1 h.ra.2
 obtain⟨r3,e3,o3,f3,rfl⟩:=aRC x.pB h.c1 h.c2 h.rs.1 h.rs.2.1 h.rs.2.2.1 h.rs.2.2.2
 obtain⟨r4,e4,o4,f4,rfl⟩:=aRD x.table b hb nb rb h.rt
 obtain⟨r5,e5,o5,f5,rfl⟩:=aRE x.verdict h.rv
 have k2:=kx e2 (cU ((zP _).2 pJ.1)) (.eG _ (bE (yW _) (.v _)))
 have k3:=kx e3 (cU ((nC _).2 ⟨pJ.2.1,pJ.2.2.1⟩)) (.eG _ (bE (yW _) (.v _)))
 have k4:=kx e4 (cU ((iG _).2 pJ.2.2.2)) (.eG _ (bE (yW _) (.v _)))
 have k5:=kx e5 (cU (.agg _ (jR _))) (.eG _ (bE (yW _) (.v _)))
 obtain⟨m6,e6,b6⟩:=(G1 _ (hU x.write)).at (cU (.v _))
 obtain⟨m7,e7,b7⟩:=(Yl _ (hU x.qR)).at (cU (.v _)) (l:=m6) (by omega)
 rw[cL Tryz.func200 rfl aML rfl];by_cases g2:x.kind=2
 ·simp only[Z8,seval,bt g2,e1];exact⟨_,dN rfl rfl rfl (by simp only[E8,seval,Dl]<;>rfl) (by simp only[E8,seval,Dl]<;>rfl),xU.some _ _⟩
 by_cases g3:x.kind=3
 ·simp only[Z8,seval,bf g2,bt g3,k2,dE];exact⟨_,dN rfl rfl rfl (by simp only[E8,seval,rR]<;>rfl) (by simp only[E8,seval,rR]<;>rfl),_,_,rfl⟩
 by_cases g4:x.kind=4
 ·simp only[Z8,seval,bf g2,bf g3,bt g4,k3,dE];exact⟨_,dN rfl rfl rfl (by simp only[E8,seval,rR]<;>rfl) (by simp only[E8,seval,rR]<;>rfl),_,_,rfl⟩
 by_cases g5:x.kind=5
 ·simp only[Z8,seval,bf g2,bf g3,bf g4,bt g5,k4,dE];exact⟨_,dN rfl rfl rfl (by simp only[E8,seval,rR]<;>rfl) (by simp only[E8,seval,rR]<;>rfl),_,_,rfl⟩
 by_cases g6:x.kind=6
 ·simp only[Z8,seval,bf g2,bf g3,bf g4,bf g5,bt g6,k5,dE];exact⟨_,dN rfl rfl rfl (by simp only[E8,seval,rR]<;>rfl) (by simp only[E8,seval,rR]<;>rfl),_,_,rfl⟩
 by_cases g8:x.kind=8
 case neg =>
  simp only[Z8,seval,bf g2,bf g3,bf g4,bf g5,bf g6,bf g8];exact⟨_,dN rfl rfl rfl (by simp only[E8,seval]<;>rfl) (by simp only[E8,seval]<;>rfl),xU.none _⟩
 by_cases w1:x.write<0
 ·simp only[Z8,seval,bf g2,bf g3,bf g4,bf g5,bf g6,bt g8,w1];exact⟨_,dN rfl rfl rfl (by simp only[E8,seval]<;>rfl) (by simp only[E8,seval]<;>rfl),xU.none _⟩
 by_cases w2:32768<x.write
 ·simp only[Z8,seval,bf g2,bf g3,bf g4,bf g5,bf g6,bt g8,w1,w2];exact⟨_,dN rfl rfl rfl (by simp only[E8,seval]<;>rfl) (by simp only[E8,seval]<;>rfl),xU.none _⟩
 by_cases w3:x.qR<0
 ·simp only[Z8,seval,bf g2,bf g3,bf g4,bf g5,bf g6,bt g8,w1,w2,w3];exact⟨_,dN rfl rfl rfl (by simp only[E8,seval]<;>rfl) (by simp only[E8,seval]<;>rfl),xU.none _⟩
 by_cases w4:32768<x.qR
 ·simp only[Z8,seval,bf g2,bf g3,bf g4,bf g5,bf g6,bt g8,w1,w2,w3,w4];exact⟨_,dN rfl rfl rfl (by simp only[E8,seval]<;>rfl) (by simp only[E8,seval]<;>rfl),xU.none _⟩
 simp only[Z8,seval,bf g2,bf g3,bf g4,bf g5,bf g6,bt g8,w1,w2,w3,w4,e6,e7];exact⟨_,dN rfl rfl rfl (by simp only[E8,seval,Dl]<;>rfl) (by simp only[E8,seval,Dl]<;>rfl),xU.some _ _⟩
end Go.Ab.Tryz
