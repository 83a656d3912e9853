/-
  Part 13 of the proof: an evaluator of programs, its soundness, and what functions of this program compute.
-/
import Derived.Test.YtmcjkemalibacaaGreatK12
import Derived.Test.YtmcjkemalibacaaGreatK9
import Derived.Test.YtmcjkemalibacaaGreatK11
set_option linter.all false
set_option maxRecDepth 20000
set_option maxHeartbeats 40000000
namespace Go.Ab.Tryz
open Classical Go.Proofs Go.Ab
theorem aQO {s:aM} {v:SV} {q:Int} (h:GI s v q):∃x,aB Tryz.prog 223 [.agg (aA s)]=some x∧∃m:List Int,x=.uniq 23 1 m.length (bI m)∧m.length=v.ns.length:=by
 have hf:=h.sd.flat
 have hn:=h.sd.nn
 obtain⟨r1,e1,o,rfl,ho⟩:=aQD h.sd
 have k239:=kx e1 (cV hf) (dV o)
 obtain⟨r2,e2,a,c,rfl,_⟩:=aKT o ho
 have H0:=kx e2 (cV (dV o)) (.eG _ (bF (.v _) (.v _)))
 have hcb:Flat s.cFg.iP:=h.sd.fl.1
 obtain⟨r3,e3,a3,c3,rfl⟩:=aQG s.cFg hcb a
 have k240:=kx e3 (bF ((zH _).2 hcb) (.v _)) (.eG _ (bF (.v _) (.v _)))
 obtain⟨r4,e4,m1,rfl,hm1⟩:=aQM v.ns hn h.pos s.gH v.L v.Q h.sd.dU h.sd.gN h.sd.nL h.sd.nQ o ho
 have hfv:Flat (.agg (eZ s.gH)):=(Px _).2 ⟨h.sd.fl.2.1,h.sd.fl.2.2.1⟩
 have k241:∀(st:St),aO (aB Tryz.prog) 241 [.agg (cO ⟨v.ns⟩),.agg (eZ s.gH),ov bI o] st (some 28)=_:=fun st=>jG (st:=st) (d:=28) (mE (mD _) hfv (dV o)) e4
 obtain⟨r5,e5,m2,rfl,hm2⟩:=aQL v.ns hn m1 hm1 s.eE a3
 have k243:∀(st:St) (g:Nat),st.heap 28 g=some (.row 23 1 m1.length (bI m1))→aO (aB Tryz.prog) 243 [.agg (cO ⟨v.ns⟩),.own 28 g,.agg (bD s.eE),.v (.int .u64 a3)] st (some 37)=some { dst:=some 37,val:=.own 37 (st.aU 37),new:=some (37,[.row 23 1 m2.length (bI m2)])}:=by
  intro st g hh;rw[jV,List.map_cons,List.map_cons,List.map_cons,List.map_cons,List.map_nil,Km,vS,hh,uN,Tj,Nk,bM,bM,bM,bM,fY];exact W0 e5 (GJ m2)
 obtain⟨r6,e6,m3,rfl,hm3⟩:=aQN v.ns h.up hn h.pos m2 hm2
 have k242:∀(st:St) (g:Nat),st.heap 37 g=some (.row 23 1 m2.length (bI m2))→aO (aB Tryz.prog) 242 [.agg (cO ⟨v.ns⟩),.own 37 g] st (some 38)=some { dst:=some 38,val:=.own 38 (st.aU 38),new:=some (38,[.row 23 1 m3.length (bI m3)])}:=by
  intro st g hh;rw[jV,List.map_cons,List.map_cons,List.map_nil,Km,vS,hh,uN,bM,bM,fY];exact W0 e6 (GJ m3)
 rw[cL Tryz.func223 rfl aLt rfl];simp only[Z8,seval,k239,H0,dN,k240,h.sd.tree,k241,k243,k242];exact⟨_,tV rfl (by simp only[E8,seval]<;>rfl) (by simp only[E8,seval]<;>rfl) (gZ _),m3,rfl,hm3⟩
noncomputable def DZ (s:aM) (v:SV) (i:Int):dQ:=if 0≤i∧i<v.ns.length then (if yD s (nd v.ns i).block.slot<yD s s.now then (nd v.ns i).block.dW.pj else (nd v.ns i).block.gI) else gP
theorem aQP {s:aM} {v:SV} (hs:SD s v) (hp:s.cFg.jH≠0) (i:Int):aB Tryz.prog 252 [.agg (aA s),.v (.int .i64 i)]=some (.agg (bB (DZ s v i))):=by
 have hf:=hs.flat
 rw[cL Tryz.func252 rfl aLu rfl];refine iT ?_
 by_cases g1:0≤i
 case neg =>
  have hv:DZ s v i=gP:=if_neg (fun h=>g1 h.1)
  simp only[Z8,seval,Zn hs,g1,Bool.false_and];exact⟨_,fL rfl (by simp only[E8,seval]<;>rfl) (by simp only[Z8,seval]<;>rfl) (by simp only[eC,and_self]),by rw[hv]⟩
 by_cases g2:i<(v.ns.length:Int)
 case neg =>
  have hv:DZ s v i=gP:=if_neg (fun h=>g2 h.2)
  simp only[Z8,seval,Zn hs,g1,g2,Bool.and_false];exact⟨_,fL rfl (by simp only[E8,seval]<;>rfl) (by simp only[Z8,seval]<;>rfl) (by simp only[eC,and_self]),by rw[hv]⟩
 by_cases g3:yD s (nd v.ns i).block.slot<yD s s.now
 ·have hv:DZ s v i=(nd v.ns i).block.dW.pj:=by unfold DZ;rw[if_pos ⟨g1,g2⟩,if_pos g3]
  simp only[Z8,seval,Zn hs,g1,g2,hs.tree,Pc s hp hf,g3];exact⟨_,fL rfl (by simp only[E8,seval]<;>rfl) (by simp only[Z8,seval]<;>rfl) (by simp only[eC,and_self]),by rw[hv]⟩
 ·have hv:DZ s v i=(nd v.ns i).block.gI:=by unfold DZ;rw[if_pos ⟨g1,g2⟩,if_neg g3]
  simp only[Z8,seval,Zn hs,g1,g2,hs.tree,Pc s hp hf,g3];exact⟨_,fL rfl (by simp only[E8,seval]<;>rfl) (by simp only[Z8,seval]<;>rfl) (by simp only[eC,and_self]),by rw[hv]⟩
theorem aCU {s:aM} {v:SV} (hs:SD s v) (hp:s.cFg.jH≠0) (i:Int) (st:St) (d:Option Nat):aO (aB Tryz.prog) 252 [.agg (aA s),.v (.int .i64 i)] st d=some { dst:=d,val:=.agg (bB (DZ s v i))}:=bG (bF hs.flat (.v _)) (aQP hs hp i) (.agg _ (bR _))
theorem aLv {s:aM} {v:SV} (hs:SD s v) (hp:s.cFg.jH≠0) (i:Int):∃r,aB Tryz.prog 249 [.agg (aA s),.v (.int .i64 i)]=some r∧∃b:Bool,r=.v (.bool b):=by
 have hf:=hs.flat
 rw[cL Tryz.func249 rfl aLw rfl];by_cases g1:0≤i
 case neg =>
  simp only[Z8,seval,Zn hs,g1,Bool.false_and];exact⟨_,bZ rfl (by simp only[E8,seval]<;>rfl) (by first|exact .v _|simp only[eC]),_,rfl⟩
 by_cases g2:i<(v.ns.length:Int)
 case neg =>
  simp only[Z8,seval,Zn hs,g1,g2,Bool.and_false];exact⟨_,bZ rfl (by simp only[E8,seval]<;>rfl) (by first|exact .v _|simp only[eC]),_,rfl⟩
 by_cases g3:(nd v.ns i).status=2
 ·simp only[Z8,seval,Zn hs,g1,g2,hs.tree,bt g3];exact⟨_,bZ rfl (by simp only[E8,seval]<;>rfl) (by first|exact .v _|simp only[eC]),_,rfl⟩
 by_cases g4:s.aL.gI.aG=0
 ·simp only[Z8,seval,Zn hs,g1,g2,hs.tree,bf g3,aCU hs hp,bt g4];exact⟨_,bZ rfl (by simp only[E8,seval]<;>rfl) (by first|exact .v _|simp only[eC]),_,rfl⟩
 by_cases g5:(DZ s v i).aG=s.aL.gI.aG
 ·simp only[Z8,seval,Zn hs,g1,g2,hs.tree,bf g3,aCU hs hp,bf g4,bt g5];exact⟨_,bZ rfl (by simp only[E8,seval]<;>rfl) (by first|exact .v _|simp only[eC]),_,rfl⟩
 by_cases g6:yD s s.now≤(DZ s v i).aG
 ·simp only[Z8,seval,Zn hs,g1,g2,hs.tree,bf g3,aCU hs hp,bf g4,bf g5,Pc s hp hf,g6];exact⟨_,bZ rfl (by simp only[E8,seval]<;>rfl) (by first|exact .v _|simp only[eC]),_,rfl⟩
 ·simp only[Z8,seval,Zn hs,g1,g2,hs.tree,bf g3,aCU hs hp,bf g4,bf g5,Pc s hp hf,g6];exact⟨_,bZ rfl (by simp only[E8,seval]<;>rfl) (by first|exact .v _|simp only[eC]),_,rfl⟩
theorem aGC (ns:List Node) (i x:Int):∀k:Nat,x∈Vq ns i k→(0≤x∧x<k)∧(nd ns x).up=i:=by
 intro k;induction k with
 | zero=>intro h;simp[Vq] at h
 | succ k ih =>
   intro h;unfold Vq at h;split at h
   ·rename_i hc;rcases List.mem_append.1 h with h|h
    ·have:=ih h;omega
    ·have hx:=List.mem_singleton.1 h
     subst hx;exact⟨by omega,hc⟩
   ·have:=ih h;omega
theorem JK {ns:List Node} (hu:gK ns) (hr:(nd ns 0).up=-1) {i x:Int} (h:x∈wZ ns i):i<x∧0≤x∧x<ns.length:=by
 unfold wZ at h;split at h
 ·simp at h
 ·rename_i hi;obtain⟨⟨x0,x1⟩,Pb⟩:=aGC ns i x _ h
  by_cases hx:x=0
  ·subst hx;rw[hr] at Pb;omega
  ·have:=(hu x (by omega) x1).2;omega
theorem aLx {s:aM} {v:SV} (hs:SD s v) (hu:gK v.ns) (hr:(nd v.ns 0).up=-1) (hp:s.cFg.jH≠0):∀(n:Nat) (i:Int),((v.ns.length:Int)-i).toNat≤n→∃b:Bool,aB Tryz.prog 244 [.agg (aA s),.v (.int .i64 i)]=some (.v (.bool b)):=by
 have base:∀(i:Int),wZ v.ns i=[]→∃b:Bool,aB Tryz.prog 244 [.agg (aA s),.v (.int .i64 i)]=some (.v (.bool b)):=by
  intro i hc;obtain⟨r,hr9,b,rfl⟩:=aLv hs hp i
  have W1:=kx hr9 (bF hs.flat (.v _)) (.v _)
  have kc:=fun st d=>aE3 v.ns hu hr hs.nn i hc st d
  suffices h:∃r,aB Tryz.prog 244 [.agg (aA s),.v (.int .i64 i)]=some r∧∃b:Bool,r=.v (.bool b) by
   obtain⟨r,h,b,rfl⟩:=h;exact⟨b,h⟩
  rw[cL Tryz.func244 rfl aFg rfl];cases b
  ·simp only[Z8,seval,W1,hs.tree,kc];refine cI (fun m st=>st.env 5=.v (.slice none 0 0)∧st.env 6=.v (.int .i64 0)∧m=0) (fun e st=>e=.exit 0) 0 ?step ?start ?rest
   case step =>
    rintro m st ⟨h5,h6,_⟩
    apply oT (.exit 0)
    ·simp only[Z8,seval,h5,h6,Int.lt_irrefl];rfl
    ·exact rfl
   case start=>exact⟨by simp only[E8,seval]<;>rfl,by simp only[E8,seval]<;>rfl,rfl⟩
   case rest =>
    rintro e st rfl
    simp only[Z8,seval];exact⟨_,bZ rfl (by simp only[E8,seval]<;>rfl) (by first|exact .v _|simp only[eC]),_,rfl⟩
  ·simp only[Z8,seval,W1];exact⟨_,bZ rfl (by simp only[E8,seval]<;>rfl) (by first|exact .v _|simp only[eC]),_,rfl⟩
 intro n;induction n with
 | zero =>
   intro i hi;exact base i (NV hu hr (by omega))
 | succ n ih =>
   intro i hi;by_cases hc:wZ v.ns i=[]
   ·exact base i hc
   obtain⟨r,hr9,b,rfl⟩:=aLv hs hp i
   have W1:=kx hr9 (bF hs.flat (.v _)) (.v _)
   have kc:=fun st d=>aKl v.ns hu hr hs.nn i hc st d
   have hB:∀x:Int,∃b:Bool,x∈wZ v.ns i→aB Tryz.prog 244 [.agg (aA s),.v (.int .i64 x)]=some (.v (.bool b)):=by
    intro x;by_cases hx:x∈wZ v.ns i
    ·have:=JK hu hr hx
     obtain⟨b,hb⟩:=ih x (by omega)
     exact⟨b,fun _=>hb⟩
    ·exact⟨false,fun h=>absurd h hx⟩
   obtain⟨B,hB⟩:∃B:Int→Bool,∀x,x∈wZ v.ns i→aB Tryz.prog 244 [.agg (aA s),.v (.int .i64 x)]=some (.v (.bool (B x))):=⟨fun x=>Classical.choose (hB x),fun x=>Classical.choose_spec (hB x)⟩
   have hgt:∀x∈wZ v.ns i,i<x∧0≤x∧x<v.ns.length:=fun x hx=>JK hu hr hx
   have hin:((wZ v.ns i).length:Int)<1000000:=by
    have h1:(wZ v.ns i).length≤v.ns.length:=by
     unfold wZ;split
     ·simp
     ·exact Xt v.ns i v.ns.length
    have:=hs.nn;omega
   obtain⟨l,el⟩:∃l,wZ v.ns i=l:=⟨_,rfl⟩
   rw[el] at kc hB hin;suffices h:∃r,aB Tryz.prog 244 [.agg (aA s),.v (.int .i64 i)]=some r∧∃b:Bool,r=.v (.bool b) by
    obtain⟨r,h,b,rfl⟩:=h;exact⟨b,h⟩
   rw[cL Tryz.func244 rfl aFg rfl];cases b
   case true =>
    simp only[Z8,seval,W1];exact⟨_,bZ rfl (by simp only[E8,seval]<;>rfl) (by first|exact .v _|simp only[eC]),_,rfl⟩
   simp only[Z8,seval,W1,hs.tree,kc];refine cI (fun m st=>∃k:Nat,(st.env 2=.ptr 2 0 0∧st.heap 2 0=some (.cells (aA s))∧st.env 5=.own 13 0∧st.heap 13 0=some (.row 3 1 l.length (aK l))∧st.env 6=.v (.int .i64 k))∧(∀j:Nat,j<k→¬(B (it l (j:Int))=true))∧k≤l.length∧m=l.length-k)
    (fun e st=>(e=.ret∧∃k:Nat,k<l.length∧(B (it l (k:Int))=true)∧(∀j:Nat,j<k→¬(B (it l (j:Int))=true))∧st.env 4=.v (.bool true))∨(e=.exit 0∧(∀j:Nat,j<l.length→¬(B (it l (j:Int))=true))∧st.env 2=.ptr 2 0 0∧st.heap 2 0=some (.cells (aA s))∧st.env 5=.own 13 0∧st.heap 13 0=some (.row 3 1 l.length (aK l)))) (l.length) ?step ?start ?rest
   case step =>
    rintro m st ⟨k,hI,hj,hk,hm⟩
    by_cases bA:(k:Int)<l.length
    ·have q0:(0:Int)≤k:=by omega
     have hw:IntKind.i64.wrap ((k:Int)+1)=((k+1:Nat):Int):=by rw[nU _ (by omega) (by omega)];omega
     have gi:=nK q0 bA
     have hm2:it l (k:Int)∈l:=by obtain⟨h1,h2⟩:=yA q0 bA;rw[h2];exact List.getElem_mem h1
     have kb:=kx (hB _ hm2) (bF hs.flat (.v _)) (.v _)
     by_cases hh:B (it l (k:Int))=true
     ·apply oT (.ret)
      ·simp only[Z8,seval,hI,bA,q0,kb,gi,hh];rfl
      ·exact .inl ⟨rfl,k,by omega,hh,hj,by simp only[E8,seval,kb,gi]⟩
     ·have hn:B (it l (k:Int))=false:=by simpa using hh
      apply oN (l.length-(k+1))
      ·simp only[Z8,seval,hI,bA,q0,kb,gi,hn,hw];rfl
      ·exact⟨k+1,by simp only[E8,seval,hI],fun j h=>(Nat.lt_succ_iff_lt_or_eq.1 h).elim (hj j) fun e=>by subst e;exact hh,by omega,rfl⟩
    ·apply oT (.exit 0)
     ·simp only[Z8,seval,hI,bA,bA];rfl
     ·exact .inr ⟨rfl,fun j h=>hj j (by omega),by simp only[E8,seval,hI]⟩
   case start=>exact⟨0,by simp only[E8,seval]<;>rfl,fun j h=>by omega,by omega,by omega⟩
   case rest =>
    rintro e st (⟨rfl,k,hk,hh,hj,h⟩|⟨rfl,hj,hI⟩)
    ·simp only[Z8,seval];exact⟨_,bZ rfl (by simp only[E8,seval,h]<;>rfl) (by first|exact .v _|simp only[eC,h]),_,rfl⟩
    ·simp only[Z8,seval];exact⟨_,bZ rfl (by simp only[E8,seval]<;>rfl) (by first|exact .v _|simp only[eC]),_,rfl⟩
theorem aQS {s:aM} {v:SV} {q:Int} (h:GI s v q):∃x,aB Tryz.prog 224 [.agg (aA s)]=some x∧∃m:List Bool,x=.uniq 4 1 m.length (mX m)∧m.length=v.ns.length:=by
 have hn:=h.sd.nn
 have h0:=h.pos
 obtain⟨B,hB⟩:∃B:Int→Bool,∀x,aB Tryz.prog 244 [.agg (aA s),.v (.int .i64 x)]=some (.v (.bool (B x))):=⟨fun x=>Classical.choose (aLx h.sd h.up h.Xs h.sp _ x (Nat.le_refl _)),fun x=>Classical.choose_spec (aLx h.sd h.up h.Xs h.sp _ x (Nat.le_refl _))⟩
 have kb:∀(x:Int) (st:St) (d:Option Nat),aO (aB Tryz.prog) 244 [.agg (aA s),.v (.int .i64 x)] st d=some { dst:=d,val:=.v (.bool (B x))}:=fun x=>kx (hB x) (bF h.sd.flat (.v _)) (.v _)
 rw[cL Tryz.func224 rfl aLy rfl];simp only[Z8,seval];refine cI (fun m st=>∃k:Nat,(st.env 1=.ptr 1 0 0∧st.heap 1 0=some (.cells (aA s))∧st.env 4=.v (.int .i64 k))∧((k=0∧st.env 3=.v (.slice none 0 0))∨∃(l:List Bool) (g:Nat),st.env 3=.own 18 g∧g<st.aU 18∧st.heap 18 g=some (.row 4 1 l.length (mX l))∧l.length=k)∧k≤v.ns.length∧m=v.ns.length-k)
  (fun e st=>e=.exit 0∧∃(l:List Bool) (g:Nat),st.env 3=.own 18 g∧st.heap 18 g=some (.row 4 1 l.length (mX l))∧l.length=v.ns.length) v.ns.length ?step ?start ?rest
 case step =>
  rintro m st ⟨k,hI,h5,hk,hm⟩
  by_cases bA:(k:Int)<v.ns.length
  ·have q0:(0:Int)≤k:=by omega
   have hw:IntKind.i64.wrap ((k:Int)+1)=((k+1:Nat):Int):=by rw[nU _ (by omega) (by omega)];omega
   rcases h5 with ⟨rG,h5⟩|⟨l',g,h5,hg,Bh,Hv⟩
   ·apply oN (v.ns.length-(k+1))
    ·simp only[Z8,seval,hI,h5,bA,q0,h.sd.tree,kb,hw];rfl
    ·exact⟨k+1,by simp only[E8,seval,hI],.inr ⟨[B k],st.aU 18,by simp only[E8,seval]<;>rfl,by simp only[E8,seval]<;>omega,by simp only[E8,seval]<;>rfl,by simp;omega⟩,by omega,rfl⟩
   ·have nl:(l'.length:Int)<1000000:=by omega
    apply oN (v.ns.length-(k+1))
    ·simp only[Z8,seval,hI,h5,Bh,bA,q0,h.sd.tree,kb,hw,OU _ _ _ _ nl];rfl
    ·exact⟨k+1,by simp only[E8,seval,hI],.inr ⟨l'++[B k],st.aU 18,by simp only[E8,seval]<;>rfl,by simp only[E8,seval]<;>omega,by simp only[E8,seval]<;>rfl,by rw[List.length_append];simp;omega⟩,by omega,rfl⟩
  ·have Bu:k=v.ns.length:=by omega
   rcases h5 with ⟨rG,h5⟩|⟨l,g,h5,hg,Bh,hl⟩
   ·omega
   ·apply oT (.exit 0)
    ·simp only[Z8,seval,hI,bA,h.sd.tree];rfl
    ·exact⟨rfl,l,g,by simp only[E8,seval,h5],by simp only[E8,seval,Bh],by omega⟩
 case start=>exact⟨0,by simp only[E8,seval]<;>rfl,.inl ⟨rfl,by simp only[E8,seval]⟩,by omega,by omega⟩
 case rest =>
  rintro e st ⟨rfl,l,g,h5,Bh,hl⟩
  simp only[Z8,seval,h5];exact⟨_,tV rfl (by simp only[E8,seval,h5]<;>rfl) (by simp only[E8,seval,Bh]<;>rfl) (Vs _),l,rfl,hl⟩
theorem vT {x:AV} (h:Flat x):jF x=[]:=by
 have one:∀c,Flat c→gQ c=[]:=fun c hc=>by cases hc<;>rfl
 cases h with
 | agg cs h =>
   simp only[jF];rw[List.flatMap_eq_nil_iff];exact fun c hc=>one c (h c hc)
 | _=>rfl
theorem WM {args:List AV} (h:∀x∈args,Flat x):args.flatMap jF=[]:=List.flatMap_eq_nil_iff.2 fun x hx=>vT (h x hx)
theorem OV {call:Nat→List AV→Option AV} {g:Nat} {args:List AV} {st:St} {d:Option Nat} (h:∀x∈args,Flat x):fG call g args st d=aO call g args st d:=by
 unfold fG;rw[WM h]
theorem Iw {call:Nat→List AV→Option AV} {g:Nat} {args:List AV} {r:AV} {st:St} {d:Option Nat} (hf:∀x∈args,Flat x) (h:call g args=some r) (hr:Flat r):fG call g args st d=some { dst:=d,val:=r }:=by
 rw[OV hf];exact bG hf h hr
noncomputable def Nm (call:Nat→List AV→Option AV) (g:Nat) (xs:Option (List AV)) (s k:Nat) (st:St) (d:Option Nat):Option rX :=
 cT xs fun xs=>cT (call g xs) fun r=>Ft r st d s k
theorem Qj {call:Nat→List AV→Option AV} {g:Nat} {args:List AV} {st:St} {d:Option Nat} {s k:Nat} (hk:args.flatMap jF=[(s,k)]) (he:∀x∈args,l7 x):fG call g args st d=Nm call g (cM (args.map (fP st))) s k st d:=by
 unfold fG Nm;rw[hk];simp only
 rw[if_pos he];cases cM (args.map (fP st))<;>rfl
theorem OW {call:Nat→List AV→Option AV} {g:Nat} {xs:List AV} {r:AV} {s k:Nat} {st:St} {d:Option Nat} (h:call g xs=some r) (hr:Flat r):Nm call g (some xs) s k st d=some { dst:=d,val:=r,dS:=some (s,k,none)}:=by
 unfold Nm Ft;simp only[cF,h,if_pos hr]
theorem aCV {call:Nat→List AV→Option AV} {g:Nat} {xs:List AV} {e sz n:Nat} {cs:List AV} {s k:Nat} {st:St} {d:Nat} (h:call g xs=some (.uniq e sz n cs)) (hm:∀c∈cs,iD c):Nm call g (some xs) s k st (some d)=some { dst:=some d,val:=.own d (st.aU d),dS:=some (s,k,none),new:=some (d,[.row e sz n cs])}:=by
 have hnf:¬Flat (.uniq e sz n cs):=by intro h;cases h
 unfold Nm Ft;simp only[cF,h,if_neg hnf,if_pos hm]
theorem W3 {call:Nat→List AV→Option AV} {g:Nat} {args:List AV} {e sz n:Nat} {cs:List AV} {st:St} {d:Nat} (hf:∀x∈args,Flat x) (h:call g args=some (.uniq e sz n cs)):fG call g args st (some d)=some { dst:=some d,val:=.own d (st.aU d),new:=some (d,[.row e sz n cs])}:=by
 have hnf:¬Flat (.uniq e sz n cs):=by intro h;cases h
 rw[OV hf];unfold aO;rw[if_pos hf,h];simp only[cF];unfold jD;rw[if_neg hnf];rfl
theorem Tk {st:St} {a g:Nat} {L:List Int} (hh:st.heap a g=some (.row 3 1 L.length (aK L))):fP st (.own a g)=some (ov aK (some L)):=by
 rw[vS,hh];exact jY L.length L
theorem aLz (o:Option (List Int)) (hn:((ol o).length:Int)<999999) (x:Int) :
 ((∀(st:St) (d:Nat),fG (aB Tryz.prog) 235 [ov aK o,.v (.int .i64 x)] st (some d)=some { dst:=some d,val:=ov aK o }) ∧
  ∀(st:St) (d a g:Nat) (L:List Int),o=some L→st.heap a g=some (.row 3 1 L.length (aK L))→fG (aB Tryz.prog) 235 [.own a g,.v (.int .i64 x)] st (some d)=some { dst:=some d,val:=ov aK (some L),dS:=some (a,g,none)}) ∨
 ∃M:List Int,M.length=(ol o).length+1∧(∀(st:St) (d:Nat),fG (aB Tryz.prog) 235 [ov aK o,.v (.int .i64 x)] st (some d)=some { dst:=some d,val:=.own d (st.aU d),new:=some (d,[.row 3 1 M.length (aK M)])}) ∧
  ∀(st:St) (d a g:Nat) (L:List Int),o=some L→st.heap a g=some (.row 3 1 L.length (aK L))→fG (aB Tryz.prog) 235 [.own a g,.v (.int .i64 x)] st (some d)=some { dst:=some d,val:=.own d (st.aU d),dS:=some (a,g,none),new:=some (d,[.row 3 1 M.length (aK M)])}:=by
 have one:∀(st:St) (d a g:Nat) (L:List Int),o=some L→st.heap a g=some (.row 3 1 L.length (aK L))→fG (aB Tryz.prog) 235 [.own a g,.v (.int .i64 x)] st (some d)=Nm (aB Tryz.prog) 235 (some [ov aK o,.v (.int .i64 x)]) a g st (some d):=by
  rintro st d a g L rfl hh
  rw[Qj (s:=a) (k:=g) rfl (by intro y hy;simp only[List.mem_cons,List.not_mem_nil,or_false] at hy;rcases hy with rfl|rfl;exact .inr (.inl ⟨a,g,rfl⟩);exact .inl (.v _)),
   List.map_cons,List.map_cons,List.map_nil,Tk hh,Nk,bM,bM,fY]
  rfl
 obtain⟨r,hr,h⟩:=aQI o hn x
 rcases h with rfl|⟨M,rfl,hM⟩
 ·refine .inl ⟨fun st d=>Iw (bF (bX o) (.v _)) hr (bX o),fun st d a g L ho hh=>?_⟩
  rw[one st d a g L ho hh];subst ho;exact OW hr (bX _)
 ·refine .inr ⟨M,hM,fun st d=>W3 (bF (bX o) (.v _)) hr,fun st d a g L ho hh=>?_⟩
  rw[one st d a g L ho hh];exact aCV hr (I1 M)
theorem aLA (x:gB) (V W:Option (List Int)) (hV:x.first.fB=ov aK V) (hW:x.second.fB=ov aK W) (nV:((ol V).length:Int)<99999) (nW:((ol W).length:Int)<99999) :
 ∃r,aB Tryz.prog 221 [.agg (cD x)]=some r∧∃o:Option (List Int),((ol o).length:Int)≤(ol V).length∧(r=ov aK o∨∃L,o=some L∧r=.uniq 3 1 L.length (aK L)):=by
 have f1:Flat x.first.fB:=by rw[hV];exact bX V
 have f2:Flat x.second.fB:=by rw[hW];exact bX W
 rw[cL Tryz.func221 rfl aLB rfl];simp only[Z8,seval];refine cI (fun m st=>∃k:Nat,(st.env 1=.ptr 1 0 0∧st.heap 1 0=some (.cells (cD x))∧st.env 4=.v (.int .i64 k))∧(∃o:Option (List Int),(ol o).length≤k∧(st.env 3=ov aK o∨∃g L,o=some L∧st.env 3=.own 30 g∧g<st.aU 30∧st.heap 30 g=some (.row 3 1 L.length (aK L))))∧k≤(ol V).length∧m=(ol V).length-k)
  (fun e st=>e=.exit 0∧∃o:Option (List Int),(ol o).length≤(ol V).length∧(st.env 3=ov aK o∨∃g L,o=some L∧st.env 3=.own 30 g∧st.heap 30 g=some (.row 3 1 L.length (aK L)))) (ol V).length ?step ?start ?rest
 case step =>
  rintro m st ⟨k,hI,⟨o,ho,h3⟩,hk,hm⟩
  by_cases bA:(k:Int)<(ol V).length
  ·have q0:(0:Int)≤k:=by omega
   have hw:IntKind.i64.wrap ((k:Int)+1)=((k+1:Nat):Int):=by rw[nU _ (by omega) (by omega)];omega
   have W4:=aGA W (by omega) (gx (0:Int) (ol V) (k:Int))
   by_cases h1:gx (0:Int) (ol V) (k:Int)∈ol W
   ·have GG:=eq_true h1
    rcases aLz o (by omega) (gx (0:Int) (ol V) (k:Int)) with ⟨ea,eb⟩|⟨M,hM,ea,eb⟩
    ·rcases h3 with h3|⟨g,L,hL,h3,hg,hh⟩
     ·apply oN ((ol V).length-(k+1))
      ·simp only[Z8,seval,hI,h3,bA,q0,hV,hW,W4,GG,ea,hw];rfl
      ·exact⟨k+1,by simp only[E8,seval,hI],⟨o,by omega,.inl (by simp only[E8,seval])⟩,by omega,rfl⟩
     ·have W5:=fun st d a g=>eb st d a g L hL
      have ho':(ol (some L)).length≤k:=by rw[← hL];exact ho
      apply oN ((ol V).length-(k+1))
      ·simp only[Z8,seval,hI,h3,hh,bA,q0,hV,hW,W4,GG,W5,hw];rfl
      ·exact⟨k+1,by simp only[E8,seval,hI],⟨some L,by omega,.inl (by simp only[E8,seval])⟩,by omega,rfl⟩
    ·rcases h3 with h3|⟨g,L,hL,h3,hg,hh⟩
     ·apply oN ((ol V).length-(k+1))
      ·simp only[Z8,seval,hI,h3,bA,q0,hV,hW,W4,GG,ea,hw];rfl
      ·exact⟨k+1,by simp only[E8,seval,hI],⟨some M,by show M.length≤_;omega,.inr ⟨_,M,rfl,by simp only[E8,seval]<;>rfl,by simp only[E8,seval]<;>omega,by simp only[E8,seval]<;>rfl⟩⟩,by omega,rfl⟩
     ·have W5:=fun st d a g=>eb st d a g L hL
      have vA:(g=st.aU 30)=False:=eq_false (by omega)
      apply oN ((ol V).length-(k+1))
      ·simp only[Z8,seval,hI,h3,hh,vA,bA,q0,hV,hW,W4,GG,W5,hw];rfl
      ·exact⟨k+1,by simp only[E8,seval,hI],⟨some M,by show M.length≤_;omega,.inr ⟨_,M,rfl,by simp only[E8,seval]<;>rfl,by simp only[E8,seval]<;>omega,by simp only[E8,seval]<;>rfl⟩⟩,by omega,rfl⟩
   ·have GG:=eq_false h1
    have h3':st.env 3=ov aK o∨∃g L,o=some L∧st.env 3=.own 30 g∧g<st.aU 30∧st.heap 30 g=some (.row 3 1 L.length (aK L)):=h3
    apply oN ((ol V).length-(k+1))
    ·simp only[Z8,seval,hI,bA,q0,hV,hW,W4,GG,hw];rfl
    ·exact⟨k+1,by simp only[E8,seval,hI],⟨o,by omega,by simpa only[E8,seval] using h3'⟩,by omega,rfl⟩
  ·have h3':st.env 3=ov aK o∨∃g L,o=some L∧st.env 3=.own 30 g∧st.heap 30 g=some (.row 3 1 L.length (aK L)):=h3.imp id fun ⟨g,L,a,b,_,c⟩=>⟨g,L,a,b,c⟩
   apply oT (.exit 0)
   ·simp only[Z8,seval,hI,bA,hV];rfl
   ·exact⟨rfl,o,by omega,by simpa only[E8,seval] using h3'⟩
 case start=>exact⟨0,by simp only[E8,seval]<;>rfl,⟨none,by simp[ol],.inl (by simp only[E8,seval]<;>rfl)⟩,by omega,by omega⟩
 case rest =>
  rintro e st ⟨rfl,o,ho,h3⟩
  rcases h3 with h3|⟨g,L,hL,h3,hh⟩
  ·simp only[Z8,seval,h3];exact⟨_,bZ rfl (by simp only[E8,seval,h3]<;>rfl) (bX o),o,by omega,.inl rfl⟩
  ·simp only[Z8,seval,h3];exact⟨_,tV rfl (by simp only[E8,seval,h3]<;>rfl) (by simp only[E8,seval,hh]<;>rfl) (fV _),o,by omega,.inr ⟨L,hL,rfl⟩⟩
theorem aLC {o:Option (List Int)} {L:List Int} (h:(ol o).length≤L.length):IntKind.i64.wrap ((L.length:Int)-((ol o).length:Int))≠0→L≠[]:=by
 rintro hn rfl
 have h0:(ol o).length=0:=by simpa using h
 rw[h0] at hn;exact hn (by decide)
theorem aQT (o V:Option (List Int)) (no:((ol o).length:Int)<900000) (nV:((ol V).length:Int)<99999) :
 ∃r,aB Tryz.prog 220 [ov aK o,ov aK V]=some r∧∃(L:List Int) (n:Int),r=.eG [ov aK (some L),.v (.int .i64 n)]∧L.length≤(ol o).length+(ol V).length∧(n≠0→L≠[]):=by
 rw[cL Tryz.func220 rfl aLD (by cases o<;>cases V<;>rfl)]
 have no':((ol o).length:Int)<1000000:=by omega
 simp only[Z8,seval,Qi _ no'];refine cI (fun m st=>∃k:Nat,(st.env 0=ov aK o∧st.env 1=ov aK V∧st.env 7=.v (.int .i64 k))∧(∃L:List Int,((ol o).length≤L.length∧L.length≤(ol o).length+k)∧(st.env 6=ov aK (some L)∨(∃g,st.env 6=.own 21 g∧g<st.aU 21∧st.heap 21 g=some (.row 3 1 L.length (aK L)))∨(st.env 6=.own 9 0∧st.heap 9 0=some (.row 3 1 L.length (aK L)))))∧k≤(ol V).length∧m=(ol V).length-k)
  (fun e st=>e=.exit 0∧(st.env 0=ov aK o)∧∃L:List Int,((ol o).length≤L.length∧L.length≤(ol o).length+(ol V).length)∧(st.env 6=ov aK (some L)∨∃a g,st.env 6=.own a g∧st.heap a g=some (.row 3 1 L.length (aK L)))) (ol V).length ?step ?start ?rest
 case step =>
  rintro m st ⟨k,hI,⟨L,hL,h3⟩,hk,hm⟩
  by_cases bA:(k:Int)<(ol V).length
  ·have q0:(0:Int)≤k:=by omega
   have hw:IntKind.i64.wrap ((k:Int)+1)=((k+1:Nat):Int):=by rw[nU _ (by omega) (by omega)];omega
   rcases aLz (some L) (by show (L.length:Int)<_;omega) (gx (0:Int) (ol V) (k:Int)) with ⟨ea,eb⟩|⟨M,hM,ea,eb⟩
   ·rcases h3 with h3|⟨g,h3,hg,hh⟩|⟨h3,hh⟩
    ·apply oN ((ol V).length-(k+1))
     ·simp only[Z8,seval,hI,h3,bA,q0,ea,hw];rfl
     ·exact⟨k+1,by simp only[E8,seval,hI],⟨L,by omega,.inl (by simp only[E8,seval])⟩,by omega,rfl⟩
    ·have W5:=fun st d a g=>eb st d a g L rfl
     apply oN ((ol V).length-(k+1))
     ·simp only[Z8,seval,hI,h3,hh,bA,q0,W5,hw];rfl
     ·exact⟨k+1,by simp only[E8,seval,hI],⟨L,by omega,.inl (by simp only[E8,seval])⟩,by omega,rfl⟩
    ·have W5:=fun st d a g=>eb st d a g L rfl
     apply oN ((ol V).length-(k+1))
     ·simp only[Z8,seval,hI,h3,hh,bA,q0,W5,hw];rfl
     ·exact⟨k+1,by simp only[E8,seval,hI],⟨L,by omega,.inl (by simp only[E8,seval])⟩,by omega,rfl⟩
   ·have hM':M.length=L.length+1:=hM
    rcases h3 with h3|⟨g,h3,hg,hh⟩|⟨h3,hh⟩
    ·apply oN ((ol V).length-(k+1))
     ·simp only[Z8,seval,hI,h3,bA,q0,ea,hw];rfl
     ·exact⟨k+1,by simp only[E8,seval,hI],⟨M,by omega,.inr (.inl ⟨_,by simp only[E8,seval]<;>rfl,by simp only[E8,seval]<;>omega,by simp only[E8,seval]<;>rfl⟩)⟩,by omega,rfl⟩
    ·have W5:=fun st d a g=>eb st d a g L rfl
     have vA:(g=st.aU 21)=False:=eq_false (by omega)
     apply oN ((ol V).length-(k+1))
     ·simp only[Z8,seval,hI,h3,hh,vA,bA,q0,W5,hw];rfl
     ·exact⟨k+1,by simp only[E8,seval,hI],⟨M,by omega,.inr (.inl ⟨_,by simp only[E8,seval]<;>rfl,by simp only[E8,seval]<;>omega,by simp only[E8,seval]<;>rfl⟩)⟩,by omega,rfl⟩
    ·have W5:=fun st d a g=>eb st d a g L rfl
     apply oN ((ol V).length-(k+1))
     ·simp only[Z8,seval,hI,h3,hh,bA,q0,W5,hw];rfl
     ·exact⟨k+1,by simp only[E8,seval,hI],⟨M,by omega,.inr (.inl ⟨_,by simp only[E8,seval]<;>rfl,by simp only[E8,seval]<;>omega,by simp only[E8,seval]<;>rfl⟩)⟩,by omega,rfl⟩
  ·have h3':st.env 6=ov aK (some L)∨∃a g,st.env 6=.own a g∧st.heap a g=some (.row 3 1 L.length (aK L)):=by
    rcases h3 with h3|⟨g,h3,hg,hh⟩|⟨h3,hh⟩
    ·exact .inl h3
    ·exact .inr ⟨21,g,h3,hh⟩
    ·exact .inr ⟨9,0,h3,hh⟩
   apply oT (.exit 0)
   ·simp only[Z8,seval,hI,bA];rfl
   ·exact⟨rfl,by simp only[E8,seval,hI],L,by omega,by simpa only[E8,seval] using h3'⟩
 case start=>exact⟨0,by simp only[E8,seval]<;>rfl,⟨ol o,by omega,.inr (.inr ⟨by simp only[E8,seval],by simp only[E8,seval]⟩)⟩,by omega,by omega⟩
 case rest =>
  rintro e st ⟨rfl,h0,L,hL,h3⟩
  rcases h3 with h3|⟨a,g,h3,hh⟩
  ·simp only[Z8,seval,h3,h0];exact⟨_,dK rfl rfl rfl (by simp only[E8,seval,h3,Gf]<;>rfl) (by simp only[E8,seval,h3,Gf]<;>rfl),L,_,rfl,hL.2,aLC hL.1⟩
  ·simp only[Z8,seval,h3,hh,h0];exact⟨_,dK rfl rfl rfl (by simp only[E8,seval,h3,hh,jY]<;>rfl) (by simp only[E8,seval,h3,hh,jY]<;>rfl),L,_,rfl,hL.2,aLC hL.1⟩
theorem aQU (x:gB) (V W:Option (List Int)) (hV:x.first.fB=ov aK V) (hW:x.second.fB=ov aK W) (nV:((ol V).length:Int)<99999) (nW:((ol W).length:Int)<99999) (n:Int) :
 ∃r,aB Tryz.prog 219 [.agg (cD x),.v (.int .i64 n)]=some r∧∃e:Int,r=.v (.int .i64 e)∧e≠21:=by
 have f1:Flat x.first.fB:=by rw[hV];exact bX V
 have f2:Flat x.second.fB:=by rw[hW];exact bX W
 have fx:Flat (.agg (cD x)):=(nC x).2 ⟨f1,f2⟩
 have kV:=kx (c40 V (by omega) n) (bF (bX V) (.v _)) (.v _)
 have kW:=kx (c40 W (by omega) n) (bF (bX W) (.v _)) (.v _)
 obtain⟨ev,DM⟩:∃e,DL (ol V) n=e:=⟨_,rfl⟩
 obtain⟨ew,hew⟩:∃e,DL (ol W) n=e:=⟨_,rfl⟩
 rw[DM] at kV;rw[hew] at kW;obtain⟨r1,Q2,c,rfl⟩:=aQE x.first x.second f1 f2
 have W6:=kx Q2 (bF ((Ai _).2 f1) ((Ai _).2 f2)) (.v _)
 obtain⟨r2,hr2,o,ho,hro⟩:=aLA x V W hV hW nV nW
 rw[cL Tryz.func219 rfl aLE rfl];by_cases g1:ev=0
 case neg =>
  simp only[Z8,seval,hV,hW,kV,bf g1];exact⟨_,bZ rfl (by simp only[E8,seval]<;>rfl) (by first|exact .v _|simp only[eC]),_,rfl,by rw[← DM];exact WB _ _⟩
 by_cases g2:ew=0
 case neg =>
  simp only[Z8,seval,hV,hW,kV,kW,bt g1,bf g2];exact⟨_,bZ rfl (by simp only[E8,seval]<;>rfl) (by first|exact .v _|simp only[eC]),_,rfl,by rw[← hew];exact WB _ _⟩
 by_cases g3:x.first.target<x.first.source
 ·simp only[Z8,seval,hV,hW,kV,kW,bt g1,bt g2,g3];exact⟨_,bZ rfl (by simp only[E8,seval]<;>rfl) (by first|exact .v _|simp only[eC]),_,rfl,by decide⟩
 by_cases g4:x.second.target<x.second.source
 ·simp only[Z8,seval,hV,hW,kV,kW,bt g1,bt g2,g3,g4];exact⟨_,bZ rfl (by simp only[E8,seval]<;>rfl) (by first|exact .v _|simp only[eC]),_,rfl,by decide⟩
 cases c
 ·simp only[Z8,seval,hV,hW,kV,kW,bt g1,bt g2,g3,g4,W6];exact⟨_,bZ rfl (by simp only[E8,seval]<;>rfl) (by first|exact .v _|simp only[eC]),_,rfl,by decide⟩
 rcases hro with rfl|⟨L,hL,rfl⟩
 ·have Zw:=kx hr2 (cV fx) (bX o)
  by_cases g5:((ol o).length:Int)=0
  ·simp only[Z8,seval,hV,hW,kV,kW,bt g1,bt g2,g3,g4,W6,Zw,bt g5];exact⟨_,bZ rfl (by simp only[E8,seval]<;>rfl) (by first|exact .v _|simp only[eC]),_,rfl,by decide⟩
  ·simp only[Z8,seval,hV,hW,kV,kW,bt g1,bt g2,g3,g4,W6,Zw,bf g5];exact⟨_,bZ rfl (by simp only[E8,seval]<;>rfl) (by first|exact .v _|simp only[eC]),_,rfl,by decide⟩
 ·have Zw:∀(st:St) (d:Nat),aO (aB Tryz.prog) 221 [.agg (cD x)] st (some d)=_:=fun st d=>jG (st:=st) (d:=d) (cV fx) hr2
  by_cases g5:(L.length:Int)=0
  ·simp only[Z8,seval,hV,hW,kV,kW,bt g1,bt g2,g3,g4,W6,Zw,bt g5];exact⟨_,bZ rfl (by simp only[E8,seval]<;>rfl) (by first|exact .v _|simp only[eC]),_,rfl,by decide⟩
  ·simp only[Z8,seval,hV,hW,kV,kW,bt g1,bt g2,g3,g4,W6,Zw,bf g5];exact⟨_,bZ rfl (by simp only[E8,seval]<;>rfl) (by first|exact .v _|simp only[eC]),_,rfl,by decide⟩
theorem aQW {s:aM} {v:SV} {q:Int} (h:GI s v q) (r:RG s v) (x:gB) (V W:Option (List Int)) (hV:x.first.fB=ov aK V) (hW:x.second.fB=ov aK W) (nV:((ol V).length:Int)≤1000) (nW:((ol W).length:Int)≤1000) (hq:q+1000≤900000) :
 ∃r,aB Tryz.prog 205 [.agg (aA s),.agg (cD x)]=some r∧StN s v (q+1000) r:=by
 have hf:=h.sd.flat
 have pG:=h.sd.fl
 have hz:=Kl
 have f1:Flat x.first.fB:=by rw[hV];exact bX V
 have f2:Flat x.second.fB:=by rw[hW];exact bX W
 have fx:Flat (.agg (cD x)):=(nC x).2 ⟨f1,f2⟩
 obtain⟨r1,Q2,e1,rfl,he1⟩:=aQU x V W hV hW (by omega) (by omega) (ol v.B).length
 have W7:=kx Q2 (bF fx (.v _)) (.v _)
 obtain⟨r2,hr2,o,ho,hro⟩:=aLA x V W hV hW (by omega) (by omega)
 have nq:=h.nQ
 obtain⟨r3,hr3,L,n,rfl,hL,EA⟩:=aQT v.Q o (by omega) (by omega)
 have fr:Flat (.eG [ov aK (some L),.v (.int .i64 n)]):=.eG _ (bF (bX _) (.v _))
 have k220:∀(st:St) (d:Option Nat),fG (aB Tryz.prog) 220 [ov aK v.Q,ov aK o] st d=_:=fun st d=>Iw (st:=st) (d:=d) (bF (bX _) (bX _)) hr3 fr
 rw[cL Tryz.func205 rfl aLF rfl];by_cases g1:e1=0
 case neg =>
  simp only[Z8,seval,Zm h.sd,W7,bf g1];exact⟨_,by apply dK;rfl;all_goals simp only[aH,bY,Z8,seval,hz]<;>rfl,fW,e1,rfl,hz,he1,fun h=>absurd h g1⟩
 have hQ:((ol (some L)).length:Int)≤q+1000:=by show (L.length:Int)≤_;omega
 have h':GI { s with gH:={ s.gH with gN:=ov aK (some L)} } { v with Q:=some L } (q+1000) :=
  ⟨⟨h.sd.iP,h.sd.dU,rfl,h.sd.early,h.sd.bL,h.sd.tree,h.sd.tables,h.sd.eV,h.sd.tB,h.sd.nB,h.sd.nL,by show ((ol (some L)).length:Int)<1000000;omega,h.sd.nE,h.sd.nO,h.sd.nT,h.sd.nn⟩,h.up,h.Xs,h.pos,h.nl,h.WH,h.jH,h.OQ,h.nB,h.nO,h.OR,h.nE,h.UW,h.nT,h.UX,hQ,hq,h.gI⟩
 have I2:=h'.sd.flat
 rcases hro with rfl|⟨M,hM,rfl⟩
 ·have Zw:=kx hr2 (cV fx) (bX o)
  by_cases g2:n=0
  ·simp only[Z8,seval,Zm h.sd,W7,bt g1,h.sd.gN,Zw,k220,dN,bt g2];exact⟨_,by apply dK;rfl;all_goals simp only[aH,bY,Z8,seval,hz]<;>rfl,fW,9,rfl,hz,by decide,fun h=>by cases h⟩
  ·simp only[Z8,seval,Zm h.sd,W7,bt g1,h.sd.gN,Zw,k220,dN,bf g2];exact⟨_,by apply dK;rfl;all_goals simp only[aH,bY,Z8,seval,I2]<;>rfl,_,0,rfl,I2,by decide,fun _=>⟨_,h',⟨r.now,r.j,r.f,r.nd,r.or,r.rt,r.fe,r.ds,r.tb,⟨fun e=>EA g2 (by injection e),r.ne.e,r.ne.o,r.ne.t,r.ne.ea,r.ne.tb⟩⟩,rfl,rfl⟩⟩
 ·have Zw:∀(st:St) (d:Nat),aO (aB Tryz.prog) 221 [.agg (cD x)] st (some d)=_:=fun st d=>jG (st:=st) (d:=d) (cV fx) hr2
  have k220':∀(st:St) (a g:Nat) (d:Option Nat),st.heap a g=some (.row 3 1 M.length (aK M))→fG (aB Tryz.prog) 220 [ov aK v.Q,.own a g] st d=some { dst:=d,val:=.eG [ov aK (some L),.v (.int .i64 n)],dS:=some (a,g,none)}:=by
   intro st a g d hh;rw[Qj (s:=a) (k:=g) (by rw[List.flatMap_cons,vT (bX v.Q)];rfl) (by intro y hy;simp only[List.mem_cons,List.not_mem_nil,or_false] at hy;rcases hy with rfl|rfl;exact .inl (bX _);exact .inr (.inl ⟨a,g,rfl⟩)),
    List.map_cons,List.map_cons,List.map_nil,Gf,Tk hh,bM,bM,fY,← hM]
   exact OW hr3 fr
  by_cases g2:n=0
  ·simp only[Z8,seval,Zm h.sd,W7,bt g1,h.sd.gN,Zw,k220',dN,bt g2];exact⟨_,by apply dK;rfl;all_goals simp only[aH,bY,Z8,seval,hz]<;>rfl,fW,9,rfl,hz,by decide,fun h=>by cases h⟩
  ·simp only[Z8,seval,Zm h.sd,W7,bt g1,h.sd.gN,Zw,k220',dN,bf g2];exact⟨_,by apply dK;rfl;all_goals simp only[aH,bY,Z8,seval,I2]<;>rfl,_,0,rfl,I2,by decide,fun _=>⟨_,h',⟨r.now,r.j,r.f,r.nd,r.or,r.rt,r.fe,r.ds,r.tb,⟨fun e=>EA g2 (by injection e),r.ne.e,r.ne.o,r.ne.t,r.ne.ea,r.ne.tb⟩⟩,rfl,rfl⟩⟩
theorem WN {l:List Int} {n:Int} (h:DL l n=0):∀x∈l,0≤x∧x<n:=by
 intro x hx;unfold DL at h;have fQ:l≠[]:=fun e=>by subst e;cases hx
 rw[if_neg fQ] at h;by_cases g:uL (Wq l n) l.length<0
 ·rcases sY (Wq l n) l.length with ⟨_,hj⟩|⟨k,h1,_,_,h3⟩
  ·obtain⟨j,hj1,rfl⟩:=List.getElem_of_mem hx
   have hb:=hj j hj1
   have e:gx (0:Int) l j=l[j]:=by simp[gx,hj1]
   unfold Wq at hb;rw[e] at hb;omega
  ·omega
 ·rw[if_neg g] at h;split at h<;>omega
theorem JL {s:aM} {v:SV} {a:sG} {V:List Int} (h:(Hw s v a V).2=0):DL V (ol v.B).length=0:=by
 unfold Hw at h;by_cases g:DL V (ol v.B).length≠0
 ·rw[if_pos g] at h;exact h
 ·exact Classical.not_not.1 g
theorem GI.cast {s:aM} {v:SV} {q:Int} (h:GI s v q) (a:sG) (V:List Int):GI (Tf s v a V) { v with L:=some (uO (ol v.L) a.target.aG a.root V).1 } q:=by
 have hl:(uO (ol v.L) a.target.aG a.root V).1.length=(ol v.L).length:=Te _ _ _ _
 exact⟨⟨h.sd.iP,rfl,h.sd.gN,h.sd.early,h.sd.bL,h.sd.tree,h.sd.tables,h.sd.eV,h.sd.tB,h.sd.nB,by show ((uO (ol v.L) a.target.aG a.root V).1.length:Int)<1000000;rw[hl];exact h.sd.nL,h.sd.nQ,h.sd.nE,h.sd.nO,h.sd.nT,h.sd.nn⟩,h.up,h.Xs,h.pos,h.nl,h.WH,h.jH,hl.trans h.OQ,h.nB,h.nO,h.OR,h.nE,h.UW,h.nT,h.UX,h.nQ,h.U6,h.gI⟩
def xD (s:aM) (x:AV):aM:={ s with cC:={ s.cC with early:=x }}
theorem WO {e sz n:Nat} {cs:List AV} (h:¬ ∀c∈cs,Flat c):jI (some (.row e sz n cs))=none:=by
 unfold jI;simp only[if_neg h]
theorem aGD {a:sG} {x g:Nat} (h:a.fB=.own x g) (l:List sG):¬ ∀c∈dM (l++[a]),Flat c:=by
 intro hf;have hm:AV.own x g∈dM (l++[a]):=by
  unfold dM;rw[List.flatMap_append,List.mem_append];refine .inr ?_
  rw[List.flatMap_cons,List.flatMap_nil,List.append_nil];unfold iC;rw[h];simp
 have:=hf _ hm
 cases this
theorem lS {α:Type} {a b:List (Option α)} {x y:List α} (ha:cM a=some x) (hb:cM b=some y):cM (a++b)=some (x++y):=by
 induction a generalizing x with
 | nil=>simp only[fY,Option.some.injEq] at ha;subst ha;simpa using hb
 | cons c a ih =>
   cases c with
   | none=>simp[cM] at ha
   | some c =>
     rw[bM] at ha;simp only[Option.map_eq_some_iff] at ha;obtain⟨z,hz,rfl⟩:=ha
     rw[List.cons_append,bM,ih hz];rfl
theorem Eb {cs:List AV} {f:AV→Option AV} (h:∀c∈cs,f c=some c):cM (cs.map f)=some cs:=by
 induction cs with
 | nil=>rfl
 | cons c cs ih=>rw[List.map_cons,h c (List.mem_cons_self ..),bM,ih fun x hx=>h x (List.mem_cons_of_mem _ hx)];rfl
theorem Zx {st:St} {c:AV} (h:Flat c):cJ st c=some c:=by unfold cJ;rw[if_pos h]
theorem W8 {st:St} {c:AV} (h:Flat c):Dl st c=some c:=by
 unfold Dl;cases h<;>exact Zx (by constructor;try assumption)
theorem I3 {s:aM} {v:SV} (h:SD s v) (st:St) {E:List sG} (hE:∀x∈E,Flat x.fB) {a:sG} {V:List Int} {x g x' g' n:Nat}
 (hh:st.heap x g=some (.row 87 67 n (dM (E++[{ a with fB:=.own x' g' }])))) (uZ:st.heap x' g'=some (.row 3 1 V.length (aK V))) :
 Ph st (.agg (aA (xD s (.own x g))))=some (.agg (aA (xD s (.sl n (dM (E++[{ a with fB:=ov aK (some V)}])))))):=by
 obtain⟨h1,h2,h3,h4,h5,h6,h7⟩:=h.fl
 have fl:∀ {cs:List AV},(∀c∈cs,Flat c)→cM (cs.map (Dl st))=some cs:=fun hc=>Eb fun c m=>W8 (hc c m)
 have fl1:∀ {cs:List AV},(∀c∈cs,Flat c)→cM (cs.map (cJ st))=some cs:=fun hc=>Eb fun c m=>Zx (hc c m)
 have hv:cJ st (.own x' g')=some (ov aK (some V)):=by rw[bO,uZ];exact jY _ _
 have hatt:cM ((dM (E++[{ a with fB:=.own x' g' }])).map (cJ st))=some (dM (E++[{ a with fB:=ov aK (some V)}])):=by
  unfold dM;rw[List.flatMap_append,List.flatMap_append,List.map_append];refine lS (fl1 (qY E hE)) ?_
  simp only[List.flatMap_cons,List.flatMap_nil,List.append_nil];unfold iC;rw[List.map_append,List.map_append,List.map_append];refine lS (fl1 (dY _)) (lS (fl1 (dO _)) (lS (fl1 (bR _)) ?_))
  rw[List.map_cons,List.map_nil,hv];rfl
 have hea:Dl st (.own x g)=some (.sl n (dM (E++[{ a with fB:=ov aK (some V)}]))):=by
  unfold Dl;simp only[hh,hatt];rfl
 unfold Ph;simp only
 have:cM ((aA (xD s (.own x g))).map (Dl st))=some (aA (xD s (.sl n (dM (E++[{ a with fB:=ov aK (some V)}]))))):=by
  unfold xD aA jM;simp only[List.map_append];refine lS (fl (uG _ h1)) (lS (fl (qS _ h2 h3)) (lS (fl (jZ _)) (lS (lS ?_ (fl (by simpa using h5))) (lS (fl (xA _ h6)) (lS (fl (dY _)) (lS (fl (dO _)) (fl (by simpa using h7))))))))
  rw[List.map_cons,List.map_nil,hea];rfl
 rw[this];rfl
theorem W9 {s:aM} {v:SV} (h:SD s v) (st:St) {E:List sG} {a:sG} {x g x' g' n:Nat} (ha:a.fB=.own x' g')
 (hh:st.heap x g=some (.row 87 67 n (dM (E++[a])))):fP st (.agg (aA (xD s (.own x g))))=none:=by
 have pG:=h.fl
 have hn:=WO (e:=87) (sz:=67) (n:=n) (aGD ha E)
 unfold xD;simp only[bP,gG,bO,hh,hn,cS,eC,pG,cF,Ak]
theorem GI.early {s:aM} {v:SV} {q:Int} (h:GI s v q) (E:Option (List sG)) (hE:∀a∈ol E,Dw a) (hn:((ol E).length:Int)≤s.cFg.lJ.qD):GI (xD s (ov dM E)) { v with E:=E } q :=
 ⟨⟨h.sd.iP,h.sd.dU,h.sd.gN,rfl,h.sd.bL,h.sd.tree,h.sd.tables,hE,h.sd.tB,h.sd.nB,h.sd.nL,h.sd.nQ,by have:=h.UW;show ((ol E).length:Int)<1000000;omega,h.sd.nO,h.sd.nT,h.sd.nn⟩,h.up,h.Xs,h.pos,h.nl,h.WH,h.jH,h.OQ,h.nB,h.nO,h.OR,hn,h.UW,h.nT,h.UX,h.nQ,h.U6,h.gI⟩
theorem aGE (s:aM) (v:SV) (a:sG) (V:List Int):(Hw s v a V).2≠21:=by
 unfold Hw;split
 ·exact WB _ _
 repeat (split;simp)
 simp
theorem aQX {s:aM} {v:SV} {q:Int} (h:GI s v q) (r:RG s v) (a:sG) (V:Option (List Int)) (hV:a.fB=ov aK V) (nV:((ol V).length:Int)<99999) :
 ∃r,aB Tryz.prog 204 [.agg (aA s),.agg (iC a)]=some r∧StN s v q r:=by
 have hf:=h.sd.flat
 have pG:=h.sd.fl
 have hz:=Kl
 have fa:Flat (.agg (iC a)):=(Ah a).2 (by rw[hV];exact bX V)
 have k39:=kx (c39 h.sd h.up h.sp a V hV (by omega)) (bF hf fa) (.eG _ (bF (.v _) (.v _)))
 rw[cL Tryz.func204 rfl aLG rfl];by_cases g1:(Hw s v a (ol V)).2=0
 case neg =>
  simp only[Z8,seval,k39,dN,bf g1];exact⟨_,by apply dK;rfl;all_goals simp only[aH,bY,Z8,seval,hz]<;>rfl,fW,_,rfl,hz,aGE _ _ _ _,fun h=>absurd h g1⟩
 cases g2:(Hw s v a (ol V)).1
 ·have hr:∀x∈ol V,0≤x∧x<(ol v.L).length:=by rw[h.OQ];exact WN (JL g1)
  have h':=h.cast a (ol V)
  have I2:=h'.sd.flat
  have k44:=kx (c44 h.sd a V hV (by omega) hr) (bF hf fa) I2
  simp only[Z8,seval,k39,dN,bt g1,g2,k44];exact⟨_,by apply dK;rfl;all_goals simp only[aH,bY,Z8,seval,I2]<;>rfl,_,0,rfl,I2,by decide,fun _=>⟨_,h',⟨r.now,r.j,r.f,r.nd,r.or,r.rt,r.fe,r.ds,r.tb,⟨r.ne.q,r.ne.e,r.ne.o,r.ne.t,r.ne.ea,r.ne.tb⟩⟩,rfl,rfl⟩⟩
 ·by_cases g3:s.cFg.lJ.qD≤((ol v.E).length:Int)
  ·simp only[Z8,seval,k39,dN,bt g1,g2,h.sd.early,g3];exact⟨_,by apply dK;rfl;all_goals simp only[aH,bY,Z8,seval,hz]<;>rfl,fW,11,rfl,hz,by decide,fun h=>by cases h⟩
  ·have hE:∀b∈ol (some (ol v.E++[{ a with fB:=ov aK (some (ol V))}])),Dw b:=by
    intro b hb;rcases List.mem_append.1 (show b∈ol v.E++[{ a with fB:=ov aK (some (ol V))}] from hb) with hb|hb
    ·exact h.sd.eV b hb
    ·rw[List.mem_singleton] at hb;subst hb;exact⟨some (ol V),rfl,by show ((ol V).length:Int)<_;omega⟩
   have hVne:ol V≠[]:=fun e=>by have h0:=JL g1;rw[e] at h0;simp[DL] at h0
   have hEa:∀b∈ol (some (ol v.E++[{ a with fB:=ov aK (some (ol V))}])),∃W,b.fB=ov aK (some W)∧W≠[]:=by
    intro b hb;rcases List.mem_append.1 (show b∈ol v.E++[{ a with fB:=ov aK (some (ol V))}] from hb) with hb|hb
    ·exact r.ne.ea b hb
    ·rw[List.mem_singleton] at hb;subst hb;exact⟨ol V,rfl,hVne⟩
   have h':=h.early (some (ol v.E++[{ a with fB:=ov aK (some (ol V))}])) hE (by show (((ol v.E++[{ a with fB:=ov aK (some (ol V))}]).length:Nat):Int)≤_;rw[List.length_append,List.length_cons,List.length_nil];omega)
   have I2:=h'.sd.flat
   have nE:=h.sd.nE
   have hEf:∀x∈ol v.E,Flat x.fB:=fun x m=>(h.sd.eV x m).fl
   simp only[Z8,seval,k39,dN,bt g1,g2,h.sd.early,g3,hV,Qi _ (show ((ol V).length:Int)<1000000 by omega),y9 _ nE,Xz _ _ _ _ nE]
   have hlen:(ol v.E++[{ a with fB:=.own 35 0 }]).length=(ol v.E++[{ a with fB:=ov aK (some (ol V))}]).length:=by rw[List.length_append,List.length_append];rfl
   exact⟨_,aLH rfl (by simp only[bY,Z8,seval]<;>rfl) (by simp only[bY,E8,seval]<;>rfl)
    (W9 h.sd _ rfl (by simp only[E8,seval]<;>rfl)) (I3 (x':=35) (g':=0) h.sd _ hEf (by simp only[E8,seval,hlen]<;>rfl) (by simp only[E8,seval]<;>rfl)) (by simp only[Z8,seval]<;>rfl),_,0,rfl,I2,by decide,fun _=>⟨_,h',⟨r.now,r.j,r.f,r.nd,r.or,r.rt,r.fe,r.ds,r.tb,⟨r.ne.q,by simp,r.ne.o,r.ne.t,hEa,r.ne.tb⟩⟩,rfl,rfl⟩⟩
theorem aQZ (ns:List Node) (hu:gK ns) (hr:(nd ns 0).up=-1) (hn:(ns.length:Int)<1000000) (w:List Int) (hw:w.length=ns.length) (b:List Bool) (hb:b.length=ns.length) (i:Int) :
 ∃r,aB Tryz.prog 225 [.agg (cO ⟨ns⟩),.sl w.length (bI w),.sl b.length (mX b),.v (.int .i64 i)]=some r∧∃k:Int,r=.v (.int .i64 k)∧(k=-1∨(i<k∧0≤k∧k<ns.length)):=by
 rw[cL Tryz.func225 rfl aLI rfl];by_cases hc:wZ ns i=[]
 ·have kc:=fun st d=>aE3 ns hu hr hn i hc st d
  simp only[Z8,seval,kc];refine cI (fun m st=>st.env 9=.v (.int .i64 (-1))∧st.env 10=.v (.slice none 0 0)∧st.env 11=.v (.int .i64 0)∧m=0) (fun e st=>e=.exit 0∧st.env 9=.v (.int .i64 (-1))) 0 ?step ?start ?rest
  case step =>
   rintro m st ⟨h9,h10,h11,_⟩
   apply oT (.exit 0)
   ·simp only[Z8,seval,h9,h10,h11,Int.lt_irrefl];rfl
   ·exact⟨rfl,by simp only[E8,seval,h9]⟩
  case start=>exact⟨by simp only[E8,seval]<;>rfl,by simp only[E8,seval]<;>rfl,by simp only[E8,seval]<;>rfl,rfl⟩
  case rest =>
   rintro e st ⟨rfl,h9⟩
   simp only[Z8,seval,h9];exact⟨_,bZ rfl (by simp only[E8,seval,h9]<;>rfl) (by first|exact .v _|simp only[eC,h9]),-1,rfl,.inl rfl⟩
 have kc:=fun st d=>aKl ns hu hr hn i hc st d
 have hgt:∀x∈wZ ns i,i<x∧0≤x∧x<ns.length:=fun x hx=>JK hu hr hx
 have hin:((wZ ns i).length:Int)<1000000:=by
  have h1:(wZ ns i).length≤ns.length:=by
   unfold wZ;split
   ·simp
   ·exact Xt ns i ns.length
  omega
 obtain⟨l,el⟩:∃l,wZ ns i=l:=⟨_,rfl⟩
 rw[el] at kc hgt hin;simp only[Z8,seval,kc];refine cI (fun m st=>∃(k:Nat) (yF:Int),(st.env 4=.ptr 4 0 0∧st.heap 4 0=some (.cells (cO ⟨ns⟩))∧st.env 1=.sl w.length (bI w)∧st.env 2=.sl b.length (mX b)∧st.env 10=.own 15 0∧st.heap 15 0=some (.row 3 1 l.length (aK l))∧st.env 9=.v (.int .i64 yF)∧st.env 11=.v (.int .i64 k))∧(yF=-1∨(i<yF∧0≤yF∧yF<ns.length))∧k≤l.length∧m=l.length-k)
  (fun e st=>e=.exit 0∧∃yF:Int,st.env 9=.v (.int .i64 yF)∧(yF=-1∨(i<yF∧0≤yF∧yF<ns.length))) l.length ?step ?start ?rest
 case step =>
  rintro m st ⟨k,yF,hI,HJ,hk,hm⟩
  by_cases bA:(k:Int)<l.length
  case neg =>
   apply oT (.exit 0)
   ·simp only[Z8,seval,hI,bA];rfl
   ·exact⟨rfl,yF,by simp only[E8,seval,hI],HJ⟩
  have q0:(0:Int)≤k:=by omega
  have hwr:IntKind.i64.wrap ((k:Int)+1)=((k+1:Nat):Int):=by rw[nU _ (by omega) (by omega)];omega
  have gi:=nK q0 bA
  obtain⟨c,ec⟩:∃c,it l (k:Int)=c:=⟨_,rfl⟩
  have hc:=hgt c (by rw[← ec];obtain⟨h1,h2⟩:=yA q0 bA;rw[h2];exact List.getElem_mem h1)
  obtain⟨c0,c1,c2⟩:=hc
  have c3:c<(w.length:Int):=by rw[hw];exact c2
  have c4:c<(b.length:Int):=by rw[hb];exact c2
  cases g1:gx false b c
  ·apply oN (l.length-(k+1))
   ·simp only[Z8,seval,hI,bA,q0,gi,ec,c1,c3,c4,g1,hwr,mG,mH];rfl
   ·exact⟨k+1,yF,by simp only[E8,seval,hI],HJ,by omega,rfl⟩
  by_cases g2:yF<0
  ·apply oN (l.length-(k+1))
   ·simp only[Z8,seval,hI,bA,q0,gi,ec,c1,c3,c4,g1,g2,hwr,mG,mH];rfl
   ·exact⟨k+1,c,by simp only[E8,seval,hI],.inr ⟨c0,c1,c2⟩,by omega,rfl⟩
  have b1:0≤yF:=by omega
  have b2:yF<ns.length:=by omega
  have b3:yF<(w.length:Int):=by rw[hw];exact b2
  by_cases g3:gx (0:Int) w yF<gx (0:Int) w c
  ·apply oN (l.length-(k+1))
   ·simp only[Z8,seval,hI,bA,q0,gi,ec,c1,c3,c4,g1,g2,b1,b3,g3,hwr,mG,mH];rfl
   ·exact⟨k+1,c,by simp only[E8,seval,hI],.inr ⟨c0,c1,c2⟩,by omega,rfl⟩
  by_cases g4:gx (0:Int) w c=gx (0:Int) w yF
  case neg =>
   apply oN (l.length-(k+1))
   ·simp only[Z8,seval,hI,bA,q0,gi,ec,c1,c3,c4,g1,g2,b1,b3,g3,bf g4,hwr,mG,mH];rfl
   ·exact⟨k+1,yF,by simp only[E8,seval,hI],HJ,by omega,rfl⟩
  by_cases g5:0<aKL (nd ns c).block.root (nd ns yF).block.root
  ·apply oN (l.length-(k+1))
   ·simp only[Z8,seval,hI,bA,q0,gi,ec,c1,c2,c3,c4,g1,g2,b1,b2,b3,g3,bt g4,aGo,g5,hwr,mG,mH];rfl
   ·exact⟨k+1,c,by simp only[E8,seval,hI],.inr ⟨c0,c1,c2⟩,by omega,rfl⟩
  ·apply oN (l.length-(k+1))
   ·simp only[Z8,seval,hI,bA,q0,gi,ec,c1,c2,c3,c4,g1,g2,b1,b2,b3,g3,bt g4,aGo,g5,hwr,mG,mH];rfl
   ·exact⟨k+1,yF,by simp only[E8,seval,hI],HJ,by omega,rfl⟩
 case start=>exact⟨0,-1,by simp only[E8,seval]<;>rfl,.inl rfl,by omega,by omega⟩
 case rest =>
  rintro e st ⟨rfl,yF,h9,HJ⟩
  simp only[Z8,seval,h9];exact⟨_,bZ rfl (by simp only[E8,seval,h9]<;>rfl) (by first|exact .v _|simp only[eC,h9]),yF,rfl,HJ⟩
theorem aQ0 {s:aM} {v:SV} {q:Int} (h:GI s v q):∃r,aB Tryz.prog 208 [.agg (aA s)]=some r∧∃k:Int,r=.v (.int .i64 k)∧0≤k∧k<v.ns.length:=by
 have hf:=h.sd.flat
 have hn:=h.sd.nn
 obtain⟨r1,e1,w,rfl,hw⟩:=aQO h
 obtain⟨r2,e2,b,rfl,hb⟩:=aQS h
 have k223:∀(st:St) (d:Nat),aO (aB Tryz.prog) 223 [.agg (aA s)] st (some d)=_:=fun st d=>jG (st:=st) (d:=d) (cV hf) e1
 have k224:∀(st:St) (d:Nat),aO (aB Tryz.prog) 224 [.agg (aA s)] st (some d)=_:=fun st d=>jG (st:=st) (d:=d) (cV hf) e2
 have hB:∀i:Int,∃k:Int,aB Tryz.prog 225 [.agg (cO ⟨v.ns⟩),.sl w.length (bI w),.sl b.length (mX b),.v (.int .i64 i)]=some (.v (.int .i64 k))∧(k=-1∨(i<k∧0≤k∧k<v.ns.length)):=fun i=>by
  obtain⟨r,hr,k,rfl,hk⟩:=aQZ v.ns h.up h.Xs hn w hw b hb i
  exact⟨k,hr,hk⟩
 have kB:∀(i:Int) (k:Int),aB Tryz.prog 225 [.agg (cO ⟨v.ns⟩),.sl w.length (bI w),.sl b.length (mX b),.v (.int .i64 i)]=some (.v (.int .i64 k))→∀(st:St) (g1 g2:Nat) (d:Option Nat),st.heap 8 g1=some (.row 23 1 w.length (bI w))→st.heap 10 g2=some (.row 4 1 b.length (mX b)) →
  aO (aB Tryz.prog) 225 [.agg (cO ⟨v.ns⟩),.own 8 g1,.own 10 g2,.v (.int .i64 i)] st d=some { dst:=d,val:=.v (.int .i64 k)}:=by
  intro i k hk st g1 g2 d hh1 uZ;rw[jV,List.map_cons,List.map_cons,List.map_cons,List.map_cons,List.map_nil,Km,vS,hh1,uN,vS,uZ,z4,Nk,bM,bM,bM,bM,fY];exact Vp hk
 rw[cL Tryz.func208 rfl aLK rfl];simp only[Z8,seval,k223,k224,h.sd.tree,mU _ _ hn];refine cI (fun m st=>∃i:Int,(st.env 1=.ptr 1 0 0∧st.heap 1 0=some (.cells (aA s))∧st.env 3=.own 8 0∧st.heap 8 0=some (.row 23 1 w.length (bI w))∧st.env 4=.own 10 0∧st.heap 10 0=some (.row 4 1 b.length (mX b))∧st.env 5=.v (.int .i64 i))∧0≤i∧i<v.ns.length∧m=v.ns.length-i.toNat)
  (fun e st=>e=.ret∧∃i:Int,st.env 2=.v (.int .i64 i)∧0≤i∧i<v.ns.length) (v.ns.length-(aN v.ns s.aL.gI.root).toNat) ?step ?start ?rest
 case step =>
  rintro m st ⟨i,hI,i0,i1,hm⟩
  obtain⟨k,hk,hkk⟩:=hB i
  have kb:=kB i k hk
  by_cases bA:k<0
  ·apply oT (.ret)
   ·simp only[Z8,seval,hI,h.sd.tree,kb,bA];rfl
   ·exact⟨rfl,i,by simp only[E8,seval],i0,i1⟩
  ·apply oN (v.ns.length-k.toNat)
   ·simp only[Z8,seval,hI,h.sd.tree,kb,bA];rfl
   ·exact⟨k,by simp only[E8,seval,hI],by omega,by omega,rfl⟩
 case start=>exact⟨_,by simp only[E8,seval]<;>rfl,h.gI,(eQ _ _).2,rfl⟩
 case rest =>
  rintro e st ⟨rfl,i,h2,i0,i1⟩
  simp only[Z8,seval];exact⟨_,bZ rfl (by simp only[E8,seval,h2]<;>rfl) (by first|exact .v _|simp only[eC,h2]),i,rfl,i0,i1⟩
theorem WQ (r:Command):Flat (.agg (eK r))=True:=eq_true (.agg _ (sL r))
theorem aQ1 {s:aM} {v:SV} {q:Int} (h:GI s v q):∃r,aB Tryz.prog 199 [.agg (aA s)]=some r∧∃c:Command,r=.agg (eK c):=by
 have hf:=h.sd.flat
 obtain⟨r1,e1,k,rfl,k0,k1⟩:=aQ0 h
 have k208:=kx e1 (cV hf) (.v _)
 obtain⟨r2,e2,r,rfl⟩:=aQF h.sd
 have k209:=kx e2 (cV hf) (qQ r)
 rw[cL Tryz.func199 rfl aLL rfl];simp only[Z8,seval,k208,k209,h.sd.tree,k0,k1];exact⟨_,fL rfl (by simp only[E8,seval,WQ]<;>rfl) (by simp only[Z8,seval,WQ]<;>rfl) (by simp only[eC,and_self,WQ]),_,rfl⟩
theorem aLM (t:State) (hf:Flat (.agg (aT t))) {v:SV} {q:Int} (h:GI t.store v q):∃r,aB Tryz.prog 181 [.agg (aT t)]=some r∧∃(b:Bool) (c:Command) (y:AV),r=.eG [.agg (aT { t with Nn:=b,last:=c }),y]∧Flat y:=by
 have o0:=h.sd.flat
 have pG:=(uH t).1 hf
 obtain⟨r1,e1,c,rfl⟩:=aQ1 h
 have aGH:=kx e1 (cV o0) (.agg _ (sL c))
 have hfc:∀x∈eK c,Flat x:=sL c
 have ex:jI (some (.row 56 96 1 (eK c)))=some (.sl 1 (eK c)):=by
  unfold jI;simp only[if_pos hfc]
 rw[cG Tryz.func181 rfl aLN (by kernel_rfl) rfl]
 have I2:Flat (.agg (aT { t with Nn:=true,last:=c })):=(uH _).2 pG
 cases g1:t.Nn
 ·simp only[ZG,seval,Bool.false_and,Prod.mk.injEq,X0,aGH,g1];exact⟨_,by apply dK;rfl;all_goals simp only[aH,bY,Z8,seval,I2,ex]<;>rfl,true,c,_,rfl,.sl _ _ hfc⟩
 ·by_cases g2:t.last=c
  ·simp only[ZG,seval,Bool.false_and,Prod.mk.injEq,X0,aGH,g1,g2];exact⟨_,by apply dK;rfl;all_goals simp only[aH,bY,Z8,seval,hf]<;>rfl,t.Nn,t.last,_,rfl,.v _⟩
  ·simp only[ZG,seval,Bool.false_and,Prod.mk.injEq,X0,aGH,g1,g2];exact⟨_,by apply dK;rfl;all_goals simp only[aH,bY,Z8,seval,I2,ex]<;>rfl,true,c,_,rfl,.sl _ _ hfc⟩
theorem wrap_u64 (x:Int) (h1:0≤x) (h2:x<18446744073709551616):IntKind.u64.wrap x=x:=by
 unfold IntKind.wrap;simp[IntKind.signed,IntKind.bits]
 omega
theorem aLO (o:Option (List Int)) (hn:((ol o).length:Int)≤1000) (hb:∀x∈ol o,0≤x∧x≤1000):∃a:Int,aB Tryz.prog 175 [ov bI o]=some (.eG [.v (.int .u64 a),.v (.int .i64 0)])∧0≤a∧a≤1000000:=by
 suffices h:∃r,aB Tryz.prog 175 [ov bI o]=some r∧∃a:Int,r=.eG [.v (.int .u64 a),.v (.int .i64 0)]∧0≤a∧a≤1000000 by
  obtain⟨r,h,a,rfl,h1⟩:=h;exact⟨a,h,h1⟩
 have add:∀(a:Int) (k:Nat),0≤a∧a≤1000 * k→k<(ol o).length→DT a (gx (0:Int) (ol o) (k:Int))=(a+gx (0:Int) (ol o) (k:Int),0)∧0≤a+gx (0:Int) (ol o) (k:Int)∧a+gx (0:Int) (ol o) (k:Int)≤1000 * ((k+1:Nat):Int):=by
  intro a k ha hk;have hx:=hb _ (sH (z:=(0:Int)) (show (0:Int)≤k by omega) (show (k:Int)<(ol o).length by omega))
  obtain⟨x,ex⟩:∃x,gx (0:Int) (ol o) (k:Int)=x:=⟨_,rfl⟩
  rw[ex] at hx ⊢;have w1:IntKind.u64.wrap (18446744073709551615-x)=18446744073709551615-x:=wrap_u64 _ (by omega) (by omega)
  have w2:IntKind.u64.wrap (a+x)=a+x:=wrap_u64 _ (by omega) (by omega)
  unfold DT;rw[w1,w2,if_neg (by omega)]
  exact⟨rfl,by omega,by omega⟩
 rw[cL Tryz.func175 rfl aE9 (by cases o<;>rfl)]
 simp only[Z8,seval];refine cI (fun m st=>∃(k:Nat) (a:Int),(st.env 0=ov bI o∧st.env 4=.v (.int .u64 a)∧st.env 5=.v (.int .i64 k))∧(0≤a∧a≤1000 * k)∧k≤(ol o).length∧m=(ol o).length-k)
  (fun e st=>e=.exit 0∧∃a:Int,st.env 4=.v (.int .u64 a)∧0≤a∧a≤1000000) (ol o).length ?step ?start ?rest
 case step =>
  rintro m st ⟨k,a,hI,ha,hk,hm⟩
  by_cases bA:(k:Int)<(ol o).length
  ·have q0:(0:Int)≤k:=by omega
   have hw:IntKind.i64.wrap ((k:Int)+1)=((k+1:Nat):Int):=by rw[nU _ (by omega) (by omega)];omega
   obtain⟨h1,h2⟩:=add a k ha (by omega)
   apply oN ((ol o).length-(k+1))
   ·simp only[Z8,seval,hI,bA,q0,aGc,dN,h1,hw];rfl
   ·exact⟨k+1,_,by simp only[E8,seval,hI]<;>rfl,h2,by omega,rfl⟩
  ·apply oT (.exit 0)
   ·simp only[Z8,seval,hI,bA];rfl
   ·exact⟨rfl,a,by simp only[E8,seval,hI],by omega⟩
 case start=>exact⟨0,0,by simp only[E8,seval]<;>exact⟨rfl,rfl⟩,by omega,by omega,by omega⟩
 case rest =>
  rintro e st ⟨rfl,a,h,ha⟩
  simp only[Z8,seval,h];exact⟨_,dK rfl rfl rfl (by simp only[E8,seval,h]<;>rfl) (by simp only[E8,seval,h]<;>rfl),_,rfl,ha⟩
theorem aLP (t:Table) (b:Option (List Int)) (ht:t.iP=ov bI b) (hn:((ol b).length:Int)≤1000) (hb:∀x∈ol b,0≤x∧x≤1000):aB Tryz.prog 130 [.agg (cA t),.v (.int .i64 (ol b).length)]=some (.v (.int .i64 0)):=by
 obtain⟨a,hr,a0,a1⟩:=aLO b hn hb
 have H0:=kx hr (cV (dV b)) (.eG _ (bF (.v _) (.v _)))
 rw[cL Tryz.func130 rfl aFb rfl];refine iT ?_
 have h3:(4611686018427387904<a)=False:=eq_false (by omega)
 simp only[Z8,seval,ht,bt (rfl:((ol b).length:Int)=(ol b).length),H0,dN,h3];exact⟨_,bZ rfl (by simp only[E8,seval]<;>rfl) (by first|exact .v _|simp only[eC]),rfl⟩
theorem aCX:mkRoot 1≠dR:=by decide
structure Ix (c:Config) (b:List Int):Prop where
 iP:c.iP=ov bI (some b)
 nb:1≤b.length∧b.length≤64
 bv:∀x∈b,0≤x∧x≤1000
 jH:1≤c.jH∧c.jH≤64
 bp:c.Iu≤100
 sK:1≤c.lJ.sK∧c.lJ.sK≤4096
 xB:0≤c.lJ.xB∧c.lJ.xB≤64
 qD:0≤c.lJ.qD∧c.lJ.qD≤256
 qC:1≤c.lJ.qC∧c.lJ.qC≤64
 oI:0≤c.lJ.oI∧c.lJ.oI≤256
 back:1≤c.lJ.rL∧c.lJ.rL≤1048576
 gen:c.cX=mkRoot 1
 n6:6≤c.lJ.sK
theorem aGI (n:Nat):((List.range n).flatMap fun _=>jP tN)=cW (List.replicate n tN):=by
 induction n with
 | zero=>rfl
 | succ n ih=>rw[List.range_succ,List.flatMap_append,ih,List.replicate_succ',cW,cW,List.flatMap_append];simp
theorem OX (t:Table):aI [t]=cA t:=by simp[aI]
def OY (c:Config):Block:={ dX with root:=c.cX,gI:=⟨0,c.cX⟩,fin:=⟨0,c.cX⟩,dW:=⟨⟨0,c.cX⟩,⟨0,c.cX⟩⟩}
def yV (c:Config) (b:List Int):aM:=⟨c,⟨ov cW (some (List.replicate b.length tN)),.v (.slice none 0 0)⟩,⟨⟨0,c.cX⟩,⟨0,c.cX⟩⟩,Gd,⟨.sl 1 (bU [⟨OY c,-1,1⟩])⟩,0,dR,ov aI (some [⟨⟨0,c.cX⟩,ov bI (some b)⟩])⟩
def Bj (c:Config) (b:List Int):SV:={ B:=some b,L:=some (List.replicate b.length tN),Q:=none,E:=none,O:=none,ns:=[⟨OY c,-1,1⟩],T:=some [⟨⟨0,c.cX⟩,ov bI (some b)⟩]}
theorem GI.new {c:Config} {b:List Int} (h:Ix c b):GI (yV c b) (Bj c b) 0:=by
 have hb:=h.nb
 refine⟨⟨h.iP,rfl,rfl,rfl,rfl,rfl,rfl, ?_, ?_, ?_, ?_, ?_, ?_, ?_, ?_, ?_⟩, ?_, ?_, ?_, ?_,h.sK.2,h.jH, ?_, ?_, ?_,h.xB.2, ?_,h.qD.2, ?_,h.qC.2, ?_,by omega, ?_⟩
 ·intro a ha;cases ha
 ·intro t ht;rw[show t=⟨⟨0,c.cX⟩,ov bI (some b)⟩ by simpa [Bj,ol] using ht]
  exact⟨some b,rfl,by show (b.length:Int)<_;omega⟩
 ·show (b.length:Int)<_;omega
 ·show ((List.replicate b.length tN).length:Int)<_;rw[List.length_replicate];omega
 ·show ((0:Nat):Int)<_;omega
 ·show ((0:Nat):Int)<_;omega
 ·show ((0:Nat):Int)<_;omega
 ·show ((1:Nat):Int)<_;omega
 ·show ((1:Nat):Int)<_;omega
 ·intro i h0 h1;have:i<((1:Nat):Int):=h1;omega
 ·rfl
 ·show 0<1;omega
 ·show ((1:Nat):Int)≤c.lJ.sK;have:=h.sK.1;omega
 ·show (List.replicate b.length tN).length=b.length;rw[List.length_replicate]
 ·show (b.length:Int)≤1024;omega
 ·show ((0:Nat):Int)≤c.lJ.xB;have:=h.xB.1;omega
 ·show ((0:Nat):Int)≤c.lJ.qD;have:=h.qD.1;omega
 ·show ((1:Nat):Int)≤c.lJ.qC;have:=h.qC.1;omega
 ·show ((0:Nat):Int)≤0;omega
 ·exact Qf (j:=0) (by omega) (by show (0:Int)<((1:Nat):Int);omega) rfl
theorem aLQ {c:Config} {b:List Int} (h:Ix c b):aB Tryz.prog 102 [.agg (bW c)]=some (.eG [.agg (aA (yV c b)),.v (.int .i64 0)]):=by
 obtain⟨aCY,hnb,hbv,hspe,hbp,h1,h2,h3,h4,h5,h6,hg0,_⟩:=h
 have hg:c.cX≠dR:=by rw[hg0];exact aCX
 have f1:=hspe.1;have f2:¬64<c.jH:=by omega
 have f1':¬c.jH<1:=by omega
 have f3:¬100<c.Iu:=by omega
 have f4:¬(1024:Int)<(b.length:Int):=by omega
 have f6:¬c.lJ.rL<1:=by omega
 have f7:¬1048576<c.lJ.rL:=by omega
 have n1:((ol (some b)).length:Int)<1000000:=by show (b.length:Int)<_;omega
 have hb0:(0:Int)≤(b.length:Int):=by omega
 have VG:(b.length:Int) * 48≤140737488355328:=by omega
 have n5:(b.length:Int)≤(maxLen:Int):=by unfold maxLen;omega
 have zE:gP.aG=0:=rfl
 have kt:∀(st:St) (d:Option Nat),aO (aB Tryz.prog) 130 [.agg (cA ⟨⟨0,c.cX⟩,ov bI (some b)⟩),.v (.int .i64 b.length)] st d=some { dst:=d,val:=.v (.int .i64 0)}:=kx (aLP ⟨⟨0,c.cX⟩,ov bI (some b)⟩ (some b) rfl (by show (b.length:Int)≤_;omega) hbv) (bF ((iE ⟨⟨0,c.cX⟩,ov bI (some b)⟩).2 (dV (some b))) (.v _)) (.v _)
 have aGv:=kx (aKZ ⟨⟨0,c.cX⟩,ov bI (some b)⟩ (some b) rfl n1) (cV ((iE ⟨⟨0,c.cX⟩,ov bI (some b)⟩).2 (dV (some b)))) ((iE ⟨⟨0,c.cX⟩,ov bI (some b)⟩).2 (dV (some b)))
 rw[cL Tryz.func102 rfl aLR rfl];refine iT ?_
 simp only[Z8,seval,mG,mH,aCY,f1',f2,f3,f4,f6,f7,aPw,h1.1,h1.2,h2.1,h2.2,h3.1,h3.2,h4.1,h4.2,h5.1,h5.2,hg,zE,kt,hb0,VG,n5,Int.toNat_natCast,aGI,aGv,aPn,Gc b (show (b.length:Int)<1000000 by omega)]
 have exT:=Qe 1 [⟨⟨0,c.cX⟩,ov bI (some b)⟩] (by intro y hy;rw[List.mem_singleton] at hy;subst hy;exact dV (some b))
 rw[OX] at exT;have hcc:∀x,x=c.iP→({ lJ:=c.lJ,jH:=c.jH,Iu:=c.Iu,DW:=c.DW,cX:=c.cX,iP:=x }:Config)=c:=by rintro _ rfl;rfl
 have zs:fW.gH.gN=.v (.slice none 0 0)∧fW.cC.early=.v (.slice none 0 0)∧fW.cC.bL=.v (.slice none 0 0):=⟨rfl,rfl,rfl⟩
 exact⟨_,by apply dK;rfl;all_goals simp only[aH,bY,Z8,seval,bP,gG,bO,uN,Xx,exT,cS,eC,zs]<;>rfl,by unfold yV;simp only[ov,List.length_replicate,OX,hcc (.sl b.length (bI b)) aCY.symm]<;>rfl⟩
end Go.Ab.Tryz
section
namespace Go.Ab
open Classical
theorem Qk [Ext] (P:Program) {f:Nat} {fn:Func} {c:Code} (hf:P.funcs[f]? = some fn) (hb:fn.body=some c) (oS:bK fn=true) (e sz m:Nat) (cs xs:List AV) (hx:Ext.ext f (.uniq e sz m cs :: xs)=none) :
 aB P f (.uniq e sz m cs :: xs)=cT (Aa P c (St.tH e sz m cs xs)) (X3 P fn):=by
 simp only[bK,hb,Bool.and_eq_true,Bool.not_eq_true'] at oS;rw[OZ P hf hb oS.1 e sz m cs xs hx,oS.2];rfl
theorem z6 [Ext] (P:Program) {f:Nat} {fn:Func} {c:Code} (hf:P.funcs[f]? = some fn) (hb:fn.body=some c) (oS:sV fn=true) (hc:oA c=true) (e sz m:Nat) (cs xs:List AV) (hx:Ext.ext f (.uniq e sz m cs :: xs)=none) :
 aB P f (.uniq e sz m cs :: xs)=cT (xE P true c (St.tH e sz m cs xs)) (X3 P fn):=by
 rw[OZ P hf hb oS e sz m cs xs hx,hc]
theorem Al [Ext] {P:Program} {fn:Func} {st:St} {e:Ex} {t s g ee sz n:Nat} {cs:List AV} (he:e=.ret∨e=.normal) (hr:fn.results.toList=[.tmp t]) (h1:st.env t=.own s g) (h2:st.heap s g=some (.row ee sz n cs)) (hm:∀c∈cs,iD c) :
 X3 P fn (e,st)=some (.uniq ee sz n cs):=X4 he hr (by unfold lP;simp only[h1]) h2 hm
end Go.Ab
namespace Go.Ab.Tryz
open Classical Go.Proofs Go.Ab
theorem Am (l:List Int):∀c∈kH l,iD c:=by
 intro c hc;unfold kH at hc;obtain⟨x,_,hx⟩:=List.mem_flatMap.1 hc
 rw[cU8,List.mem_singleton] at hx;subst hx;exact .v _
def Wr (F:Nat) (rest:List AV) (K:Int):Prop:=∀l:List Int,(l.length:Int)+K<900000→∃m:List Int,aB Tryz.prog F (.uniq 5 1 l.length (kH l) :: rest)=some (.uniq 5 1 m.length (kH m))∧(m.length:Int)≤l.length+K
def WrN (F:Nat) (rest:List AV) (K:Int):Prop:=∃m:List Int,aB Tryz.prog F (.v (.slice none 0 0) :: rest)=some (.uniq 5 1 m.length (kH m))∧(m.length:Int)≤K
theorem Wr.at {F:Nat} {rest:List AV} {K:Int} (h:Wr F rest K) (hr:∀x∈rest,Flat x) {l:List Int} (hl:(l.length:Int)+K<900000) :
 ∃m:List Int,(∀s k d c,mvE (aB Tryz.prog) F rest s k d c (some (.row 5 1 l.length (kH l)))=some { dst:=some d,val:=.own d c,dS:=some (s,k,none),new:=some (d,[.row 5 1 m.length (kH m)])})∧(m.length:Int)≤l.length+K:=by
 obtain⟨m,h1,h2⟩:=h l hl
 exact⟨m,fun s k d c=>X5 (vU l) hr h1,h2⟩
theorem WrN.at {F:Nat} {rest:List AV} {K:Int} (h:WrN F rest K) (hr:∀x∈rest,Flat x) :
 ∃m:List Int,(∀(st:St) (d:Nat),lN (aB Tryz.prog) F (.v (.slice none 0 0) :: rest) st (some d)=some { dst:=some d,val:=.own d (st.aU d),new:=some (d,[.row 5 1 m.length (kH m)])})∧(m.length:Int)≤K:=by
 obtain⟨m,h1,h2⟩:=h
 exact⟨m,fun st d=>WR hr h1,h2⟩
def tb:Nat→Int
 | 0=>18446744073709551616
 | k+1=>tb k / 128+1
theorem tb9:tb 9=3:=by decide
theorem z7 (x:Int):x.fdiv (2 ^ min 7 IntKind.u64.bits)=x / 128:=by
 show x.fdiv 128=x / 128
 exact Int.fdiv_eq_ediv_of_nonneg x (by decide)
theorem aCZ (l:List Int):kH l=l.map fun x=>.v (.int .u8 x):=by
 induction l with
 | nil=>rfl
 | cons a l ih=>simp only[kH,List.flatMap_cons,List.map_cons,cU8] at *;rw[ih];rfl
theorem PA (r:cN):bD r=kH r.toList:=by rw[aCZ];rfl
theorem Ya {P:Program} {T:Nat} {k:IntKind} {a b:Int}:gM P .or T (.v (.int k a)) (.v (.int k b))=some (.v (.int k (k.wrap (BitVec.ofInt k.bits a ||| BitVec.ofInt k.bits b).toNat))):=by simp[gM]
theorem aLT:dT Tryz.prog 27=none:=by kernel_rfl
theorem aLU (r:cN) (st:St) (s g o:Nat) (h:st.heap s g=some (.cells (bD r))):dB Tryz.prog st 27 (.ptr s g o) none none=some (.vw s g o 32):=by
 simp only[dB,aLT,aGn,h]
theorem X6 (st:St) (s g:Nat) (r:cN) (h:st.heap s g=some (.cells (bD r))):aX st (.vw s g 0 32)=some (r.toList.length,kH r.toList):=by
 have hl:(bD r).length=32:=aP r
 simp only[aX,h,Nat.zero_add,List.drop_zero];rw[if_pos (by omega),List.take_of_length_le (by omega),PA]
 simp
theorem Zy (n:Int) (hn:Rg n):Wr 215 [.v (.int .u64 n)] 10:=by
 intro l hl;suffices h:∃r,aB Tryz.prog 215 [.uniq 5 1 l.length (kH l),.v (.int .u64 n)]=some r∧∃m:List Int,r=.uniq 5 1 m.length (kH m)∧(m.length:Int)≤l.length+10 by
  obtain⟨r,h,m,rfl,h2⟩:=h;exact⟨m,h,h2⟩
 rw[Qk Tryz.prog Tryz.func215 rfl aFm _ _ _ _ _ (uP _ _)];simp only[Z8,seval,mM,oJ,mN,mO,oK];refine cI (fun m st=>∃(x:Int) (k:Nat) (l':List Int) (a g:Nat),(st.env 0=.own a g∧st.heap a g=some (.row 5 1 l'.length (kH l'))∧st.env 1=.v (.int .u64 x))∧((a=0∧g=0)∨(a=13∧g<st.aU 13))∧l'.length=l.length+k∧0≤x∧x<tb k∧k≤9∧m=x.toNat)
  (fun e st=>e=.exit 0∧∃(x:Int) (l':List Int) (a g:Nat),(st.env 0=.own a g∧st.heap a g=some (.row 5 1 l'.length (kH l'))∧st.env 1=.v (.int .u64 x))∧a≠19∧(l'.length:Int)≤l.length+9) n.toNat ?step ?start ?rest
 case step =>
  rintro m st ⟨x,k,l',a,g,hI,JM,Hv,x0,hx,hk,hm⟩
  by_cases bA:127<x
  ·have hk8:k≤8:=by
    rcases Nat.lt_or_ge k 9 with h|h
    ·omega
    ·have:k=9:=by omega
     subst this;rw[tb9] at hx;omega
   have Su:(l'.length:Int)<1000000:=by omega
   have Kn:x / 128<tb (k+1):=by show x / 128<tb k / 128+1;omega
   have ll:∀b:Int,(l'++[b]).length=l.length+(k+1):=fun b=>by rw[List.length_append,List.length_cons,List.length_nil];omega
   rcases JM with ⟨rfl,rfl⟩|⟨rfl,hg⟩
   ·apply oN ((x / 128).toNat)
    ·simp only[Z8,seval,hI,bA,Ya,Np _ _ _ _ Su,z7];rfl
    ·exact⟨x / 128,k+1,_,13,_,by and_intros<;>(simp only[E8,seval]<;>rfl),.inr ⟨rfl,by simp only[E8,seval]<;>omega⟩,ll _,by omega,Kn,by omega,rfl⟩
   ·have vA:(g=st.aU 13)=False:=eq_false (by omega)
    apply oN ((x / 128).toNat)
    ·simp only[Z8,seval,hI,bA,vA,Ya,Np _ _ _ _ Su,z7];rfl
    ·exact⟨x / 128,k+1,_,13,_,by and_intros<;>(simp only[E8,seval]<;>rfl),.inr ⟨rfl,by simp only[E8,seval]<;>omega⟩,ll _,by omega,Kn,by omega,rfl⟩
  ·apply oT (.exit 0)
   ·simp only[Z8,seval,hI,bA];rfl
   ·exact⟨rfl,x,l',a,g,by simp only[E8,seval,hI],by omega,by omega⟩
 case start=>exact⟨n,0,l,0,0,by simp only[E8,seval,mM,oJ,mN,mO,oK]<;>rfl,.inl ⟨rfl,rfl⟩,rfl,hn.1,hn.2,by omega,rfl⟩
 case rest =>
  rintro e st ⟨rfl,x,l',a,g,hI,ha,Hv⟩
  have ha':(a=19)=False:=eq_false ha
  have Su:(l'.length:Int)<1000000:=by omega
  simp only[Z8,seval,hI,ha',Np _ _ _ _ Su];exact⟨_,Al (.inl rfl) rfl (by simp only[E8,seval]<;>rfl) (by simp only[E8,seval]<;>rfl) (Am _),_,rfl,by rw[List.length_append,List.length_cons,List.length_nil];omega⟩
theorem I4 (n:Int) (hn:Rg n):WrN 215 [.v (.int .u64 n)] 10:=by
 suffices h:∃r,aB Tryz.prog 215 [.v (.slice none 0 0),.v (.int .u64 n)]=some r∧∃m:List Int,r=.uniq 5 1 m.length (kH m)∧(m.length:Int)≤10 by
  obtain⟨r,h,m,rfl,h2⟩:=h;exact⟨m,h,h2⟩
 rw[cL Tryz.func215 rfl aFm rfl];simp only[Z8,seval];refine cI (fun m st=>∃(x:Int) (k:Nat),st.env 1=.v (.int .u64 x)∧((k=0∧st.env 0=.v (.slice none 0 0))∨∃(l':List Int) (g:Nat),(st.env 0=.own 13 g∧st.heap 13 g=some (.row 5 1 l'.length (kH l')))∧g<st.aU 13∧l'.length=k)∧0≤x∧x<tb k∧k≤9∧m=x.toNat)
  (fun e st=>e=.exit 0∧∃(x:Int),st.env 1=.v (.int .u64 x)∧(st.env 0=.v (.slice none 0 0)∨∃(l':List Int) (g:Nat),(st.env 0=.own 13 g∧st.heap 13 g=some (.row 5 1 l'.length (kH l')))∧(l'.length:Int)≤9)) n.toNat ?step ?start ?rest
 case step =>
  rintro m st ⟨x,k,hI,h0,x0,hx,hk,hm⟩
  by_cases bA:127<x
  ·have hk8:k≤8:=by
    rcases Nat.lt_or_ge k 9 with h|h
    ·omega
    ·have:k=9:=by omega
     subst this;rw[tb9] at hx;omega
   have Kn:x / 128<tb (k+1):=by show x / 128<tb k / 128+1;omega
   rcases h0 with ⟨rG,h0⟩|⟨l',g,h0,hg,Hv⟩
   ·have ll:∀b:Int,([b]:List Int).length=k+1:=fun b=>by rw[List.length_cons,List.length_nil];omega
    apply oN ((x / 128).toNat)
    ·simp only[Z8,seval,hI,h0,bA,Ya,WS,z7];rfl
    ·exact⟨x / 128,k+1,by simp only[E8,seval],.inr ⟨_,_,⟨by simp only[E8,seval]<;>rfl,by simp only[E8,seval]<;>rfl⟩,by simp only[E8,seval]<;>omega,ll _⟩,by omega,Kn,by omega,rfl⟩
   ·have Su:(l'.length:Int)<1000000:=by omega
    have ll:∀b:Int,(l'++[b]).length=k+1:=fun b=>by rw[List.length_append,List.length_cons,List.length_nil];omega
    have vA:(g=st.aU 13)=False:=eq_false (by omega)
    apply oN ((x / 128).toNat)
    ·simp only[Z8,seval,hI,h0,bA,vA,Ya,Np _ _ _ _ Su,z7];rfl
    ·exact⟨x / 128,k+1,by simp only[E8,seval],.inr ⟨_,_,⟨by simp only[E8,seval]<;>rfl,by simp only[E8,seval]<;>rfl⟩,by simp only[E8,seval]<;>omega,ll _⟩,by omega,Kn,by omega,rfl⟩
  ·have h0':st.env 0=.v (.slice none 0 0)∨∃(l':List Int) (g:Nat),(st.env 0=.own 13 g∧st.heap 13 g=some (.row 5 1 l'.length (kH l')))∧(l'.length:Int)≤9:=by
    rcases h0 with ⟨_,h0⟩|⟨l',g,h0,hg,Hv⟩
    ·exact .inl h0
    ·exact .inr ⟨l',g,h0,by omega⟩
   apply oT (.exit 0)
   ·simp only[Z8,seval,hI,bA];rfl
   ·exact⟨rfl,x,by simp only[E8,seval,hI],by simpa only[E8,seval] using h0'⟩
 case start=>exact⟨n,0,by simp only[E8,seval]<;>rfl,.inl ⟨rfl,by simp only[E8,seval]<;>rfl⟩,hn.1,hn.2,by omega,rfl⟩
 case rest =>
  rintro e st ⟨rfl,x,hI,h0⟩
  rcases h0 with h0|⟨l',g,h0,Hv⟩
  ·simp only[Z8,seval,hI,h0,WS];exact⟨_,Ql (n:=([IntKind.u8.wrap x]:List Int).length) (cs:=kH [IntKind.u8.wrap x]) (aH (by decide)) (.inl rfl) rfl (by simp only[E8,seval]<;>rfl) (by simp only[E8,seval]<;>rfl) (vU _),_,rfl,by rw[List.length_cons,List.length_nil];omega⟩
  ·have Su:(l'.length:Int)<1000000:=by omega
   simp only[Z8,seval,hI,h0,Np _ _ _ _ Su];exact⟨_,tV rfl (by simp only[E8,seval]<;>rfl) (by simp only[E8,seval]<;>rfl) (vU _),_,rfl,by rw[List.length_append,List.length_cons,List.length_nil];omega⟩
theorem JN (r:cN):Wr 226 [.agg (bD r)] 32:=by
 intro l hl;suffices h:∃x,aB Tryz.prog 226 [.uniq 5 1 l.length (kH l),.agg (bD r)]=some x∧∃m:List Int,x=.uniq 5 1 m.length (kH m)∧(m.length:Int)≤l.length+32 by
  obtain⟨r,h,m,rfl,h2⟩:=h;exact⟨m,h,h2⟩
 have Su:(l.length:Int)<1000000:=by omega
 have hc:bD r=kH r.toList:=PA r
 have hr:(r.toList.length:Int)<1000000:=by simp
 rw[Qk Tryz.prog Tryz.func226 rfl aLV _ _ _ _ _ (uP _ _)];simp only[Z8,seval,mM,oJ,mN,mO,oK,aLU r,X6 _ _ _ r,WU _ _ _ _ Su hr];exact⟨_,Al (.inl rfl) rfl (by simp only[E8,seval]<;>rfl) (by simp only[E8,seval]<;>rfl) (Am _),_,rfl,by rw[List.length_append];simp⟩
theorem X7 (c:dQ) (h:Rg c.aG):Wr 228 [.agg (bB c)] 42:=by
 intro l hl;suffices h:∃r,aB Tryz.prog 228 [.uniq 5 1 l.length (kH l),.agg (bB c)]=some r∧∃m:List Int,r=.uniq 5 1 m.length (kH m)∧(m.length:Int)≤l.length+42 by
  obtain⟨r,h,m,rfl,h2⟩:=h;exact⟨m,h,h2⟩
 obtain⟨m1,e1,b1⟩:=(Zy c.aG h).at (cV (.v _)) (l:=l) (by omega)
 obtain⟨m2,e2,b2⟩:=(JN c.root).at (cV (qQ _)) (l:=m1) (by omega)
 rw[z6 Tryz.prog Tryz.func228 rfl aLW (by kernel_rfl) _ _ _ _ _ (uP _ _)]
 simp only[ZG,seval,Bool.false_and,Prod.mk.injEq,aLX,mM,oJ,mN,mO,oK,e1,e2];exact⟨_,Al (.inl rfl) rfl (by simp only[E8,seval]<;>rfl) (by simp only[E8,seval]<;>rfl) (Am _),_,rfl,by omega⟩
end Go.Ab.Tryz
end
namespace Go.Ab.Tryz
open Classical Go.Proofs Go.Ab
theorem aLY (o p:Option (List Int)) (hn:((ol o).length:Int)<1000000):∃r,aB Tryz.prog 105 [ov aK o,ov aK p]=some r∧∃b:Bool,r=.v (.bool b):=by
 rw[cL Tryz.func105 rfl aFn (by cases o<;>cases p<;>rfl)]
 by_cases g:((ol o).length:Int)=((ol p).length:Int)
 case neg =>
  simp only[Z8,seval,bf g];exact⟨_,bZ rfl (by simp only[E8,seval]<;>rfl) (by first|exact .v _|simp only[eC]),_,rfl⟩
 simp only[Z8,seval,bt g];refine cI (fun m st=>∃k:Nat,(st.env 0=ov aK o∧st.env 1=ov aK p∧st.env 5=.v (.int .i64 k))∧k≤(ol o).length∧m=(ol o).length-k)
  (fun e st=>(e=.ret∧st.env 4=.v (.bool false))∨e=.exit 0) (ol o).length ?step ?start ?rest
 case step =>
  rintro m st ⟨k,hI,hk,hm⟩
  by_cases bA:(k:Int)<(ol o).length
  ·have q0:(0:Int)≤k:=by omega
   have q1:(k:Int)<((ol p).length:Int):=by omega
   have hw:IntKind.i64.wrap ((k:Int)+1)=((k+1:Nat):Int):=by rw[nU _ (by omega) (by omega)];omega
   by_cases hh:gx (0:Int) (ol o) (k:Int)=gx (0:Int) (ol p) (k:Int)
   ·apply oN ((ol o).length-(k+1))
    ·simp only[Z8,seval,hI,bA,q0,q1,bt hh,hw];rfl
    ·exact⟨k+1,by simp only[E8,seval,hI],by omega,rfl⟩
   ·apply oT (.ret)
    ·simp only[Z8,seval,hI,bA,q0,q1,bf hh];rfl
    ·exact .inl ⟨rfl,by simp only[E8,seval]⟩
  ·apply oT (.exit 0)
   ·simp only[Z8,seval,hI,bA];rfl
   ·exact .inr rfl
 case start=>exact⟨0,by simp only[E8,seval]<;>rfl,by omega,by omega⟩
 case rest =>
  rintro e st (⟨rfl,h⟩|rfl)
  ·simp only[Z8,seval,h];exact⟨_,bZ rfl (by simp only[E8,seval,h]<;>rfl) (by first|exact .v _|simp only[eC,h]),_,rfl⟩
  ·simp only[Z8,seval];exact⟨_,bZ rfl (by simp only[E8,seval]<;>rfl) (by first|exact .v _|simp only[eC]),_,rfl⟩
theorem aQ2 (o p:Option (List Int)) (hn:((ol o).length:Int)<1000000):∃r,aB Tryz.prog 103 [ov bI o,ov bI p]=some r∧∃b:Bool,r=.v (.bool b):=by
 rw[cL Tryz.func103 rfl aFo (by cases o<;>cases p<;>rfl)]
 by_cases g:((ol o).length:Int)=((ol p).length:Int)
 case neg =>
  simp only[Z8,seval,bf g];exact⟨_,bZ rfl (by simp only[E8,seval]<;>rfl) (by first|exact .v _|simp only[eC]),_,rfl⟩
 simp only[Z8,seval,bt g];refine cI (fun m st=>∃k:Nat,(st.env 0=ov bI o∧st.env 1=ov bI p∧st.env 5=.v (.int .i64 k))∧k≤(ol o).length∧m=(ol o).length-k)
  (fun e st=>(e=.ret∧st.env 4=.v (.bool false))∨e=.exit 0) (ol o).length ?step ?start ?rest
 case step =>
  rintro m st ⟨k,hI,hk,hm⟩
  by_cases bA:(k:Int)<(ol o).length
  ·have q0:(0:Int)≤k:=by omega
   have q1:(k:Int)<((ol p).length:Int):=by omega
   have hw:IntKind.i64.wrap ((k:Int)+1)=((k+1:Nat):Int):=by rw[nU _ (by omega) (by omega)];omega
   by_cases hh:gx (0:Int) (ol o) (k:Int)=gx (0:Int) (ol p) (k:Int)
   ·apply oN ((ol o).length-(k+1))
    ·simp only[Z8,seval,hI,bA,q0,q1,bt hh,hw];rfl
    ·exact⟨k+1,by simp only[E8,seval,hI],by omega,rfl⟩
   ·apply oT (.ret)
    ·simp only[Z8,seval,hI,bA,q0,q1,bf hh];rfl
    ·exact .inl ⟨rfl,by simp only[E8,seval]⟩
  ·apply oT (.exit 0)
   ·simp only[Z8,seval,hI,bA];rfl
   ·exact .inr rfl
 case start=>exact⟨0,by simp only[E8,seval]<;>rfl,by omega,by omega⟩
 case rest =>
  rintro e st (⟨rfl,h⟩|rfl)
  ·simp only[Z8,seval,h];exact⟨_,bZ rfl (by simp only[E8,seval,h]<;>rfl) (by first|exact .v _|simp only[eC,h]),_,rfl⟩
  ·simp only[Z8,seval];exact⟨_,bZ rfl (by simp only[E8,seval]<;>rfl) (by first|exact .v _|simp only[eC]),_,rfl⟩
theorem aQ3 (a b:sG) (ha:Dw a) (hb:Dw b):∃r,aB Tryz.prog 108 [.agg (iC a),.agg (iC b)]=some r∧∃b:Bool,r=.v (.bool b):=by
 obtain⟨V,hV,nV⟩:=ha
 obtain⟨W,hW,nW⟩:=hb
 obtain⟨r1,e1,B,rfl⟩:=aLY V W nV
 have X8:=kx e1 (bF (bX V) (bX W)) (.v _)
 rw[cL Tryz.func108 rfl aFp rfl];by_cases g1:a.slot=b.slot
 case neg =>
  simp only[Z8,seval,hV,hW,bf g1];exact⟨_,bZ rfl (by simp only[E8,seval]<;>rfl) (by first|exact .v _|simp only[eC]),_,rfl⟩
 by_cases g2:a.root=b.root
 case neg =>
  simp only[Z8,seval,hV,hW,bt g1,g2];exact⟨_,bZ rfl (by simp only[E8,seval]<;>rfl) (by first|exact .v _|simp only[eC]),_,rfl⟩
 by_cases g3:a.target=b.target
 case neg =>
  simp only[Z8,seval,hV,hW,bt g1,g2,g3];exact⟨_,bZ rfl (by simp only[E8,seval]<;>rfl) (by first|exact .v _|simp only[eC]),_,rfl⟩
 simp only[Z8,seval,hV,hW,bt g1,g2,g3,X8];exact⟨_,bZ rfl (by simp only[E8,seval]<;>rfl) (by first|exact .v _|simp only[eC]),_,rfl⟩
theorem aQ4 (a b:Table) (ha:rZ a) (hb:rZ b):∃r,aB Tryz.prog 159 [.agg (cA a),.agg (cA b)]=some r∧∃b:Bool,r=.v (.bool b):=by
 obtain⟨V,hV,nV⟩:=ha
 obtain⟨W,hW,nW⟩:=hb
 obtain⟨r1,e1,B,rfl⟩:=aQ2 V W nV
 have aC0:=kx e1 (bF (dV V) (dV W)) (.v _)
 rw[cL Tryz.func159 rfl aFq rfl];by_cases g1:a.ck=b.ck
 case neg =>
  simp only[Z8,seval,hV,hW,g1];exact⟨_,bZ rfl (by simp only[E8,seval]<;>rfl) (by first|exact .v _|simp only[eC]),_,rfl⟩
 simp only[Z8,seval,hV,hW,g1,aC0];exact⟨_,bZ rfl (by simp only[E8,seval]<;>rfl) (by first|exact .v _|simp only[eC]),_,rfl⟩
def xF (a:Claim):Prop:=∃V:Option (List Int),a.fB=ov aK V∧((ol V).length:Int)≤1000
theorem xF.fl {a:Claim} (h:xF a):Flat (.agg (gV a)):=by obtain⟨V,h,_⟩:=h;exact (Ai a).2 (by rw[h];exact bX V)
theorem aLZ (a b:Claim) (ha:xF a) (hb:xF b):∃r,aB Tryz.prog 232 [.agg (gV a),.agg (gV b)]=some r∧∃b:Bool,r=.v (.bool b):=by
 obtain⟨V,hV,nV⟩:=ha
 obtain⟨W,hW,nW⟩:=hb
 obtain⟨r1,e1,B,rfl⟩:=aLY V W (by omega)
 have X8:=kx e1 (bF (bX V) (bX W)) (.v _)
 rw[cL Tryz.func232 rfl aL0 rfl];by_cases g1:a.source=b.source
 case neg =>
  simp only[Z8,seval,hV,hW,bf g1];exact⟨_,bZ rfl (by simp only[E8,seval]<;>rfl) (by first|exact .v _|simp only[eC]),_,rfl⟩
 by_cases g2:a.target=b.target
 case neg =>
  simp only[Z8,seval,hV,hW,bt g1,bf g2];exact⟨_,bZ rfl (by simp only[E8,seval]<;>rfl) (by first|exact .v _|simp only[eC]),_,rfl⟩
 by_cases g3:a.root=b.root
 case neg =>
  simp only[Z8,seval,hV,hW,bt g1,bt g2,g3];exact⟨_,bZ rfl (by simp only[E8,seval]<;>rfl) (by first|exact .v _|simp only[eC]),_,rfl⟩
 simp only[Z8,seval,hV,hW,bt g1,bt g2,g3,X8];exact⟨_,bZ rfl (by simp only[E8,seval]<;>rfl) (by first|exact .v _|simp only[eC]),_,rfl⟩
theorem aQ5 (a b:gB) (h1:xF a.first) (h2:xF a.second) (h3:xF b.first) (h4:xF b.second):∃r,aB Tryz.prog 216 [.agg (cD a),.agg (cD b)]=some r∧∃b:Bool,r=.v (.bool b):=by
 obtain⟨r1,e1,B1,rfl⟩:=aLZ a.first b.first h1 h3
 obtain⟨r2,e2,B2,rfl⟩:=aLZ a.second b.second h2 h4
 have k1:=kx e1 (bF h1.fl h3.fl) (.v _)
 have k2:=kx e2 (bF h2.fl h4.fl) (.v _)
 rw[cL Tryz.func216 rfl aL1 rfl];cases B1
 ·simp only[Z8,seval,k1];exact⟨_,bZ rfl (by simp only[E8,seval]<;>rfl) (by first|exact .v _|simp only[eC]),_,rfl⟩
 ·simp only[Z8,seval,k1,k2];exact⟨_,bZ rfl (by simp only[E8,seval]<;>rfl) (by first|exact .v _|simp only[eC]),_,rfl⟩
structure pH (x:xY):Prop where
 Hl:∃V:Option (List Int),x.Hl.fB=ov aK V∧((ol V).length:Int)≤1000
 c1:xF x.oV.first
 c2:xF x.oV.second
 WV:∃b:Option (List Int),x.table.iP=ov bI b∧((ol b).length:Int)≤1000∧∀y∈ol b,Rg y
 rb:RB x.block
 ra:Rg x.Hl.slot∧Rg x.Hl.target.aG
 rs:Rg x.oV.first.source∧Rg x.oV.first.target∧Rg x.oV.second.source∧Rg x.oV.second.target
 rt:Rg x.table.ck.aG
 rv:Rg x.verdict.tagged.tag
theorem pH.aFr {x:xY} (h:pH x):Dw x.Hl:=by obtain⟨V,h1,h2⟩:=h.Hl;exact⟨V,h1,by omega⟩
theorem pH.X9 {x:xY} (h:pH x):rZ x.table:=by obtain⟨V,h1,h2,_⟩:=h.WV;exact⟨V,h1,by omega⟩
theorem pH.fl {x:xY} (h:pH x):Flat x.Hl.fB∧Flat x.oV.first.fB∧Flat x.oV.second.fB∧Flat x.table.iP:=by
 obtain⟨V,h1,_⟩:=h.Hl;obtain⟨V2,h2,_⟩:=h.c1;obtain⟨V3,h3,_⟩:=h.c2;obtain⟨V4,h4,_⟩:=h.WV
 rw[h1,h2,h3,h4];exact⟨bX _,bX _,bX _,dV _⟩
theorem pH.flat {x:xY} (h:pH x):Flat (.agg (lB x)):=(VY x).2 h.fl
theorem WW (a b:xY) (ha:pH a) (hb:pH b):∃r,aB Tryz.prog 201 [.agg (lB a),.agg (lB b)]=some r∧∃b:Bool,r=.v (.bool b):=by
 have fa:=ha.fl
 have fb:=hb.fl
 obtain⟨r1,e1,B1,rfl⟩:=aQ3 a.Hl b.Hl ha.aFr hb.aFr
 obtain⟨r2,e2,B2,rfl⟩:=aQ5 a.oV b.oV ha.c1 ha.c2 hb.c1 hb.c2
 obtain⟨r3,e3,B3,rfl⟩:=aQ4 a.table b.table ha.X9 hb.X9
 have k1:=kx e1 (bF ((Ah _).2 fa.1) ((Ah _).2 fb.1)) (.v _)
 have k2:=kx e2 (bF ((nC _).2 ⟨fa.2.1,fa.2.2.1⟩) ((nC _).2 ⟨fb.2.1,fb.2.2.1⟩)) (.v _)
 have k3:=kx e3 (bF ((iE _).2 fa.2.2.2) ((iE _).2 fb.2.2.2)) (.v _)
 rw[cL Tryz.func201 rfl aL2 rfl];by_cases g1:a.kind=b.kind
 case neg =>
  simp only[Z8,seval,mG,mH,bf g1];exact⟨_,bZ rfl (by simp only[E8,seval]<;>rfl) (by first|exact .v _|simp only[eC]),_,rfl⟩
 by_cases g2:a.block=b.block
 case neg =>
  simp only[Z8,seval,mG,mH,bt g1,g2];exact⟨_,bZ rfl (by simp only[E8,seval]<;>rfl) (by first|exact .v _|simp only[eC]),_,rfl⟩
 cases B1
 ·simp only[Z8,seval,mG,mH,bt g1,g2,k1];exact⟨_,bZ rfl (by simp only[E8,seval]<;>rfl) (by first|exact .v _|simp only[eC]),_,rfl⟩
 cases B2
 ·simp only[Z8,seval,mG,mH,bt g1,g2,k1,k2];exact⟨_,bZ rfl (by simp only[E8,seval]<;>rfl) (by first|exact .v _|simp only[eC]),_,rfl⟩
 cases B3
 ·simp only[Z8,seval,mG,mH,bt g1,g2,k1,k2,k3];exact⟨_,bZ rfl (by simp only[E8,seval]<;>rfl) (by first|exact .v _|simp only[eC]),_,rfl⟩
 by_cases g3:a.verdict=b.verdict
 case neg =>
  simp only[Z8,seval,mG,mH,bt g1,g2,k1,k2,k3,g3];exact⟨_,bZ rfl (by simp only[E8,seval]<;>rfl) (by first|exact .v _|simp only[eC]),_,rfl⟩
 by_cases g4:a.write=b.write
 case neg =>
  simp only[Z8,seval,mG,mH,bt g1,g2,k1,k2,k3,g3,bf g4];exact⟨_,bZ rfl (by simp only[E8,seval]<;>rfl) (by first|exact .v _|simp only[eC]),_,rfl⟩
 simp only[Z8,seval,mG,mH,bt g1,g2,k1,k2,k3,g3,bt g4];exact⟨_,bZ rfl (by simp only[E8,seval]<;>rfl) (by first|exact .v _|simp only[eC]),_,rfl⟩
theorem aC1 (cs:List AV) (o:Nat) (h:32≤cs.length-o):fD Tryz.prog 26 cs o=some (.agg (rd cs o 32)):=by
 have e:fS Tryz.prog 26=some (true,32):=by kernel_rfl
 unfold fD;simp only[e];rw[if_pos ⟨by omega,h⟩]
theorem Y0:sT Tryz.prog 26=some 32:=by kernel_rfl
theorem aL3:eH Tryz.prog 26=some tO:=by kernel_rfl
theorem aL4:jK Tryz.prog 26=some (32,1):=by kernel_rfl
theorem aL5:dT Tryz.prog 26=none:=by kernel_rfl
theorem aL6 (r:cN) (st:St) (s g o:Nat) (h:st.heap s g=some (.cells (bD r))):dB Tryz.prog st 26 (.ptr s g o) none none=some (.vw s g o 32):=by
 simp only[dB,aL5,aL4,h]
theorem aGL (st:St) (x:AV) {k:IntKind} {i:Int} (h0:0≤i) (h1:i<32):bH Tryz.prog st 26 x (.v (.int k i))=vJ x (i.toNat * 1):=JA aL4 st x h0 h1
theorem yG (x:Int):(IntKind.u64.wrap x<0)=False:=by
 refine eq_false ?_
 unfold IntKind.wrap;simp[IntKind.signed,IntKind.bits]
 omega
theorem aQ6 (w:qM):∃r:cN,aB Tryz.prog 246 [.agg (gJ w)]=some (.agg (bD r)):=by
 suffices h:∃x,aB Tryz.prog 246 [.agg (gJ w)]=some x∧∃r:cN,x=.agg (bD r) by
  obtain⟨x,h,r,rfl⟩:=h;exact⟨r,h⟩
 rw[cL Tryz.func246 rfl aL7 rfl];simp only[Z8,seval,aL3];refine cI (fun m st=>∃(k:Nat) (r:cN),(st.env 1=.ptr 1 0 0∧st.heap 1 0=some (.cells (gJ w))∧st.env 3=.ptr 3 0 0∧st.heap 3 0=some (.cells (bD r))∧st.env 2=.ptr 2 0 0∧st.heap 2 0=some (.cells (bD dR))∧st.env 4=.v (.int .i64 k))∧k≤32∧m=32-k)
  (fun e st=>e=.exit 0∧∃r:cN,st.env 3=.ptr 3 0 0∧st.heap 3 0=some (.cells (bD r))∧st.env 2=.ptr 2 0 0∧st.heap 2 0=some (.cells (bD dR))) 32 ?step ?start ?rest
 case step =>
  rintro m st ⟨k,r,hI,hk,hm⟩
  by_cases bA:(k:Int)<32
  ·have q0:(0:Int)≤k:=by omega
   have hw:IntKind.i64.wrap ((k:Int)+1)=((k+1:Nat):Int):=by rw[nU _ (by omega) (by omega)];omega
   obtain⟨i,hi⟩:∃i:Int,i=31-(k:Int):=⟨_,rfl⟩
   have hi1:IntKind.i64.wrap (31-(k:Int))=i:=by rw[nU _ (by omega) (by omega),hi]
   have i0:0≤i:=by omega
   have i1:i<32:=by omega
   have hj:IntKind.i64.wrap ((k:Int).tdiv 8)=(k:Int) / 8:=by rw[Int.tdiv_eq_ediv_of_nonneg q0,nU _ (by omega) (by omega)]
   have j0:0≤(k:Int) / 8:=by omega
   have j1:(k:Int) / 8<4:=by omega
   have i31:i.toNat≤31:=by omega
   have gw:=Sz w j0 j1
   have Pb:=fun x=>Yw r i.toNat (i.toNat+1) x (by omega) rfl
   apply oN (32-(k+1))
   ·simp only[Z8,seval,hI,bA,q0,hi1,i0,i1,hj,j0,j1,Iq,aGL,gw,i31,Pb,yG,Nat.mul_one,hw];rfl
   ·exact⟨k+1,_,by simp only[E8,seval,hI]<;>rfl,by omega,rfl⟩
  ·apply oT (.exit 0)
   ·simp only[Z8,seval,hI,bA];rfl
   ·exact⟨rfl,r,by simp only[E8,seval,hI]⟩
 case start=>exact⟨0,dR,by simp only[E8,seval]<;>rfl,by omega,by omega⟩
 case rest =>
  rintro e st ⟨rfl,r,hI⟩
  simp only[Z8,seval,hI,aC1,Y0];exact⟨_,fL rfl (by simp only[E8,seval,hI,aC1,Y0]<;>rfl) (by simp only[Z8,seval,hI,aC1,Y0]<;>rfl) (by simp only[eC,and_self,hI,aC1,Y0]),r,rfl⟩
theorem aQ7 (w:qM):∃r:cN,∀(st:St) (d:Option Nat),aO (aB Tryz.prog) 246 [.agg (gJ w)] st d=some { dst:=d,val:=.agg (bD r)}:=by
 obtain⟨r,h⟩:=aQ6 w
 exact⟨r,kx h (cV (.agg _ (iF w))) (qQ r)⟩
theorem aL8 (x:qM):Wr 227 [.agg (gJ x)] 32:=by
 intro l hl;suffices h:∃r,aB Tryz.prog 227 [.uniq 5 1 l.length (kH l),.agg (gJ x)]=some r∧∃m:List Int,r=.uniq 5 1 m.length (kH m)∧(m.length:Int)≤l.length+32 by
  obtain⟨r,h,m,rfl,h2⟩:=h;exact⟨m,h,h2⟩
 have Su:(l.length:Int)<1000000:=by omega
 obtain⟨r,kr⟩:=aQ7 x
 have hr:(r.toList.length:Int)<1000000:=by simp
 rw[Qk Tryz.prog Tryz.func227 rfl aL9 _ _ _ _ _ (uP _ _)];simp only[Z8,seval,mM,oJ,mN,mO,oK,kr,aL3,Y0,aL6 r,X6 _ _ _ r,WU _ _ _ _ Su hr];exact⟨_,Al (.inl rfl) rfl (by simp only[E8,seval]<;>rfl) (by simp only[E8,seval]<;>rfl) (Am _),_,rfl,by rw[List.length_append];simp⟩
theorem aQ8 (b:Bool):Wr 229 [.v (.bool b)] 1:=by
 intro l hl;suffices h:∃r,aB Tryz.prog 229 [.uniq 5 1 l.length (kH l),.v (.bool b)]=some r∧∃m:List Int,r=.uniq 5 1 m.length (kH m)∧(m.length:Int)≤l.length+1 by
  obtain⟨r,h,m,rfl,h2⟩:=h;exact⟨m,h,h2⟩
 have Su:(l.length:Int)<1000000:=by omega
 rw[Qk Tryz.prog Tryz.func229 rfl aMa _ _ _ _ _ (uP _ _)];cases b
 all_goals
  simp only[Z8,seval,mM,oJ,mN,mO,oK,Np _ _ _ _ Su];exact⟨_,Al (.inl rfl) rfl (by simp only[E8,seval]<;>rfl) (by simp only[E8,seval]<;>rfl) (Am _),_,rfl,by rw[List.length_append,List.length_cons,List.length_nil];omega⟩
theorem iM (x:Int):Rg (IntKind.u64.wrap x):=by
 unfold Rg IntKind.wrap;simp[IntKind.signed,IntKind.bits]
 omega
theorem aGM (V:Option (List Int)) (nV:((ol V).length:Int)≤1000):Wr 230 [ov aK V] 10010:=by
 intro l hl;suffices h:∃r,aB Tryz.prog 230 [.uniq 5 1 l.length (kH l),ov aK V]=some r∧∃m:List Int,r=.uniq 5 1 m.length (kH m)∧(m.length:Int)≤l.length+10010 by
  obtain⟨r,h,m,rfl,h2⟩:=h;exact⟨m,h,h2⟩
 obtain⟨m1,e1,b1⟩:=(Zy _ (iM ((ol V).length:Int))).at (cV (.v _)) (l:=l) (by omega)
 rw[Qk Tryz.prog Tryz.func230 rfl aMb _ _ _ _ _ (uP _ _)];simp only[Z8,seval,mM,oJ,mN,mO,oK,e1];refine cI (fun m st=>∃(k:Nat) (p:List Int) (a g:Nat),(st.env 0=.own a g∧st.heap a g=some (.row 5 1 p.length (kH p))∧st.env 1=ov aK V∧st.env 5=.v (.int .i64 k))∧((a=10∧g<st.aU 10)∨(a=24∧g<st.aU 24)∨(a=38∧g<st.aU 38))∧(p.length:Int)≤l.length+10+10 * k∧k≤(ol V).length∧m=(ol V).length-k)
  (fun e st=>e=.exit 0∧∃(p:List Int) (a g:Nat),(st.env 0=.own a g∧st.heap a g=some (.row 5 1 p.length (kH p)))∧(p.length:Int)≤l.length+10010) (ol V).length ?step ?start ?rest
 case step =>
  rintro m st ⟨k,p,a,g,hI,JM,hp,hk,hm⟩
  by_cases bA:(k:Int)<(ol V).length
  ·have q0:(0:Int)≤k:=by omega
   have hw:IntKind.i64.wrap ((k:Int)+1)=((k+1:Nat):Int):=by rw[nU _ (by omega) (by omega)];omega
   have fin:∀(p':List Int),(p'.length:Int)≤p.length+10→(p'.length:Int)≤l.length+10+10 * ((k+1:Nat):Int):=fun p' h=>by omega
   by_cases h1:(k:Int)=0
   ·have z0:(0:Int)<((ol V).length:Int):=by omega
    have z1:(0:Int)≤0:=by omega
    obtain⟨p',e2,b2⟩:=(Zy _ (iM (gx (0:Int) (ol V) (0:Int)))).at (cV (.v _)) (l:=p) (by omega)
    rcases JM with ⟨rfl,hg⟩|⟨rfl,hg⟩|⟨rfl,hg⟩
    ·apply oN ((ol V).length-(k+1))
     ·simp only[Z8,seval,hI,bA,q0,bt h1,z0,z1,e2,hw];rfl
     ·exact⟨k+1,p',_,_,⟨by simp only[E8,seval]<;>rfl,by simp only[E8,seval]<;>rfl,by simp only[E8,seval,hI],by simp only[E8,seval]⟩,.inr (.inl ⟨rfl,by simp only[E8,seval]<;>omega⟩),fin p' b2,by omega,rfl⟩
    ·have vA:(g=st.aU 24)=False:=eq_false (by omega)
     apply oN ((ol V).length-(k+1))
     ·simp only[Z8,seval,hI,vA,bA,q0,bt h1,z0,z1,e2,hw];rfl
     ·exact⟨k+1,p',_,_,⟨by simp only[E8,seval]<;>rfl,by simp only[E8,seval]<;>rfl,by simp only[E8,seval,hI],by simp only[E8,seval]⟩,.inr (.inl ⟨rfl,by simp only[E8,seval]<;>omega⟩),fin p' b2,by omega,rfl⟩
    ·apply oN ((ol V).length-(k+1))
     ·simp only[Z8,seval,hI,bA,q0,bt h1,z0,z1,e2,hw];rfl
     ·exact⟨k+1,p',_,_,⟨by simp only[E8,seval]<;>rfl,by simp only[E8,seval]<;>rfl,by simp only[E8,seval,hI],by simp only[E8,seval]⟩,.inr (.inl ⟨rfl,by simp only[E8,seval]<;>omega⟩),fin p' b2,by omega,rfl⟩
   ·have p9:IntKind.i64.wrap ((k:Int)-1)=(k:Int)-1:=nU _ (by omega) (by omega)
    have y0:(0:Int)≤(k:Int)-1:=by omega
    have y1:(k:Int)-1<((ol V).length:Int):=by omega
    obtain⟨p',e2,b2⟩:=(Zy _ (iM (IntKind.i64.wrap (IntKind.i64.wrap (gx (0:Int) (ol V) (k:Int)-gx (0:Int) (ol V) ((k:Int)-1))-1)))).at (cV (.v _)) (l:=p) (by omega)
    rcases JM with ⟨rfl,hg⟩|⟨rfl,hg⟩|⟨rfl,hg⟩
    ·apply oN ((ol V).length-(k+1))
     ·simp only[Z8,seval,hI,bA,q0,bf h1,p9,y0,y1,e2,hw];rfl
     ·exact⟨k+1,p',_,_,⟨by simp only[E8,seval]<;>rfl,by simp only[E8,seval]<;>rfl,by simp only[E8,seval,hI],by simp only[E8,seval]⟩,.inr (.inr ⟨rfl,by simp only[E8,seval]<;>omega⟩),fin p' b2,by omega,rfl⟩
    ·apply oN ((ol V).length-(k+1))
     ·simp only[Z8,seval,hI,bA,q0,bf h1,p9,y0,y1,e2,hw];rfl
     ·exact⟨k+1,p',_,_,⟨by simp only[E8,seval]<;>rfl,by simp only[E8,seval]<;>rfl,by simp only[E8,seval,hI],by simp only[E8,seval]⟩,.inr (.inr ⟨rfl,by simp only[E8,seval]<;>omega⟩),fin p' b2,by omega,rfl⟩
    ·have vA:(g=st.aU 38)=False:=eq_false (by omega)
     apply oN ((ol V).length-(k+1))
     ·simp only[Z8,seval,hI,vA,bA,q0,bf h1,p9,y0,y1,e2,hw];rfl
     ·exact⟨k+1,p',_,_,⟨by simp only[E8,seval]<;>rfl,by simp only[E8,seval]<;>rfl,by simp only[E8,seval,hI],by simp only[E8,seval]⟩,.inr (.inr ⟨rfl,by simp only[E8,seval]<;>omega⟩),fin p' b2,by omega,rfl⟩
  ·apply oT (.exit 0)
   ·simp only[Z8,seval,hI,bA];rfl
   ·exact⟨rfl,p,a,g,by simp only[E8,seval,hI],by omega⟩
 case start=>exact⟨0,m1,10,0,by and_intros<;>(simp only[E8,seval,mM,oJ,mN,mO,oK]<;>rfl),.inl ⟨rfl,by simp only[E8,seval,mM,oJ,mN,mO,oK]<;>omega⟩,by omega,by omega,by omega⟩
 case rest =>
  rintro e st ⟨rfl,p,a,g,hI,hp⟩
  simp only[Z8,seval,hI];exact⟨_,Al (.inl rfl) rfl (by simp only[E8,seval]<;>rfl) (by simp only[E8,seval,hI]<;>rfl) (Am _),_,rfl,hp⟩
theorem aQ9 (c:Claim) (V:Option (List Int)) (hV:c.fB=ov aK V) (nV:((ol V).length:Int)≤1000) (h1:Rg c.source) (h2:Rg c.target):Wr 231 [.agg (gV c)] 10100:=by
 intro l hl;suffices h:∃r,aB Tryz.prog 231 [.uniq 5 1 l.length (kH l),.agg (gV c)]=some r∧∃m:List Int,r=.uniq 5 1 m.length (kH m)∧(m.length:Int)≤l.length+10100 by
  obtain⟨r,h,m,rfl,h2⟩:=h;exact⟨m,h,h2⟩
 obtain⟨m1,e1,b1⟩:=(Zy c.source h1).at (cV (.v _)) (l:=l) (by omega)
 obtain⟨m2,e2,b2⟩:=(Zy c.target h2).at (cV (.v _)) (l:=m1) (by omega)
 obtain⟨m3,e3,b3⟩:=(JN c.root).at (cV (qQ _)) (l:=m2) (by omega)
 obtain⟨m4,e4,b4⟩:=(aGM V nV).at (cV (bX V)) (l:=m3) (by omega)
 rw[z6 Tryz.prog Tryz.func231 rfl aFs (by kernel_rfl) _ _ _ _ _ (uP _ _)]
 simp only[ZG,seval,Bool.false_and,Prod.mk.injEq,aFt,mM,oJ,mN,mO,oK,e1,e2,e3,e4,hV,Ca,Cb,Is,It];exact⟨_,Al (.inl rfl) rfl (by simp only[E8,seval]<;>rfl) (by simp only[E8,seval]<;>rfl) (Am _),_,rfl,by omega⟩
theorem aRa (c:Claim) (V:Option (List Int)) (hV:c.fB=ov aK V) (nV:((ol V).length:Int)≤1000) (h1:Rg c.source) (h2:Rg c.target):WrN 231 [.agg (gV c)] 10100:=by
 suffices h:∃r,aB Tryz.prog 231 [.v (.slice none 0 0),.agg (gV c)]=some r∧∃m:List Int,r=.uniq 5 1 m.length (kH m)∧(m.length:Int)≤10100 by
  obtain⟨r,h,m,rfl,h2⟩:=h;exact⟨m,h,h2⟩
 obtain⟨m1,e1,b1⟩:=(I4 c.source h1).at (cV (.v _))
 obtain⟨m2,e2,b2⟩:=(Zy c.target h2).at (cV (.v _)) (l:=m1) (by omega)
 obtain⟨m3,e3,b3⟩:=(JN c.root).at (cV (qQ _)) (l:=m2) (by omega)
 obtain⟨m4,e4,b4⟩:=(aGM V nV).at (cV (bX V)) (l:=m3) (by omega)
 rw[cG Tryz.func231 rfl aFs (by kernel_rfl) rfl]
 simp only[ZG,seval,Bool.false_and,Prod.mk.injEq,aFt,e1,e2,e3,e4,hV,Ca,Cb,Is,It];exact⟨_,tV rfl (by simp only[E8,seval]<;>rfl) (by simp only[E8,seval]<;>rfl) (vU _),_,rfl,by omega⟩
theorem aRb (x:Block) (h:RB x):WrN 210 [.agg (aV x)] 400:=by
 suffices h:∃r,aB Tryz.prog 210 [.v (.slice none 0 0),.agg (aV x)]=some r∧∃m:List Int,r=.uniq 5 1 m.length (kH m)∧(m.length:Int)≤400 by
  obtain⟨r,h,m,rfl,h2⟩:=h;exact⟨m,h,h2⟩
 obtain⟨m1,e1,b1⟩:=(I4 x.slot h.sl).at (cV (.v _))
 obtain⟨m2,e2,b2⟩:=(JN x.root).at (cV (qQ _)) (l:=m1) (by omega)
 obtain⟨m3,e3,b3⟩:=(JN x.parent).at (cV (qQ _)) (l:=m2) (by omega)
 obtain⟨m4,e4,b4⟩:=(JN x.jL).at (cV (qQ _)) (l:=m3) (by omega)
 obtain⟨m5,e5,b5⟩:=(aL8 x.diff).at (cV (.agg _ (iF _))) (l:=m4) (by omega)
 obtain⟨m6,e6,b6⟩:=(aL8 x.HC).at (cV (.agg _ (iF _))) (l:=m5) (by omega)
 obtain⟨m7,e7,b7⟩:=(X7 x.gI h.j).at (cV (.agg _ (bR _))) (l:=m6) (by omega)
 obtain⟨m8,e8,b8⟩:=(X7 x.fin h.f).at (cV (.agg _ (bR _))) (l:=m7) (by omega)
 obtain⟨m9,e9,b9⟩:=(X7 x.dW.pj h.pj).at (cV (.agg _ (bR _))) (l:=m8) (by omega)
 obtain⟨m10,e10,b10⟩:=(X7 x.dW.pf h.pf).at (cV (.agg _ (bR _))) (l:=m9) (by omega)
 obtain⟨m11,e11,b11⟩:=(aQ8 x.Gg).at (cV (.v _)) (l:=m10) (by omega)
 rw[cG Tryz.func210 rfl aMc (by kernel_rfl) rfl]
 simp only[ZG,seval,Bool.false_and,Prod.mk.injEq,aMd,e1,e2,e3,e4,e5,e6,e7,e8,e9,e10,e11];exact⟨_,tV rfl (by simp only[E8,seval]<;>rfl) (by simp only[E8,seval]<;>rfl) (vU _),_,rfl,by omega⟩
def yH (r:AV):Prop:=∃(o:Option (List Int)) (e:Int),r=.eG [ov kH o,.v (.int .i64 e)]
theorem yH.none (e:Int):yH (.eG [.v (.slice none 0 0),.v (.int .i64 e)]):=⟨Option.none,e,rfl⟩
theorem yH.some (l:List Int) (e:Int):yH (.eG [.sl l.length (kH l),.v (.int .i64 e)]):=⟨Option.some l,e,rfl⟩
theorem aRc (a:sG) (V:Option (List Int)) (hV:a.fB=ov aK V) (nV:((ol V).length:Int)≤1000) (h1:Rg a.slot) (h2:Rg a.target.aG):∃r,aB Tryz.prog 211 [.agg (iC a)]=some r∧yH r:=by
 have NG:=kx (c40 V (by omega) 1024) (bF (bX V) (.v _)) (.v _)
 obtain⟨e,he⟩:∃e,DL (ol V) 1024=e:=⟨_,rfl⟩
 rw[he] at NG;obtain⟨m1,e1,b1⟩:=(I4 a.slot h1).at (cV (.v _))
 obtain⟨m2,e2,b2⟩:=(JN a.root).at (cV (qQ _)) (l:=m1) (by omega)
 obtain⟨m3,e3,b3⟩:=(X7 a.target h2).at (cV (.agg _ (bR _))) (l:=m2) (by omega)
 obtain⟨m4,e4,b4⟩:=(aGM V nV).at (cV (bX V)) (l:=m3) (by omega)
 rw[cG Tryz.func211 rfl aMe (by kernel_rfl) rfl]
 by_cases g:e=0
 ·simp only[ZG,seval,Bool.false_and,Prod.mk.injEq,aFu,hV,NG,bt g,e1,e2,e3,e4,Ca,Cb,Is,It];exact⟨_,dK rfl rfl rfl (by simp only[E8,seval,Ec]<;>rfl) (by simp only[E8,seval,Ec]<;>rfl),yH.some _ _⟩
 ·simp only[ZG,seval,Bool.false_and,Prod.mk.injEq,aFu,hV,NG,bf g];exact⟨_,dK rfl rfl rfl (by simp only[E8,seval]<;>rfl) (by simp only[E8,seval]<;>rfl),yH.none _⟩
theorem aRd (a:gB) (h1:xF a.first) (h2:xF a.second) (r1:Rg a.first.source) (r2:Rg a.first.target) (r3:Rg a.second.source) (r4:Rg a.second.target):∃r,aB Tryz.prog 212 [.agg (cD a)]=some r∧yH r:=by
 obtain⟨V,hV,nV⟩:=id h1
 obtain⟨W,hW,nW⟩:=id h2
 have kV:=kx (c40 V (by omega) 1024) (bF (bX V) (.v _)) (.v _)
 have kW:=kx (c40 W (by omega) 1024) (bF (bX W) (.v _)) (.v _)
 obtain⟨ev,DM⟩:∃e,DL (ol V) 1024=e:=⟨_,rfl⟩
 obtain⟨ew,hew⟩:∃e,DL (ol W) 1024=e:=⟨_,rfl⟩
 rw[DM] at kV;rw[hew] at kW;obtain⟨m1,e1,b1⟩:=(aRa a.first V hV nV r1 r2).at (cV h1.fl)
 obtain⟨m2,e2,b2⟩:=(aQ9 a.second W hW nW r3 r4).at (cV h2.fl) (l:=m1) (by omega)
 rw[cL Tryz.func212 rfl aMf rfl];by_cases g1:ev=0
 case neg =>
  simp only[Z8,seval,hV,hW,kV,bf g1];exact⟨_,dK rfl rfl rfl (by simp only[E8,seval]<;>rfl) (by simp only[E8,seval]<;>rfl),yH.none _⟩
 by_cases g2:ew=0
 case neg =>
  simp only[Z8,seval,hV,hW,kV,kW,bt g1,bf g2];exact⟨_,dK rfl rfl rfl (by simp only[E8,seval]<;>rfl) (by simp only[E8,seval]<;>rfl),yH.none _⟩
 simp only[Z8,seval,hV,hW,kV,kW,bt g1,bt g2,e1,e2];exact⟨_,dK rfl rfl rfl (by simp only[E8,seval,Ec]<;>rfl) (by simp only[E8,seval,Ec]<;>rfl),yH.some _ _⟩
theorem aRe (t:Table) (b:Option (List Int)) (hb:t.iP=ov bI b) (nb:((ol b).length:Int)≤1000) (rb:∀y∈ol b,Rg y) (rt:Rg t.ck.aG):∃r,aB Tryz.prog 213 [.agg (cA t)]=some r∧yH r:=by
 have hfT:Flat (.agg (cA t)):=(iE t).2 (by rw[hb];exact dV b)
 obtain⟨m1,e1,b1⟩:=(I4 t.ck.aG rt).at (cV (.v _))
 obtain⟨m2,e2,b2⟩:=(JN t.ck.root).at (cV (qQ _)) (l:=m1) (by omega)
 obtain⟨m3,e3,b3⟩:=(Zy _ (iM ((ol b).length:Int))).at (cV (.v _)) (l:=m2) (by omega)
 rw[cG Tryz.func213 rfl aMg (by kernel_rfl) rfl]
 have g1:¬(1024:Int)<((ol b).length:Int):=by omega
 simp only[ZG,seval,Bool.false_and,Prod.mk.injEq,PB,hb,g1,e1,e2,e3,Ca,Cb,Is,It];refine kS (fun m st=>∃(k:Nat) (p:List Int) (a g:Nat),(st.env 1=.ptr 1 0 0∧st.heap 1 0=some (.cells (cA t))∧st.env 4=.own a g∧st.heap a g=some (.row 5 1 p.length (kH p))∧st.env 5=.v (.int .i64 k))∧((a=22∧g=0)∨(a=36∧g<st.aU 36))∧(p.length:Int)≤100+10 * k∧k≤(ol b).length∧m=(ol b).length-k)
  (fun e st=>e=.exit 0∧∃(p:List Int) (a g:Nat),st.env 4=.own a g∧st.heap a g=some (.row 5 1 p.length (kH p))) (ol b).length ?step ?start ?rest
 case step =>
  rintro m st ⟨k,p,a,g,hI,JM,hp,hk,hm⟩
  by_cases bA:(k:Int)<(ol b).length
  ·have q0:(0:Int)≤k:=by omega
   have hw:IntKind.i64.wrap ((k:Int)+1)=((k+1:Nat):Int):=by rw[nU _ (by omega) (by omega)];omega
   obtain⟨p',e4,b4⟩:=(Zy _ (rb _ (sH (z:=(0:Int)) q0 bA))).at (cV (.v _)) (l:=p) (by omega)
   rcases JM with ⟨rfl,rfl⟩|⟨rfl,hg⟩
   ·apply Cx ((ol b).length-(k+1))
    ·simp only[ZG,seval,Bool.false_and,Prod.mk.injEq,PB,hI,bA,q0,hb,e4,hw];rfl
    ·exact⟨k+1,p',36,_,⟨by simp only[E8,seval,hI],by simp only[E8,seval,hI],by simp only[E8,seval]<;>rfl,by simp only[E8,seval]<;>rfl,by simp only[E8,seval]⟩,.inr ⟨rfl,by simp only[E8,seval]<;>omega⟩,by omega,by omega,rfl⟩
   ·have vA:(g=st.aU 36)=False:=eq_false (by omega)
    apply Cx ((ol b).length-(k+1))
    ·simp only[ZG,seval,Bool.false_and,Prod.mk.injEq,PB,hI,vA,bA,q0,hb,e4,hw];rfl
    ·exact⟨k+1,p',36,_,⟨by simp only[E8,seval,hI],by simp only[E8,seval,hI],by simp only[E8,seval]<;>rfl,by simp only[E8,seval]<;>rfl,by simp only[E8,seval]⟩,.inr ⟨rfl,by simp only[E8,seval]<;>omega⟩,by omega,by omega,rfl⟩
  ·apply HF (.exit 0)
   ·simp only[ZG,seval,Bool.false_and,Prod.mk.injEq,PB,hI,bA,hb];rfl
   ·exact⟨rfl,p,a,g,by simp only[E8,seval,hI],by simp only[E8,seval,hI]⟩
 case start=>exact⟨0,m3,22,0,by and_intros<;>(simp only[E8,seval]<;>rfl),.inl ⟨rfl,rfl⟩,by omega,by omega,by omega⟩
 case rest =>
  rintro e st ⟨rfl,p,a,g,h4,hh⟩
  simp only[ZG,seval,Bool.false_and,Prod.mk.injEq,PB,h4,hh];exact⟨_,dK rfl rfl rfl (by simp only[E8,seval,h4,hh,Ec]<;>rfl) (by simp only[E8,seval,h4,hh,Ec]<;>rfl),yH.some _ _⟩
theorem aRf (v:gW) (h:Rg v.tagged.tag):∃r,aB Tryz.prog 214 [.agg (dJ v)]=some r∧yH r:=by
 obtain⟨m1,e1,b1⟩:=(I4 v.tagged.tag h).at (cV (.v _))
 obtain⟨m2,e2,b2⟩:=(Zy _ (iM v.kind)).at (cV (.v _)) (l:=m1) (by omega)
 obtain⟨m3,e3,b3⟩:=(JN v.dU).at (cV (qQ _)) (l:=m2) (by omega)
 rw[cG Tryz.func214 rfl aMh (by kernel_rfl) rfl]
 by_cases g1:v.kind<1
 ·simp only[ZG,seval,Bool.false_and,Prod.mk.injEq,Y1,g1];exact⟨_,dK rfl rfl rfl (by simp only[E8,seval]<;>rfl) (by simp only[E8,seval]<;>rfl),yH.none _⟩
 by_cases g2:4<v.kind
 ·simp only[ZG,seval,Bool.false_and,Prod.mk.injEq,Y1,g1,g2];exact⟨_,dK rfl rfl rfl (by simp only[E8,seval]<;>rfl) (by simp only[E8,seval]<;>rfl),yH.none _⟩
 simp only[ZG,seval,Bool.false_and,Prod.mk.injEq,Y1,g1,g2,e1,e2,e3];exact⟨_,dK rfl rfl rfl (by simp only[E8,seval,Ec]<;>rfl) (by simp only[E8,seval,Ec]<;>rfl),yH.some _ _⟩
theorem aRg (x:xY) (h:pH x):∃r,aB Tryz.prog 200 [.agg (lB x)]=some r∧yH r:=by
 have pG:=h.fl
 obtain⟨V,hV,nV⟩:=h.Hl
 obtain⟨b,hb,nb,rb⟩:=h.WV
 obtain⟨m1,e1,b1⟩:=(aRb x.block h.rb).at (cV (tJ _))
 obtain⟨r2,e2,o2,f2,rfl⟩:=aRc x.Hl V hV nV h.ra.1 h.ra.2
 obtain⟨r3,e3,o3,f3,rfl⟩:=aRd x.oV h.c1 h.c2 h.rs.1 h.rs.2.1 h.rs.2.2.1 h.rs.2.2.2
 obtain⟨r4,e4,o4,f4,rfl⟩:=aRe x.table b hb nb rb h.rt
 obtain⟨r5,e5,o5,f5,rfl⟩:=aRf x.verdict h.rv
 have k2:=kx e2 (cV ((Ah _).2 pG.1)) (.eG _ (bF (zJ _) (.v _)))
 have k3:=kx e3 (cV ((nC _).2 ⟨pG.2.1,pG.2.2.1⟩)) (.eG _ (bF (zJ _) (.v _)))
 have k4:=kx e4 (cV ((iE _).2 pG.2.2.2)) (.eG _ (bF (zJ _) (.v _)))
 have k5:=kx e5 (cV (.agg _ (jS _))) (.eG _ (bF (zJ _) (.v _)))
 obtain⟨m6,e6,b6⟩:=(I4 _ (iM x.write)).at (cV (.v _))
 obtain⟨m7,e7,b7⟩:=(Zy _ (iM x.qL)).at (cV (.v _)) (l:=m6) (by omega)
 rw[cL Tryz.func200 rfl aMi rfl];by_cases g2:x.kind=2
 ·simp only[Z8,seval,bt g2,e1];exact⟨_,dK rfl rfl rfl (by simp only[E8,seval,Ec]<;>rfl) (by simp only[E8,seval,Ec]<;>rfl),yH.some _ _⟩
 by_cases g3:x.kind=3
 ·simp only[Z8,seval,bf g2,bt g3,k2,dN];exact⟨_,dK rfl rfl rfl (by simp only[E8,seval,rM]<;>rfl) (by simp only[E8,seval,rM]<;>rfl),_,_,rfl⟩
 by_cases g4:x.kind=4
 ·simp only[Z8,seval,bf g2,bf g3,bt g4,k3,dN];exact⟨_,dK rfl rfl rfl (by simp only[E8,seval,rM]<;>rfl) (by simp only[E8,seval,rM]<;>rfl),_,_,rfl⟩
 by_cases g5:x.kind=5
 ·simp only[Z8,seval,bf g2,bf g3,bf g4,bt g5,k4,dN];exact⟨_,dK rfl rfl rfl (by simp only[E8,seval,rM]<;>rfl) (by simp only[E8,seval,rM]<;>rfl),_,_,rfl⟩
 by_cases g6:x.kind=6
 ·simp only[Z8,seval,bf g2,bf g3,bf g4,bf g5,bt g6,k5,dN];exact⟨_,dK rfl rfl rfl (by simp only[E8,seval,rM]<;>rfl) (by simp only[E8,seval,rM]<;>rfl),_,_,rfl⟩
 by_cases g8:x.kind=8
 case neg =>
  simp only[Z8,seval,bf g2,bf g3,bf g4,bf g5,bf g6,bf g8];exact⟨_,dK rfl rfl rfl (by simp only[E8,seval]<;>rfl) (by simp only[E8,seval]<;>rfl),yH.none _⟩
 by_cases w1:x.write<0
 ·simp only[Z8,seval,bf g2,bf g3,bf g4,bf g5,bf g6,bt g8,w1];exact⟨_,dK rfl rfl rfl (by simp only[E8,seval]<;>rfl) (by simp only[E8,seval]<;>rfl),yH.none _⟩
 by_cases w2:32768<x.write
 ·simp only[Z8,seval,bf g2,bf g3,bf g4,bf g5,bf g6,bt g8,w1,w2];exact⟨_,dK rfl rfl rfl (by simp only[E8,seval]<;>rfl) (by simp only[E8,seval]<;>rfl),yH.none _⟩
 by_cases w3:x.qL<0
 ·simp only[Z8,seval,bf g2,bf g3,bf g4,bf g5,bf g6,bt g8,w1,w2,w3];exact⟨_,dK rfl rfl rfl (by simp only[E8,seval]<;>rfl) (by simp only[E8,seval]<;>rfl),yH.none _⟩
 by_cases w4:32768<x.qL
 ·simp only[Z8,seval,bf g2,bf g3,bf g4,bf g5,bf g6,bt g8,w1,w2,w3,w4];exact⟨_,dK rfl rfl rfl (by simp only[E8,seval]<;>rfl) (by simp only[E8,seval]<;>rfl),yH.none _⟩
 simp only[Z8,seval,bf g2,bf g3,bf g4,bf g5,bf g6,bt g8,w1,w2,w3,w4,e6,e7];exact⟨_,dK rfl rfl rfl (by simp only[E8,seval,Ec]<;>rfl) (by simp only[E8,seval,Ec]<;>rfl),yH.some _ _⟩
end Go.Ab.Tryz
