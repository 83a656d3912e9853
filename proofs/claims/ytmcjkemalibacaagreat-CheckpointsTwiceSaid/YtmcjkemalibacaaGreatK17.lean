/-
  Part 17 of the proof: an evaluator of programs, its soundness, and what functions of this program compute.
-/
import Derived.Test.YtmcjkemalibacaaGreatK16
import Derived.Test.YtmcjkemalibacaaGreatK19
import Derived.Test.YtmcjkemalibacaaGreatK12
import Derived.Test.YtmcjkemalibacaaGreatK14
set_option linter.all false
set_option maxRecDepth 20000
set_option maxHeartbeats 40000000
namespace Go.Ab.Tryz
open Classical Go.Proofs Go.Ab
theorem Q8 (x:Int):(x != x)=false:=by simp
theorem beI (x:Int):(x == x)=true:=by simp
theorem aSs (o:Option (List Int)) (hn:((ol o).length:Int)<1000000):aB Tryz.prog 103 [ov bI o,ov bI o]=some (.v (.bool true)):=by
 rw[cL Tryz.func103 rfl aFo (by cases o<;>rfl)]
 refine iT ?_
 simp only[Z8,seval,Q8];refine cI (fun m st=>∃k:Nat,(st.env 0=ov bI o∧st.env 1=ov bI o∧st.env 5=.v (.int .i64 k))∧k≤(ol o).length∧m=(ol o).length-k)
  (fun e st=>e=.exit 0) (ol o).length ?step ?start ?rest
 case step =>
  rintro m st ⟨k,hI,hk,hm⟩
  by_cases bA:(k:Int)<(ol o).length
  ·have q0:(0:Int)≤k:=by omega
   have hw:IntKind.i64.wrap ((k:Int)+1)=((k+1:Nat):Int):=by rw[nU _ (by omega) (by omega)];omega
   apply oN ((ol o).length-(k+1))
   ·simp only[Z8,seval,hI,bA,q0,Q8,hw];rfl
   ·exact⟨k+1,by simp only[E8,seval,hI],by omega,rfl⟩
  ·apply oT (.exit 0)
   ·simp only[Z8,seval,hI,bA];rfl
   ·exact rfl
 case start=>exact⟨0,by simp only[E8,seval]<;>exact⟨rfl,rfl,rfl⟩,by omega,by omega⟩
 case rest =>
  rintro e st rfl
  simp only[Z8,seval];exact⟨_,bZ rfl (by simp only[E8,seval]<;>rfl) (by first|exact .v _|simp only[eC]),rfl⟩
theorem aC0 (o:Option (List Int)) (hn:((ol o).length:Int)<1000000) (st:St) (d:Option Nat):aO (aB Tryz.prog) 103 [ov bI o,ov bI o] st d=some { dst:=d,val:=.v (.bool true)}:=bG (bF (dV o) (dV o)) (aSs o hn) (.v _)
theorem aSt (o:Option (List kO)) (hn:((ol o).length:Int)<1000000):aB Tryz.prog 104 [ov cW o,ov cW o]=some (.v (.bool true)):=by
 rw[cL Tryz.func104 rfl aM1 (by cases o<;>rfl)]
 refine iT ?_
 simp only[Z8,seval,Q8];refine cI (fun m st=>∃k:Nat,(st.env 0=ov cW o∧st.env 1=ov cW o∧st.env 5=.v (.int .i64 k))∧k≤(ol o).length∧m=(ol o).length-k)
  (fun e st=>e=.exit 0) (ol o).length ?step ?start ?rest
 case step =>
  rintro m st ⟨k,hI,hk,hm⟩
  by_cases bA:(k:Int)<(ol o).length
  ·have q0:(0:Int)≤k:=by omega
   have hw:IntKind.i64.wrap ((k:Int)+1)=((k+1:Nat):Int):=by rw[nU _ (by omega) (by omega)];omega
   apply oN ((ol o).length-(k+1))
   ·simp only[Z8,seval,hI,bA,q0,Q8,hw];rfl
   ·exact⟨k+1,by simp only[E8,seval,hI],by omega,rfl⟩
  ·apply oT (.exit 0)
   ·simp only[Z8,seval,hI,bA];rfl
   ·exact rfl
 case start=>exact⟨0,by simp only[E8,seval]<;>exact⟨rfl,rfl,rfl⟩,by omega,by omega⟩
 case rest =>
  rintro e st rfl
  simp only[Z8,seval];exact⟨_,bZ rfl (by simp only[E8,seval]<;>rfl) (by first|exact .v _|simp only[eC]),rfl⟩
theorem aSu (o:Option (List kO)) (hn:((ol o).length:Int)<1000000) (st:St) (d:Option Nat):aO (aB Tryz.prog) 104 [ov cW o,ov cW o] st d=some { dst:=d,val:=.v (.bool true)}:=bG (bF (qX o) (qX o)) (aSt o hn) (.v _)
theorem aM2 (o:Option (List Int)) (hn:((ol o).length:Int)<1000000):aB Tryz.prog 105 [ov aK o,ov aK o]=some (.v (.bool true)):=by
 rw[cL Tryz.func105 rfl aFn (by cases o<;>rfl)]
 refine iT ?_
 simp only[Z8,seval,Q8];refine cI (fun m st=>∃k:Nat,(st.env 0=ov aK o∧st.env 1=ov aK o∧st.env 5=.v (.int .i64 k))∧k≤(ol o).length∧m=(ol o).length-k)
  (fun e st=>e=.exit 0) (ol o).length ?step ?start ?rest
 case step =>
  rintro m st ⟨k,hI,hk,hm⟩
  by_cases bA:(k:Int)<(ol o).length
  ·have q0:(0:Int)≤k:=by omega
   have hw:IntKind.i64.wrap ((k:Int)+1)=((k+1:Nat):Int):=by rw[nU _ (by omega) (by omega)];omega
   apply oN ((ol o).length-(k+1))
   ·simp only[Z8,seval,hI,bA,q0,Q8,hw];rfl
   ·exact⟨k+1,by simp only[E8,seval,hI],by omega,rfl⟩
  ·apply oT (.exit 0)
   ·simp only[Z8,seval,hI,bA];rfl
   ·exact rfl
 case start=>exact⟨0,by simp only[E8,seval]<;>exact⟨rfl,rfl,rfl⟩,by omega,by omega⟩
 case rest =>
  rintro e st rfl
  simp only[Z8,seval];exact⟨_,bZ rfl (by simp only[E8,seval]<;>rfl) (by first|exact .v _|simp only[eC]),rfl⟩
theorem aFL (o:Option (List Int)) (hn:((ol o).length:Int)<1000000) (st:St) (d:Option Nat):aO (aB Tryz.prog) 105 [ov aK o,ov aK o] st d=some { dst:=d,val:=.v (.bool true)}:=bG (bF (bX o) (bX o)) (aM2 o hn) (.v _)
theorem aSv (a:sG) (V:Option (List Int)) (ha:a.fB=ov aK V) (hn:((ol V).length:Int)<1000000):aB Tryz.prog 108 [.agg (iC a),.agg (iC a)]=some (.v (.bool true)):=by
 rw[cL Tryz.func108 rfl aFp rfl];refine iT ?_
 simp only[Z8,seval,ha,beI,aFL V hn];exact⟨_,bZ rfl (by simp only[E8,seval]<;>rfl) (by first|exact .v _|simp only[eC]),rfl⟩
theorem aSw (a:sG) (h:Dw a) (st:St) (d:Option Nat):aO (aB Tryz.prog) 108 [.agg (iC a),.agg (iC a)] st d=some { dst:=d,val:=.v (.bool true)}:=by
 obtain⟨V,ha,hl⟩:=h
 have hf:Flat (.agg (iC a)):=(Ah a).2 (by rw[ha];exact bX V)
 exact bG (bF hf hf) (aSv a V ha hl) (.v _)
theorem aSx (a:Table) (V:Option (List Int)) (ha:a.iP=ov bI V) (hn:((ol V).length:Int)<1000000):aB Tryz.prog 159 [.agg (cA a),.agg (cA a)]=some (.v (.bool true)):=by
 rw[cL Tryz.func159 rfl aFq rfl];refine iT ?_
 simp only[Z8,seval,ha,beI,aC0 V hn];exact⟨_,bZ rfl (by simp only[E8,seval]<;>rfl) (by first|exact .v _|simp only[eC]),rfl⟩
theorem aSy (a:Table) (h:rZ a) (st:St) (d:Option Nat):aO (aB Tryz.prog) 159 [.agg (cA a),.agg (cA a)] st d=some { dst:=d,val:=.v (.bool true)}:=by
 obtain⟨V,ha,hl⟩:=h
 have hf:Flat (.agg (cA a)):=(iE a).2 (by rw[ha];exact dV V)
 exact bG (bF hf hf) (aSx a V ha hl) (.v _)
theorem aSz (o:Option (List Table)) (hn:((ol o).length:Int)<1000000) (hA:∀a∈ol o,rZ a):aB Tryz.prog 107 [ov aI o,ov aI o]=some (.v (.bool true)):=by
 rw[cL Tryz.func107 rfl aM3 (by cases o<;>rfl)]
 refine iT ?_
 simp only[Z8,seval,Q8,beI];refine cI (fun m st=>∃k:Nat,(st.env 0=ov aI o∧st.env 1=ov aI o∧st.env 5=.v (.int .i64 k))∧k≤(ol o).length∧m=(ol o).length-k)
  (fun e st=>e=.exit 0) ((ol o).length) ?step ?start ?rest
 case step =>
  rintro m st ⟨k,hI,hk,hm⟩
  by_cases bA:(k:Int)<((ol o).length:Nat)
  ·have q0:(0:Int)≤k:=by omega
   have hw:IntKind.i64.wrap ((k:Int)+1)=((k+1:Nat):Int):=by rw[nU _ (by omega) (by omega)];omega
   have kk:=aSy _ (hA _ (sH (z:=eI) q0 bA))
   apply oN ((ol o).length-(k+1))
   ·simp only[Z8,seval,hI,bA,q0,kk,Q8,hw,beI];rfl
   ·exact⟨k+1,by simp only[E8,seval,hI],by omega,rfl⟩
  ·apply oT (.exit 0)
   ·simp only[Z8,seval,hI,bA,beI];rfl
   ·exact rfl
 case start=>exact⟨0,by simp only[E8,seval]<;>exact⟨rfl,rfl,rfl⟩,by omega,by omega⟩
 case rest =>
  rintro e st rfl
  simp only[Z8,seval];exact⟨_,bZ rfl (by simp only[E8,seval]<;>rfl) (by first|exact .v _|simp only[eC]),rfl⟩
theorem aSA (o:Option (List Table)) (hn:((ol o).length:Int)<1000000) (hA:∀a∈ol o,rZ a) (st:St) (d:Option Nat):aO (aB Tryz.prog) 107 [ov aI o,ov aI o] st d=some { dst:=d,val:=.v (.bool true)} :=
 bG (bF (jW o fun y m=>(hA y m).fl) (jW o fun y m=>(hA y m).fl)) (aSz o hn hA) (.v _)
end Go.Ab.Tryz
namespace Go.Ab.Tryz
open Classical Go.Proofs Go.Ab
end Go.Ab.Tryz
namespace Go.Ab.Tryz
open Classical Go.Proofs Go.Ab
def nS (v:SV):Nat:=(Dj v).length
def nR (v:SV) (Q:Option (List Request)):Nat:=nS v+(rl 63 35 aE Q).length
theorem HS (v:SV) (j:Nat):(if j<(Dj v).length then (Dj v)[j]? else none)=(Dj v)[j]?:=by
 split
 ·rfl
 ·rw[List.getElem?_eq_none (by omega)]
theorem aG6 {st:St} {s:aM} {v:SV} (hs:SD s v) {d c:Nat} (hh:∀j,j<nS v→st.heap d (c+j)=(Dj v)[j]?):Tt st (aA (Ny s v d c))=some (aA s):=by
 have ix:∀ {j:Nat} {e:nP},(Dj v)[j]? = some e→st.heap d (c+j)=some e:=fun h=>by rw[hh _ (List.getElem?_eq_some_iff.1 h).1,h]
 rw[gG];simp only[Ny,AK];rw[lF (e:=23) (sz:=1) (c:=bI) (fun l hl=>by have:=ix (aMX v l hl);rwa [Nat.add_zero] at this) (fun l _=>gZ l),cF,
  lF (e:=100) (sz:=34) (c:=cW) (fun l hl=>ix (aMY v l hl)) (fun l _=>mF l),cF,
  lF (e:=3) (sz:=1) (c:=aK) (fun l hl=>ix (aMZ v l hl)) (fun l _=>fV l),cF,
  lF (e:=87) (sz:=67) (c:=dM) (fun l hl=>ix (aM0 v l hl)) (fun l hl=>qY l fun y m=>(hs.eV y (by rw[hl];exact m)).fl),cF,
  lF (e:=74) (sz:=238) (c:=aF) (fun l hl=>ix (aG5 v l hl)) (fun l _=>lC l),cF,
  ← Yc d (c+nO v) v.ns,lF (e:=76) (sz:=240) (c:=bU) (fun l hl=>by cases hl;exact ix (aAh v)) (fun l _=>gX l),cF,
  lF (e:=118) (sz:=34) (c:=aI) (fun l hl=>by have:=ix (XE v l hl);rwa [← Nat.add_assoc] at this) (fun l hl=>iL l fun y m=>(hs.tB y (by rw[hl];exact m)).fl),cF]
 have hn:ov bU (some v.ns)=s.tree.nodes:=by rw[hs.tree];rfl
 rw[hn,← hs.iP,← hs.dU,← hs.gN,← hs.early,← hs.bL,← hs.tables]
end Go.Ab.Tryz
namespace Go.Ab.Tryz
open Classical Go.Proofs Go.Ab
end Go.Ab.Tryz
namespace Go.Ab.Tryz
open Classical Go.Proofs Go.Ab
theorem aM4:aC 4 77 (some 54)=[]:=rfl
theorem x42 {s:aM} {v:SV} (hs:SD s v):∃r,aB Tryz.prog 42 [.agg (aA s),.agg (aA s)]=some r∧r=.v (.bool true):=by
 have pG:=hs.flat
 rw[cG Tryz.func42 rfl aSB (by kernel_rfl) rfl]
 have kB:=aC0 v.B hs.nB
 have kL:=aSu v.L hs.nL
 have kQ:=aFL v.Q hs.nQ
 have kn:=aPD v.ns v.ns hs.nn
 have kT:=aSA v.T hs.nT hs.tB
 simp only[ZG,seval,Bool.false_and,Prod.mk.injEq,XF,aM4,hs.iP,hs.dU,hs.gN,hs.early,hs.bL,hs.tree,hs.tables,Q8,beI,kB,kL,kQ,kn,kT,decide_true,Bool.not_true,mG,mH];refine kS (fun m st=>∃k:Nat,(st.env 2=.ptr 2 0 0∧st.heap 2 0=some (.cells (aA s))∧st.env 3=.ptr 3 0 0∧st.heap 3 0=some (.cells (aA s))∧st.env 7=.v (.int .i64 k))∧k≤(ol v.E).length∧m=(ol v.E).length-k)
  (fun e st=>e=.exit 0∧(st.env 2=.ptr 2 0 0∧st.heap 2 0=some (.cells (aA s))∧st.env 3=.ptr 3 0 0∧st.heap 3 0=some (.cells (aA s)))) (ol v.E).length ?step ?start ?rest
 case step =>
  rintro m st ⟨k,hI,hk,hm⟩
  have hn:=hs.nE
  by_cases bA:(k:Int)<(ol v.E).length
  ·have q0:(0:Int)≤k:=by omega
   have hw:IntKind.i64.wrap ((k:Int)+1)=((k+1:Nat):Int):=by rw[nU _ (by omega) (by omega)];omega
   have kk:=aSw _ (hs.eV _ (sH (z:=Lu) q0 bA))
   apply Cx ((ol v.E).length-(k+1))
   ·simp only[ZG,seval,Bool.false_and,Prod.mk.injEq,XF,hs.early,hI,bA,q0,kk,Q8,Bool.not_true,hw];rfl
   ·exact⟨k+1,by simp only[E8,seval,hI],by omega,rfl⟩
  ·apply HF (.exit 0)
   ·simp only[ZG,seval,Bool.false_and,Prod.mk.injEq,XF,hs.early,hI,bA];rfl
   ·exact⟨rfl,by simp only[E8,seval,hI]⟩
 case start=>exact⟨0,by simp only[E8,seval]<;>exact⟨rfl,rfl,rfl,rfl,rfl⟩,by omega,by omega⟩
 case rest =>
  rintro e st ⟨rfl,hI⟩
  simp only[ZG,seval,Bool.false_and,Prod.mk.injEq,XF,hI];refine kS (fun m st=>∃k:Nat,(st.env 2=.ptr 2 0 0∧st.heap 2 0=some (.cells (aA s))∧st.env 3=.ptr 3 0 0∧st.heap 3 0=some (.cells (aA s))∧st.env 8=.v (.int .i64 k))∧k≤(ol v.O).length∧m=(ol v.O).length-k)
   (fun e st=>e=.exit 2) (ol v.O).length ?V9 ?WL ?OT
  case V9 =>
   rintro m st ⟨k,hI,hk,hm⟩
   have hn:=hs.nO
   by_cases bA:(k:Int)<(ol v.O).length
   ·have q0:(0:Int)≤k:=by omega
    have hw:IntKind.i64.wrap ((k:Int)+1)=((k+1:Nat):Int):=by rw[nU _ (by omega) (by omega)];omega
    apply Cx ((ol v.O).length-(k+1))
    ·simp only[ZG,seval,Bool.false_and,Prod.mk.injEq,XF,hs.bL,hI,bA,q0,Q8,decide_true,Bool.not_true,hw];rfl
    ·exact⟨k+1,by simp only[E8,seval,hI],by omega,rfl⟩
   ·apply HF (.exit 2)
    ·simp only[ZG,seval,Bool.false_and,Prod.mk.injEq,XF,hs.bL,hI,bA];rfl
    ·exact rfl
  case WL=>exact⟨0,by simp only[E8,seval,hI]<;>exact⟨rfl,rfl,rfl,rfl,rfl⟩,by omega,by omega⟩
  case OT =>
   rintro e st rfl
   simp only[ZG,seval,Bool.false_and,Prod.mk.injEq,XF];exact⟨_,bZ rfl (by simp only[E8,seval]<;>rfl) (by first|exact .v _|simp only[eC]),rfl⟩
theorem k42 {s:aM} {v:SV} (hs:SD s v) (st:St) (d:Option Nat):aO (aB Tryz.prog) 42 [.agg (aA s),.agg (aA s)] st d=some { dst:=d,val:=.v (.bool true)}:=by
 obtain⟨r,h,e⟩:=x42 hs
 subst e;exact bG (bF hs.flat hs.flat) h (.v _)
end Go.Ab.Tryz
namespace Go.Ab.Tryz
open Classical Go.Proofs Go.Ab
open Classical Go.Proofs Go.Ab
open Classical Go.Proofs Go.Ab
end Go.Ab.Tryz
namespace Go.Ab.Tryz
open Classical Go.Proofs Go.Ab
theorem beB (x:Bool):(x == x)=true:=by simp
theorem TI.lists {t:State} {v:SV} {Q R:Option (List Request)} {q m:Int} (T:TI t v Q R q m):v.B≠some []∧∃L,v.L=some L∧L≠[]:=by
 have h1:=T.toTI0.iP.1
 have h2:=T.gi.OQ
 constructor
 ·intro h;rw[h] at h1;exact absurd h1 (by simp[ol])
 ·cases h:v.L with
  | none=>rw[h] at h2;simp only[ol,Option.getD_none,List.length_nil] at h2;simp only[ol] at h1;omega
  | some L =>
    refine⟨L,rfl,fun e=>?_⟩
    rw[h,e] at h2;simp only[ol,Option.getD_some,List.length_nil] at h2;simp only[ol] at h1;omega
end Go.Ab.Tryz
namespace Go.Ab.Tryz
open Classical Go.Proofs Go.Ab
end Go.Ab.Tryz
namespace Go.Ab.Tryz
open Classical Go.Proofs Go.Ab
structure WT (t:State) (v:SV):Prop where
 td:TD t v (some [⟨⟨1⟩,mkRoot 9,0,0⟩]) none
 ne:y7 v
 hB:v.B≠some []
 hL:v.L≠some []
 pos:0<v.ns.length
 op:Ao v.ns (mkRoot 9)
 tag:t.dA=2
 now:t.store.now=1
end Go.Ab.Tryz
namespace Go.Ab.Tryz
open Classical Go.Proofs Go.Ab
end Go.Ab.Tryz
namespace Go.Ab.Tryz
open Go Go.Ab
def Eh:List Value:=[.int .u64 0]++([.int .i64 0]++tO)
end Go.Ab.Tryz
namespace Go.Ab.Tryz
open Classical Go.Proofs Go.Ab
end Go.Ab.Tryz
namespace Go.Ab.Tryz
open Classical Go.Proofs Go.Ab
theorem aFM (o:Option (List Table)) (hn:((ol o).length:Int)<1000000) (f:Nat) (mJ:List AV) (p:Table→Bool) (kf:∀x∈ol o,∀(st:St) (d:Option Nat),aO (aB Tryz.prog) f ([.agg (cA x)]++mJ) st d=some { dst:=d,val:=.v (.bool (p x))}):aB Tryz.prog 173 [ov aI o,.rW f mJ]=some (.v (.int .i64 (uL (fun k=>p (gx eI (ol o) k)=true) (ol o).length))):=by
 rw[cL Tryz.func173 rfl aM5 (by cases o<;>rfl)]
 refine iT ?_
 simp only[Z8,seval];refine cI (fun m st=>∃k:Nat,(st.env 0=ov aI o∧st.env 1=.rW f mJ∧st.env 7=.v (.int .i64 (ol o).length)∧st.env 8=.v (.int .i64 k))∧(∀j:Nat,j<k→¬p (gx eI (ol o) j)=true)∧k≤(ol o).length∧m=(ol o).length-k)
  (fun e st=>(e=.ret∧∃k:Nat,k<(ol o).length∧p (gx eI (ol o) k)=true∧(∀j:Nat,j<k→¬p (gx eI (ol o) j)=true)∧st.env 4=.v (.int .i64 k))∨(e=.exit 0∧∀j:Nat,j<(ol o).length→¬p (gx eI (ol o) j)=true)) (ol o).length ?step ?start ?rest
 case step =>
  rintro m st ⟨k,hI,hj,hk,hm⟩
  by_cases bA:(k:Int)<(ol o).length
  ·have q0:(0:Int)≤k:=by omega
   have hw:IntKind.i64.wrap ((k:Int)+1)=((k+1:Nat):Int):=by rw[nU _ (by omega) (by omega)];omega
   have kx':=kf _ (sH (z:=eI) q0 bA)
   by_cases hr:p (gx eI (ol o) k)=true
   ·rw[hr] at kx'
    apply oT (.ret)
    ·simp only[Z8,seval,hI,bA,q0,kx'];rfl
    ·exact .inl ⟨rfl,k,by omega,hr,hj,by simp only[E8,seval]⟩
   ·have hf:p (gx eI (ol o) k)=false:=by simpa using hr
    rw[hf] at kx'
    apply oN ((ol o).length-(k+1))
    ·simp only[Z8,seval,hI,bA,q0,kx',hw];rfl
    ·exact⟨k+1,by simp only[E8,seval,hI],fun j h=>(Nat.lt_succ_iff_lt_or_eq.1 h).elim (hj j) fun e=>by subst e;exact hr,by omega,rfl⟩
  ·apply oT (.exit 0)
   ·simp only[Z8,seval,hI,bA];rfl
   ·exact .inr ⟨rfl,fun j h=>hj j (by omega)⟩
 case start=>exact⟨0,by simp only[E8,seval]<;>rfl,fun j h=>by omega,by omega,by omega⟩
 case rest =>
  rintro e st (⟨rfl,k,hk,hh,hj,h⟩|⟨rfl,hj⟩)
  ·have hv:uL (fun k=>p (gx eI (ol o) k)=true) (ol o).length=k:=By hh hj _ hk
   simp only[Z8,seval];exact⟨_,bZ rfl (by simp only[E8,seval,h]<;>rfl) (by first|exact .v _|simp only[eC,h]),by rw[hv]⟩
  ·have hv:uL (fun k=>p (gx eI (ol o) k)=true) (ol o).length=-1:=tK _ hj
   simp only[Z8,seval];exact⟨_,bZ rfl (by simp only[E8,seval]<;>rfl) (by first|exact .v _|simp only[eC]),by rw[hv]⟩
theorem aFN (o:Option (List Block)) (hn:((ol o).length:Int)<1000000) (f:Nat) (mJ:List AV) (p:Block→Bool) (kf:∀x∈ol o,∀(st:St) (d:Option Nat),aO (aB Tryz.prog) f ([.agg (aV x)]++mJ) st d=some { dst:=d,val:=.v (.bool (p x))}):aB Tryz.prog 171 [ov aF o,.rW f mJ]=some (.v (.int .i64 (uL (fun k=>p (gx dX (ol o) k)=true) (ol o).length))):=by
 rw[cL Tryz.func171 rfl aM6 (by cases o<;>rfl)]
 refine iT ?_
 simp only[Z8,seval];refine cI (fun m st=>∃k:Nat,(st.env 0=ov aF o∧st.env 1=.rW f mJ∧st.env 7=.v (.int .i64 (ol o).length)∧st.env 8=.v (.int .i64 k))∧(∀j:Nat,j<k→¬p (gx dX (ol o) j)=true)∧k≤(ol o).length∧m=(ol o).length-k)
  (fun e st=>(e=.ret∧∃k:Nat,k<(ol o).length∧p (gx dX (ol o) k)=true∧(∀j:Nat,j<k→¬p (gx dX (ol o) j)=true)∧st.env 4=.v (.int .i64 k))∨(e=.exit 0∧∀j:Nat,j<(ol o).length→¬p (gx dX (ol o) j)=true)) (ol o).length ?step ?start ?rest
 case step =>
  rintro m st ⟨k,hI,hj,hk,hm⟩
  by_cases bA:(k:Int)<(ol o).length
  ·have q0:(0:Int)≤k:=by omega
   have hw:IntKind.i64.wrap ((k:Int)+1)=((k+1:Nat):Int):=by rw[nU _ (by omega) (by omega)];omega
   have kx':=kf _ (sH (z:=dX) q0 bA)
   by_cases hr:p (gx dX (ol o) k)=true
   ·rw[hr] at kx'
    apply oT (.ret)
    ·simp only[Z8,seval,hI,bA,q0,kx'];rfl
    ·exact .inl ⟨rfl,k,by omega,hr,hj,by simp only[E8,seval]⟩
   ·have hf:p (gx dX (ol o) k)=false:=by simpa using hr
    rw[hf] at kx'
    apply oN ((ol o).length-(k+1))
    ·simp only[Z8,seval,hI,bA,q0,kx',hw];rfl
    ·exact⟨k+1,by simp only[E8,seval,hI],fun j h=>(Nat.lt_succ_iff_lt_or_eq.1 h).elim (hj j) fun e=>by subst e;exact hr,by omega,rfl⟩
  ·apply oT (.exit 0)
   ·simp only[Z8,seval,hI,bA];rfl
   ·exact .inr ⟨rfl,fun j h=>hj j (by omega)⟩
 case start=>exact⟨0,by simp only[E8,seval]<;>rfl,fun j h=>by omega,by omega,by omega⟩
 case rest =>
  rintro e st (⟨rfl,k,hk,hh,hj,h⟩|⟨rfl,hj⟩)
  ·have hv:uL (fun k=>p (gx dX (ol o) k)=true) (ol o).length=k:=By hh hj _ hk
   simp only[Z8,seval];exact⟨_,bZ rfl (by simp only[E8,seval,h]<;>rfl) (by first|exact .v _|simp only[eC,h]),by rw[hv]⟩
  ·have hv:uL (fun k=>p (gx dX (ol o) k)=true) (ol o).length=-1:=tK _ hj
   simp only[Z8,seval];exact⟨_,bZ rfl (by simp only[E8,seval]<;>rfl) (by first|exact .v _|simp only[eC]),by rw[hv]⟩
theorem A6 (w:dQ):Flat (.ip (bB w) 0):=.ip _ _ (bR w)
theorem aSC (x:Table) (J:dQ) (fx:Flat (.agg (cA x))):aB Tryz.prog 120 [.agg (cA x),.ip (bB J) 0]=some (.v (.bool (decide (x.ck=J)))):=by
 rw[cL Tryz.func120 rfl aM7 rfl];refine iT ?_
 by_cases h:x.ck=J
 ·simp only[Z8,seval,h,decide_true];exact⟨_,bZ rfl (by simp only[E8,seval]<;>rfl) (by first|exact .v _|simp only[eC]),rfl⟩
 ·simp only[Z8,seval,h,decide_false];exact⟨_,bZ rfl (by simp only[E8,seval]<;>rfl) (by first|exact .v _|simp only[eC]),rfl⟩
theorem aM8 (x:Table) (J:dQ):aB Tryz.prog 124 [.agg (cA x),.ip (bB J) 0]=some (.v (.bool (decide (x.ck.aG<J.aG)))):=by
 rw[cL Tryz.func124 rfl aM9 rfl];refine iT ?_
 by_cases h:x.ck.aG<J.aG
 ·simp only[Z8,seval,h,decide_true];exact⟨_,bZ rfl (by simp only[E8,seval]<;>rfl) (by first|exact .v _|simp only[eC]),rfl⟩
 ·simp only[Z8,seval,h,decide_false];exact⟨_,bZ rfl (by simp only[E8,seval]<;>rfl) (by first|exact .v _|simp only[eC]),rfl⟩
theorem aNa (x:Block) (n:Int):aB Tryz.prog 127 [.agg (aV x),.ip (lV n) 0]=some (.v (.bool (decide (x.slot≤n)))):=by
 rw[cL Tryz.func127 rfl aNb rfl];refine iT ?_
 by_cases h:x.slot≤n
 ·simp only[Z8,seval,h,decide_true];exact⟨_,bZ rfl (by simp only[E8,seval]<;>rfl) (by first|exact .v _|simp only[eC]),rfl⟩
 ·simp only[Z8,seval,h,decide_false];exact⟨_,bZ rfl (by simp only[E8,seval]<;>rfl) (by first|exact .v _|simp only[eC]),rfl⟩
theorem aSD (o:Option (List Table)) (hn:((ol o).length:Int)<1000000) (hB:∀y∈ol o,Flat y.iP) (J:dQ):aB Tryz.prog 119 [ov aI o,.rW 120 [.ip (bB J) 0]]=some (.v (.bool (decide (0≤DV (ol o) J)))):=by
 have h:=aFM o hn 120 [.ip (bB J) 0] (fun x=>decide (x.ck=J)) (fun x hx st d=>bG (bF ((iE _).2 (hB x hx)) (A6 J)) (aSC x J ((iE _).2 (hB x hx))) (.v _))
 have e:uL (fun k=>decide ((gx eI (ol o) k).ck=J)=true) (ol o).length=DV (ol o) J:=by
  show uL _ _=uL _ _;exact congrArg (fun p=>uL p _) (funext fun k=>decide_eq_true_eq)
 rw[e] at h;have fo:=jW o hB
 have fc:Flat (.rW 120 [.ip (bB J) 0]):=.rW _ _ (cV (A6 J))
 have k173:=kx h (bF fo fc) (.v _)
 rw[cL Tryz.func119 rfl aNc (by cases o<;>rfl)]
 refine iT ?_
 by_cases g:0≤DV (ol o) J
 ·simp only[Z8,seval,k173,g,decide_true];exact⟨_,bZ rfl (by simp only[E8,seval]<;>rfl) (by first|exact .v _|simp only[eC]),rfl⟩
 ·simp only[Z8,seval,k173,g,decide_false];exact⟨_,bZ rfl (by simp only[E8,seval]<;>rfl) (by first|exact .v _|simp only[eC]),rfl⟩
def J0 (s:aM) (v:SV) (c:dQ):Prop:=0≤aN v.ns c.root∧(nd v.ns (aN v.ns c.root)).status≠2∧(vC s c.aG).2=0∧(nd v.ns (aN v.ns c.root)).block.slot≤(vC s c.aG).1
noncomputable def ndI (v:SV) (c:dQ):Int:=if 0≤aN v.ns c.root∧(nd v.ns (aN v.ns c.root)).status≠2 then aN v.ns c.root else -1
theorem aSE {s:aM} {v:SV} (hs:SD s v) (c:dQ) (hc:Rg c.aG):aB Tryz.prog 118 [.agg (aA s),.agg (bB c)]=some (.eG [.v (.int .i64 (ndI v c)),.v (.bool (decide (J0 s v c)))]):=by
 have XG:∀(st:St) (d:Option Nat),aO (aB Tryz.prog) 95 [.v (.int .u64 c.aG),.v (.int .u64 s.cFg.jH)] st d=some { dst:=d,val:=.eG [.v (.int .u64 (vC s c.aG).1),.v (.int .i64 (vC s c.aG).2)]}:=fun st d=>k95 hc st d
 have fr:=eQ v.ns c.root
 rw[cL Tryz.func118 rfl aNd rfl];refine iT ?_
 by_cases g1:aN v.ns c.root<0
 ·have e1:ndI v c=-1:=by unfold ndI;rw[if_neg (fun h=>by omega)]
  have e2:¬J0 s v c:=fun h=>by have:=h.1;omega
  simp only[Z8,seval,hs.tree,k89 _ _ hs.nn,g1];exact⟨_,dK rfl rfl rfl (by simp only[E8,seval]<;>rfl) (by simp only[E8,seval]<;>rfl),by rw[e1,decide_eq_false e2]⟩
 have q0:0≤aN v.ns c.root:=by omega
 by_cases g2:(nd v.ns (aN v.ns c.root)).status=2
 ·have e1:ndI v c=-1:=by unfold ndI;rw[if_neg (fun h=>h.2 g2)]
  have e2:¬J0 s v c:=fun h=>h.2.1 g2
  simp only[Z8,seval,hs.tree,k89 _ _ hs.nn,g1,q0,fr.2,bt g2];exact⟨_,dK rfl rfl rfl (by simp only[E8,seval]<;>rfl) (by simp only[E8,seval]<;>rfl),by rw[e1,decide_eq_false e2]⟩
 have e1:ndI v c=aN v.ns c.root:=by unfold ndI;rw[if_pos ⟨q0,g2⟩]
 by_cases g3:(vC s c.aG).2=0
 case neg =>
  have e2:¬J0 s v c:=fun h=>g3 h.2.2.1
  simp only[Z8,seval,hs.tree,k89 _ _ hs.nn,g1,q0,fr.2,bf g2,XG,dN,bf g3];exact⟨_,dK rfl rfl rfl (by simp only[E8,seval]<;>rfl) (by simp only[E8,seval]<;>rfl),by rw[e1,decide_eq_false e2]⟩
 by_cases g4:(nd v.ns (aN v.ns c.root)).block.slot≤(vC s c.aG).1
 ·have e2:J0 s v c:=⟨q0,g2,g3,g4⟩
  simp only[Z8,seval,hs.tree,k89 _ _ hs.nn,g1,q0,fr.2,bf g2,XG,dN,bt g3,g4];exact⟨_,dK rfl rfl rfl (by simp only[E8,seval]<;>rfl) (by simp only[E8,seval]<;>rfl),by rw[e1,decide_eq_true e2]⟩
 ·have e2:¬J0 s v c:=fun h=>g4 h.2.2.2
  simp only[Z8,seval,hs.tree,k89 _ _ hs.nn,g1,q0,fr.2,bf g2,XG,dN,bt g3,g4];exact⟨_,dK rfl rfl rfl (by simp only[E8,seval]<;>rfl) (by simp only[E8,seval]<;>rfl),by rw[e1,decide_eq_false e2]⟩
theorem Qs {s:aM} {v:SV} (hs:SD s v) (c:dQ) (hc:Rg c.aG) (st:St) (d:Option Nat):aO (aB Tryz.prog) 118 [.agg (aA s),.agg (bB c)] st d=some { dst:=d,val:=.eG [.v (.int .i64 (ndI v c)),.v (.bool (decide (J0 s v c)))]}:=bG (bF hs.flat (.agg _ (bR c))) (aSE hs c hc) (.eG _ (bF (.v _) (.v _)))
def okC (s:aM) (v:SV) (J F:dQ):Prop:=J0 s v F∧J0 s v J∧tW v.ns (aN v.ns F.root) (aN v.ns J.root)=true∧F.aG≤J.aG∧J.aG≤yD s s.now∧0≤DV (ol v.T) J
theorem Yd {s:aM} {v:SV} (h:1≤s.cFg.jH∧s.cFg.jH≤64) (hx:Rg s.now) {J F:dQ} (hJ:Rg J.aG) (hF:Rg F.aG):okC s v J F↔¬jX s v J F:=by
 have key:∀c:dQ,Rg c.aG→c.aG≤yD s s.now→(vC s c.aG).2=0:=fun c hc hle=>by rw[(aAc h hc.1 hle hx).1]
 unfold okC J0 jX IZ;constructor
 ·rintro⟨⟨f1,f2,f3,f4⟩,⟨j1,j2,j3,j4⟩,a,b,c,d⟩ hb
  rcases hb with h|h|h|h|h|h|h|h|h|h
  ·omega
  ·omega
  ·exact j2 h
  ·exact f2 h
  ·exact h (.inr j4)
  ·exact h (.inr f4)
  ·rw[h] at a;cases a
  ·omega
  ·omega
  ·omega
 ·intro hb;simp only[not_or,Classical.not_not,Int.not_lt,Bool.not_eq_false] at hb;obtain⟨h1,h2,h3,h4,h5,h6,h7,h8,h9,h10⟩:=hb
  have hJ0:=key J hJ h9
  have hF0:=key F hF (by omega)
  exact⟨⟨h2,h4,hF0,Classical.byContradiction fun e=>h6 ⟨hF0,e⟩⟩,⟨h1,h3,hJ0,Classical.byContradiction fun e=>h5 ⟨hJ0,e⟩⟩,h7,h8,h9,h10⟩
theorem aAi {s:aM} {v:SV} {c:dQ} (h:J0 s v c):ndI v c=aN v.ns c.root:=by unfold ndI;rw[if_pos ⟨h.1,h.2.1⟩]
theorem c58 {s:aM} {v:SV} (hs:SD s v) (hu:gK v.ns) (hp:1≤s.cFg.jH∧s.cFg.jH≤64) (hx:Rg s.now) (hj:Rg s.aL.gI.aG) (Pf:Rg s.aL.fin.aG) (c1 c2:dQ) (h1:Rg c1.aG) (h2:Rg c2.aG):aB Tryz.prog 58 [.agg (aA s),.agg (bB c1),.agg (bB c2)]=some (Nj s v c1 c2):=by
 have hf:=hs.flat
 have hB:=fun y hy=>(hs.tB y hy).fl
 have fo:=jW v.T hB
 have rJ:Rg (tL s c1).aG:=by unfold tL;split<;>assumption
 have rF:Rg (rD s c2).aG:=by unfold rD;split<;>assumption
 have XH:∀(args:List AV) (st:St) (d:Option Nat),aO (aB Tryz.prog) 119 args st d=uF (aB Tryz.prog) 119 (cM (args.map (fP st))) (decide (∀x∈args,Flat x)) st d:=fun args st d=>jV _ _ _ _ _
 have XI:∀(J:dQ) (fl:Bool) (st:St) (d:Option Nat),uF (aB Tryz.prog) 119 (some [ov aI v.T,.rW 120 [.ip (bB J) 0]]) fl st d=some { dst:=d,val:=.v (.bool (decide (0≤DV (ol v.T) J)))}:=fun J fl st d=>Sv (aSD v.T hs.nT hB J)
 have eV:∀(J:dQ) (st:St) (o:Nat),Vo st (some (.cells (bB J))) o=some (.ip (bB J) o):=fun J st o=>sW st (bR J) o
 have eT:∀st:St,fP st (ov aI v.T)=some (ov aI v.T):=fun st=>eB fo
 have XJ:=fun x=>k94 (s:=s) hp x
 rw[cG Tryz.func58 rfl aSG (by kernel_rfl) rfl]
 refine iT ?_
 obtain⟨J,eJ⟩:∃J,tL s c1=J:=⟨_,rfl⟩
 obtain⟨F,eF⟩:∃F,rD s c2=F:=⟨_,rfl⟩
 have aG7:=Yd (v:=v) hp hx rJ rF
 unfold Nj;rw[eJ,eF] at aG7 ⊢;rw[eJ] at rJ;rw[eF] at rF;have nb:¬okC s v J F→jX s v J F:=fun h=>Classical.byContradiction fun e=>h (aG7.2 e)
 simp only[ZG,seval,Bool.false_and,Prod.mk.injEq,JZ,mG,mH];refine Xw (fun a=>a.1=.normal∧a.2.env 3=.ptr 3 0 0∧a.2.heap 3 0=some (.cells (aA s))∧a.2.env 5=.ptr 5 0 0∧a.2.heap 5 0=some (.cells (bB c2))∧a.2.env 6=.ptr 6 0 0∧a.2.heap 6 0=some (.cells (bB J))∧a.2.env 7=.ptr 7 0 0∧a.2.heap 7 0=some (.cells (bB s.aL.fin))) ?m1 ?r1
 case m1 =>
  unfold tL at eJ;by_cases a1:s.aL.gI.aG<c1.aG
  ·rw[if_pos a1] at eJ;simp only[a1,decide_true,if_true];exact⟨_,rfl,rfl,by simp only[E8,seval,eJ]⟩
  ·rw[if_neg a1] at eJ;simp only[a1,decide_false,Bool.false_eq_true,if_false];exact⟨_,rfl,rfl,by simp only[E8,seval,eJ]⟩
 case r1 =>
  rintro⟨_,st⟩ ⟨rfl,hI⟩
  dsimp only at hI
  simp only[ZG,seval,Bool.false_and,Prod.mk.injEq,JZ,mG,mH,hI];refine Xw (fun a=>a.1=.normal∧a.2.env 3=.ptr 3 0 0∧a.2.heap 3 0=some (.cells (aA s))∧a.2.env 6=.ptr 6 0 0∧a.2.heap 6 0=some (.cells (bB J))∧a.2.env 7=.ptr 7 0 0∧a.2.heap 7 0=some (.cells (bB F))) ?m2 ?r2
  case m2 =>
   unfold rD at eF;by_cases a2:s.aL.fin.aG<c2.aG
   ·rw[if_pos a2] at eF;simp only[a2,decide_true,if_true];exact⟨_,rfl,rfl,by simp only[E8,seval,hI,eF]⟩
   ·rw[if_neg a2] at eF;simp only[a2,decide_false,Bool.false_eq_true,if_false];exact⟨_,rfl,rfl,by simp only[E8,seval,hI,eF]⟩
  case r2 =>
   rintro⟨_,st⟩ ⟨rfl,hJ⟩
   dsimp only at hJ
   by_cases g1:¬J0 s v F
   ·simp only[ZG,seval,Bool.false_and,Prod.mk.injEq,JZ,mG,mH,hJ,Qs hs _ rJ,Qs hs _ rF,hs.tree,hs.tables,XH,eT,oF,eV,XI,dN,XJ,VL _ hu,decide_true,decide_false,g1];exact⟨_,by apply fN;rfl;all_goals simp only[aH,bY,Z8,seval,hJ]<;>rfl,by rw[if_pos (nb (fun h=>by obtain⟨u1,u2,u3,u4,u5,u6⟩:=h;first|exact absurd u1 (by assumption)|exact absurd u2 (by assumption)|omega|exact absurd (u3.symm.trans g3) (by decide)))]⟩
   replace g1:=Classical.not_not.1 g1
   by_cases g2:¬J0 s v J
   ·simp only[ZG,seval,Bool.false_and,Prod.mk.injEq,JZ,mG,mH,hJ,Qs hs _ rJ,Qs hs _ rF,hs.tree,hs.tables,XH,eT,oF,eV,XI,dN,XJ,VL _ hu,decide_true,decide_false,g1,g2];exact⟨_,by apply fN;rfl;all_goals simp only[aH,bY,Z8,seval,hJ]<;>rfl,by rw[if_pos (nb (fun h=>by obtain⟨u1,u2,u3,u4,u5,u6⟩:=h;first|exact absurd u1 (by assumption)|exact absurd u2 (by assumption)|omega|exact absurd (u3.symm.trans g3) (by decide)))]⟩
   replace g2:=Classical.not_not.1 g2
   have e1:=aAi g1
   have e2:=aAi g2
   by_cases g3:tW v.ns (aN v.ns F.root) (aN v.ns J.root)=false
   ·simp only[ZG,seval,Bool.false_and,Prod.mk.injEq,JZ,mG,mH,hJ,Qs hs _ rJ,Qs hs _ rF,hs.tree,hs.tables,XH,eT,oF,eV,XI,dN,XJ,VL _ hu,decide_true,decide_false,g1,g2,e1,e2,g3];exact⟨_,by apply fN;rfl;all_goals simp only[aH,bY,Z8,seval,hJ]<;>rfl,by rw[if_pos (nb (fun h=>by obtain⟨u1,u2,u3,u4,u5,u6⟩:=h;first|exact absurd u1 (by assumption)|exact absurd u2 (by assumption)|omega|exact absurd (u3.symm.trans g3) (by decide)))]⟩
   replace g3:=(by simpa using g3:tW v.ns _ _=true)
   by_cases g4:J.aG<F.aG
   ·simp only[ZG,seval,Bool.false_and,Prod.mk.injEq,JZ,mG,mH,hJ,Qs hs _ rJ,Qs hs _ rF,hs.tree,hs.tables,XH,eT,oF,eV,XI,dN,XJ,VL _ hu,decide_true,decide_false,g1,g2,e1,e2,g3,g3,g4];exact⟨_,by apply fN;rfl;all_goals simp only[aH,bY,Z8,seval,hJ]<;>rfl,by rw[if_pos (nb (fun h=>by obtain⟨u1,u2,u3,u4,u5,u6⟩:=h;first|exact absurd u1 (by assumption)|exact absurd u2 (by assumption)|omega|exact absurd (u3.symm.trans g3) (by decide)))]⟩
   by_cases g5:yD s s.now<J.aG
   ·simp only[ZG,seval,Bool.false_and,Prod.mk.injEq,JZ,mG,mH,hJ,Qs hs _ rJ,Qs hs _ rF,hs.tree,hs.tables,XH,eT,oF,eV,XI,dN,XJ,VL _ hu,decide_true,decide_false,g1,g2,e1,e2,g3,g3,g4,g5];exact⟨_,by apply fN;rfl;all_goals simp only[aH,bY,Z8,seval,hJ]<;>rfl,by rw[if_pos (nb (fun h=>by obtain⟨u1,u2,u3,u4,u5,u6⟩:=h;first|exact absurd u1 (by assumption)|exact absurd u2 (by assumption)|omega|exact absurd (u3.symm.trans g3) (by decide)))]⟩
   by_cases g6:¬0≤DV (ol v.T) J
   ·simp only[ZG,seval,Bool.false_and,Prod.mk.injEq,JZ,mG,mH,hJ,Qs hs _ rJ,Qs hs _ rF,hs.tree,hs.tables,XH,eT,oF,eV,XI,dN,XJ,VL _ hu,decide_true,decide_false,g1,g2,e1,e2,g3,g3,g4,g5,g6];exact⟨_,by apply fN;rfl;all_goals simp only[aH,bY,Z8,seval,hJ]<;>rfl,by rw[if_pos (nb (fun h=>by obtain⟨u1,u2,u3,u4,u5,u6⟩:=h;first|exact absurd u1 (by assumption)|exact absurd u2 (by assumption)|omega|exact absurd (u3.symm.trans g3) (by decide)))]⟩
   replace g6:=Classical.not_not.1 g6
   simp only[ZG,seval,Bool.false_and,Prod.mk.injEq,JZ,mG,mH,hJ,Qs hs _ rJ,Qs hs _ rF,hs.tree,hs.tables,XH,eT,oF,eV,XI,dN,XJ,VL _ hu,decide_true,decide_false,g1,g2,e1,e2,g3,g3,g4,g5,g6];exact⟨_,by apply fN;rfl;all_goals simp only[aH,bY,Z8,seval,hJ]<;>rfl,by rw[if_neg (aG7.1 ⟨g1,g2,g3,by omega,by omega,by omega⟩)]⟩
theorem k58 {s:aM} {v:SV} (hs:SD s v) (hu:gK v.ns) (hp:1≤s.cFg.jH∧s.cFg.jH≤64) (hx:Rg s.now) (hj:Rg s.aL.gI.aG) (Pf:Rg s.aL.fin.aG) (c1 c2:dQ) (h1:Rg c1.aG) (h2:Rg c2.aG) (st:St) (d:Option Nat):aO (aB Tryz.prog) 58 [.agg (aA s),.agg (bB c1),.agg (bB c2)] st d=some { dst:=d,val:=Nj s v c1 c2 }:=bG (mE hs.flat (.agg _ (bR c1)) (.agg _ (bR c2))) (c58 hs hu hp hx hj Pf c1 c2 h1 h2) (by unfold Nj;split<;>exact .eG _ (mE (.agg _ (bR _)) (.agg _ (bR _)) (.v _)))
def Ar (s g:Nat) (st st':St):Prop:=(∀x h,h<st.aU x→¬(x=s∧h=g)→st'.heap x h=st.heap x h)∧∀x,st.aU x≤st'.aU x
theorem Ar.refl (s g:Nat) (st:St):Ar s g st st:=⟨fun _ _ _ _=>rfl,fun _=>Nat.le_refl _⟩
theorem Ei:aC 0 1 (some 4)=[]∧aC 1 4 (some 8)=[]∧aC 2 2 (some 11)=[]∧aC 3 2 (some 13)=[]∧aC 4 3 (some 14)=[]∧aC 5 4 (some 16)=[]∧aC 6 3 (some 20)=[]∧aC 7 6 (some 22)=[]∧aC 8 4 (some 26)=[]∧aC 9 5 (some 30)=[]∧aC 10 3 (some 34)=[]∧aC 11 4 (some 36)=[]∧aC 12 4 (some 39)=[]:=⟨rfl,rfl,rfl,rfl,rfl,rfl,rfl,rfl,rfl,rfl,rfl,rfl,rfl⟩
structure KOk (K:St→Prop) (s g e sz:Nat) (cs:Nat→List AV→Prop):Prop where
 put:∀st d v,K (St.put st d v)=K st
 new:∀st x,K (St.new st 7 x)=K st
 set:∀st h x,K (St.jC st 7 h x)=K st
 back:∀a st,K (St.back a st)=K st
 row:∀st n C,cs n C→K st→K (St.jC st s g (some (.row e sz n C)))
theorem HT {α:Type} {p:α→Bool} {l:List α} (h:∀j:Nat,j<l.length→∀hj:j<l.length,¬p l[j]=true):l.filter (fun x=>!p x)=l:=by
 refine List.filter_eq_self.2 fun x hx=>?_
 obtain⟨i,hi,rfl⟩:=List.getElem_of_mem hx
 simpa using h i hi hi
theorem AN {α:Type} {p:α→Bool} {l:List α} {k:Nat} (hk:k<l.length) (hp:p l[k]=true) (h:∀j:Nat,j<k→∀hj:j<l.length,¬p l[j]=true):(l.take (k+1)).filter (fun x=>!p x)=l.take k:=by
 rw[List.take_succ_eq_append_getElem hk,List.filter_append];have h1:(l.take k).filter (fun x=>!p x)=l.take k:=by
  refine List.filter_eq_self.2 fun x hx=>?_
  obtain⟨i,hi,rfl⟩:=List.getElem_of_mem hx
  rw[List.length_take] at hi;rw[List.getElem_take];simpa using h i (by omega) (by omega)
 simp[h1,hp]
theorem HU {α:Type} {q:α→Bool} {l:List α} {k:Nat} (hk:k<l.length):(l.take (k+1)).filter q=(l.take k).filter q++(if q l[k]=true then [l[k]] else []):=by
 rw[List.take_succ_eq_append_getElem hk,List.filter_append];congr 1
 by_cases h:q l[k]=true<;>simp[h]
theorem A7 {α:Type} {p:α→Bool} {l:List α} {k:Nat} (hk:k<l.length) (hp:p l[k]=true):(l.filter (fun x=>!p x)).length<l.length:=by
 rcases Nat.lt_or_ge (l.filter (fun x=>!p x)).length l.length with h|h
 ·exact h
 ·have h2:=List.Sublist.eq_of_length_le (List.filter_sublist (p:=fun x=>!p x) (l:=l)) h
  have h3:=(List.filter_eq_self.1 h2) _ (List.getElem_mem hk)
  simp[hp] at h3
theorem A8 {α:Type} {z:α} {M L:List α} {j:Nat} (h:M.drop j=L.drop j):gx z M (j:Int)=gx z L (j:Int):=by
 have h1:(M.drop j)[0]? = (L.drop j)[0]?:=by rw[h]
 rw[List.getElem?_drop,List.getElem?_drop,Nat.add_zero] at h1;unfold gx;rw[Int.toNat_natCast,List.getD_eq_getElem?_getD,List.getD_eq_getElem?_getD,h1]
theorem yX {α:Type} {M L:List α} {j:Nat} (h:M.drop j=L.drop j):M.drop (j+1)=L.drop (j+1):=by
 have:=congrArg (List.drop 1) h
 rwa [List.drop_drop,List.drop_drop] at this
theorem Ml {α:Type} {z:α} {l:List α} {j:Nat} (h:j<l.length):gx z l (j:Int)=l[j]:=by
 unfold gx;rw[Int.toNat_natCast,List.getD_eq_getElem?_getD,List.getElem?_eq_getElem h];rfl
theorem QB {α:Type} {M:List α} {k:Nat} (hk:k<M.length) (x:α):(M.set k x).take (k+1)=M.take k++[x]:=by
 rw[List.take_succ_eq_append_getElem (by rw[List.length_set];exact hk),List.take_set_of_le (Nat.le_refl _),List.getElem_set_self]
theorem set_drop {α:Type} {M:List α} {k j:Nat} (h:k<j) (x:α):(M.set k x).drop j=M.drop j:=by
 rw[List.drop_set_of_lt h]
theorem aG8 (L:List Table) (hn:(L.length:Int)<1000000) (hFl:∀y∈L,Flat y.iP) (p:Table→Bool) (F s g a b:Nat) (h7:s≠7) (K:St→Prop) (hK:KOk K s g 118 34 (fun n C=>∃M:List Table,n=M.length∧M.length=L.length∧C=aI M∧(∀y∈M,Flat y.iP)))
 (Ac:∀x∈L,∀(st:St) (d:Option Nat),K st→aO (aB Tryz.prog) F ([.agg (cA x)]++[.ptr a b 0]) st d=some { dst:=d,val:=.v (.bool (p x))})
 (r9:∀(st:St) (d:Option Nat),K st→st.heap s g=some (.row 118 34 L.length (aI L))→aO (aB Tryz.prog) 173 [.own s g,.rW F [.ptr a b 0]] st d=some { dst:=d,val:=.v (.int .i64 (uL (fun k=>p (gx eI L k)=true) L.length))})
 (Qt:St) (rG:K Qt) (hg:g<Qt.aU s) (hh:Qt.heap s g=some (.row 118 34 L.length (aI L))) :
 ∃st',if L.filter (fun x=>!p x)=L then pR Tryz.prog 123 [.own s g,.rW F [.ptr a b 0]] Qt=some (.own s g,st')∧Ar s g Qt st'∧st'.heap s g=some (.row 118 34 L.length (aI L)) else
  pR Tryz.prog 123 [.own s g,.rW F [.ptr a b 0]] Qt=some (.vw s g 0 (L.filter (fun x=>!p x)).length,st')∧Ar s g Qt st'∧∃Z,(∀c∈Z,Flat c)∧((aI (L.filter (fun x=>!p x)))++Z).length=L.length * 34∧st'.heap s g=some (.row 118 34 L.length (aI (L.filter (fun x=>!p x))++Z)):=by
 have QC:=hK.put
 have XK:=hK.new
 have XL:=hK.set
 have hKb:=hK.back
 have s7:(s=7)=False:=eq_false h7
 have s7':(7=s)=False:=eq_false (fun e=>h7 e.symm)
 rcases sY (fun k=>p (gx eI L k)=true) L.length with ⟨e,hj⟩|⟨k,hk,hp,hj,e⟩
 ·have hf:L.filter (fun x=>!p x)=L:=HT fun j h1 h2=>by have:=hj j h1;rwa [Ml h2] at this
  rw[e] at r9;suffices h:∃r:AV × St,pR Tryz.prog 123 [.own s g,.rW F [.ptr a b 0]] Qt=some r∧r.1=.own s g∧Ar s g Qt r.2∧r.2.heap s g=some (.row 118 34 L.length (aI L)) by
   obtain⟨⟨x,st'⟩,h1,h2,h3,h4⟩:=h
   obtain rfl:x=.own s g:=h2
   exact⟨st',by rw[if_pos hf];exact⟨h1,h3,h4⟩⟩
  rw[Ce Tryz.prog Tryz.func123 rfl (by kernel_rfl)]
  simp only[ZG,seval,Bool.false_and,Prod.mk.injEq,Ei,bQ,aQ,QC,XK,XL,hKb,rG,hh,r9];refine⟨_,xG (P:=Tryz.prog) (fn:=Tryz.f123) (r:=.tmp 4) (x:=.own s g) (.inl rfl) rfl ?h1,rfl,⟨fun y h h1 h2=>?h2,fun y=>?h3⟩, ?h4⟩
  case h1=>rw[rI];simp only[bY,E8,seval]
  case h2=>simp only[E8,seval,aQ,aW]
  case h3=>simp only[E8,seval,aQ,aW];exact Nat.le_refl _
  case h4=>simp only[E8,seval,aQ,aW,hh]
 ·have bA:=A7 (p:=p) hk (by have:=hp;rwa [Ml hk] at this)
  have hf:¬L.filter (fun x=>!p x)=L:=fun e=>by rw[e] at bA;omega
  rw[e] at r9;suffices h:∃r:AV × St,pR Tryz.prog 123 [.own s g,.rW F [.ptr a b 0]] Qt=some r∧r.1=.vw s g 0 (L.filter (fun x=>!p x)).length∧Ar s g Qt r.2∧∃Z,(∀c∈Z,Flat c)∧((aI (L.filter (fun x=>!p x)))++Z).length=L.length * 34∧r.2.heap s g=some (.row 118 34 L.length (aI (L.filter (fun x=>!p x))++Z)) by
   obtain⟨⟨x,st'⟩,h1,h2,h3⟩:=h
   obtain rfl:x=.vw s g 0 (L.filter (fun x=>!p x)).length:=h2
   exact⟨st',by rw[if_neg hf];exact⟨h1,h3⟩⟩
  have J1:¬(k:Int)=-1:=by omega
  have hw0:IntKind.i64.wrap ((k:Int)+1)=((k+1:Nat):Int):=by rw[nU _ (by omega) (by omega)];omega
  rw[Ce Tryz.prog Tryz.func123 rfl (by kernel_rfl)]
  simp only[ZG,seval,Bool.false_and,Prod.mk.injEq,Ei,bQ,aQ,QC,XK,XL,hKb,rG,hh,r9,bf J1,hw0];refine kS (fun m st=>∃(j k':Nat) (M:List Table),((st.env 0=.own s g∧st.env 1=.rW F [.ptr a b 0]∧st.env 5=.v (.int .i64 (k':Nat))∧st.heap s g=some (.row 118 34 M.length (aI M))∧K st)∧st.env 6=.v (.int .i64 (j:Nat)))∧Ar s g Qt st∧M.length=L.length∧(∀y∈M,Flat y.iP)∧M.take k'=(L.take j).filter (fun x=>!p x)∧k'=((L.take j).filter (fun x=>!p x)).length∧M.drop j=L.drop j∧k'<j∧j≤L.length∧m=L.length-j)
   (fun e st=>e=.exit 0∧∃(k':Nat) (M:List Table),((st.env 0=.own s g∧st.env 1=.rW F [.ptr a b 0]∧st.env 5=.v (.int .i64 (k':Nat))∧st.heap s g=some (.row 118 34 M.length (aI M))∧K st))∧Ar s g Qt st∧M.length=L.length∧(∀y∈M,Flat y.iP)∧M.take k'=L.filter (fun x=>!p x)∧k'=(L.filter (fun x=>!p x)).length) (L.length-(k+1)) ?step ?start ?rest
  case step =>
   rintro m st ⟨j,k',M,hI,hF,hM,hMf,hT,AO,hD,hkj,hj',hm⟩
   by_cases Hh:(j:Int)<M.length
   case neg =>
    have hjn:j=L.length:=by omega
    subst hjn;rw[List.take_length] at hT AO
    apply HF (.exit 0)
    ·simp only[ZG,seval,Bool.false_and,Prod.mk.injEq,Ei,hI,Hh];rfl
    ·exact⟨rfl,k',M,by simp only[E8,seval,QC,hI],⟨fun y h h1 h2=>by simp only[E8,seval];exact hF.1 y h h1 h2,fun y=>by simp only[E8,seval];exact hF.2 y⟩,hM,hMf,hT,AO⟩
   have hjL:j<L.length:=by omega
   have q0:(0:Int)≤j:=by omega
   have q1:(0:Int)≤k':=by omega
   have q2:(k':Int)<M.length:=by omega
   have q3:(k':Int).toNat<M.length:=by omega
   have hwj:IntKind.i64.wrap ((j:Int)+1)=((j+1:Nat):Int):=by rw[nU _ (by omega) (by omega)];omega
   have hwk:IntKind.i64.wrap ((k':Int)+1)=((k'+1:Nat):Int):=by rw[nU _ (by omega) (by omega)];omega
   have hx:=A8 (z:=eI) hD
   have hxe:=Ml (z:=eI) hjL
   obtain⟨x,hxx⟩:∃x,L[j]=x:=⟨_,rfl⟩
   rw[hxe,hxx] at hx;have hxm:x∈L:=by rw[← hxx];exact List.getElem_mem _
   have kc:=Ac x hxm
   have Q1:sA Tryz.prog 118 (some (.row 118 34 M.length (aI M))) ((j:Int).toNat * 34)=fD Tryz.prog 118 (cA x) 0:=by rw[QD (k:=34) q0 Hh aFO (by decide) (by decide),hx]
   have NH:=HU (q:=fun x=>!p x) hjL
   rw[hxx] at NH;have q4:(k':Int).toNat * 34+34≤M.length * 34:=by omega
   have aAj:∀lG:St,K lG→K (St.jC lG s g (some (.row 118 34 M.length (aI (M.set k' x))))):=fun lG=>hK.row lG _ _ ⟨M.set k' x,by rw[List.length_set],by rw[List.length_set];exact hM,rfl,fun y hy=>(List.mem_or_eq_of_mem_set hy).elim (hMf y) fun e=>by rw[e];exact hFl x hxm⟩
   by_cases UR:p x=true
   ·rw[UR] at kc;simp only[UR,Bool.not_true,Bool.false_eq_true,if_false,List.append_nil] at NH;apply Cx (L.length-(j+1))
    ·simp only[ZG,seval,Bool.false_and,Prod.mk.injEq,Ei,hI,QC,XK,XL,Hh,q0,Q1,kc,hwj,s7,s7'];rfl
    ·exact⟨j+1,k',M,by simp only[E8,seval,hI,QC,XK,XL,s7,s7'],⟨fun y h h1 h2=>by
      have n7:(y=7∧h=st.aU 7)=False:=eq_false (by rintro⟨rfl,rfl⟩;have:=hF.2 7;omega)
      have ng:(y=s∧h=g)=False:=eq_false h2
      simp only[E8,seval,n7,ng,if_false];exact hF.1 y h h1 h2,fun y=>by
      have:=hF.2 y
      simp only[E8,seval];split<;>(try subst_vars)<;>omega⟩,hM,hMf,by rw[NH];exact hT,by rw[NH];exact AO,yX hD,by omega,by omega,rfl⟩
   ·have hp2:p x=false:=by simpa using UR
    rw[hp2] at kc;simp only[hp2,Bool.not_false,if_true] at NH;apply Cx (L.length-(j+1))
    ·simp only[ZG,seval,Bool.false_and,Prod.mk.injEq,Ei,hI,QC,XK,XL,Hh,q0,q1,q2,q3,q4,Q1,kc,hwj,hwk,s7,s7'];rfl
    ·exact⟨j+1,k'+1,M.set k' x,by simp only[E8,seval,hI,QC,XK,XL,s7,s7',aAj,List.length_set,Int.toNat_natCast],⟨fun y h h1 h2=>by
      have n7:(y=7∧h=st.aU 7)=False:=eq_false (by rintro⟨rfl,rfl⟩;have:=hF.2 7;omega)
      have ng:(y=s∧h=g)=False:=eq_false h2
      simp only[E8,seval,n7,ng,if_false];exact hF.1 y h h1 h2,fun y=>by
      have:=hF.2 y
      simp only[E8,seval];split<;>(try subst_vars)<;>omega⟩,by rw[List.length_set];exact hM,fun y hy=>(List.mem_or_eq_of_mem_set hy).elim (hMf y) fun e=>by rw[e];exact hFl x hxm,by rw[QB (by omega),hT,NH],by rw[NH,List.length_append,← AO];rfl,by rw[set_drop (by omega)];exact yX hD,by omega,by omega,rfl⟩
  case start =>
   have ff:=AN (p:=p) hk (by have:=hp;rwa [Ml hk] at this) (fun j h1 h2=>by have:=hj j h1;rwa [Ml h2] at this)
   exact⟨k+1,k,L,by simp only[E8,seval,bQ,aQ,QC,XK,XL,hKb,rG,hh],⟨fun y h h1 h2=>by simp only[E8,seval,aQ],fun y=>by simp only[E8,seval,aW];exact Nat.le_refl _⟩,rfl,hFl,ff.symm,by rw[ff,List.length_take];omega,rfl,by omega,by omega,rfl⟩
  case rest =>
   rintro e st ⟨rfl,k',M,hI,hF,hM,hMf,hT,AO⟩
   have Bu:k'<M.length:=by omega
   have sv:∀(st:St) (lo:Operand),st.heap s g=some (.row 118 34 M.length (aI M))→st.ev lo=.v (.int .i64 k')→dB Tryz.prog st 51 (.own s g) (some lo) none=some (.vw s g (k' * 34) (M.length-k')):=fun st lo hh he=>by
    have h1:¬((k':Int)=M.length∧¬((k':Int)=0∧0<M.length)):=by omega
    have h2:(0:Int)≤k'∧(k':Int)≤M.length:=by omega
    have h3:((M.length:Int)-(k':Int)).toNat=M.length-k':=by omega
    simp only[dB,Tu,hh,he,if_neg h1,h2,h3,Int.le_refl,and_self,if_true,Int.toNat_natCast]
   obtain⟨Z,cl,hZ,hZl⟩:∃Z,(∀st:St,st.heap s g=some (.row 118 34 M.length (aI M))→sE Tryz.prog st 51 (.vw s g (k' * 34) (M.length-k'))=some (some (s,g,.row 118 34 M.length (aI (M.take k')++Z))))∧(∀c∈Z,Flat c)∧Z.length=(M.length-k') * 34:=by
    refine⟨(List.range (M.length-k')).flatMap fun _=>Nz.map AV.v,fun st hh=>?_,fun c hc=>?_, ?_⟩
    ·have hc:k' * 34+(M.length-k') * 34≤(aI M).length:=by rw[xK];omega
     simp only[sE,Tu,aAk,hh];rw[if_pos ⟨trivial,trivial,hc⟩];have hd:(aI M).drop (k' * 34+(M.length-k') * 34)=[]:=List.drop_of_length_le (by rw[xK];omega)
     rw[hd,List.append_nil];congr 5
     exact congrArg (· ++ _) (wO (c:=cA) (sz:=34) eN M k')
    ·obtain⟨_,_,hc⟩:=List.mem_flatMap.1 hc
     obtain⟨x,_,rfl⟩:=List.mem_map.1 hc
     exact .v x
    ·have hv:(Nz.map AV.v).length=34:=by kernel_rfl
     generalize M.length-k'=m
     induction m with
     | zero=>rfl
     | succ m ih=>rw[List.range_succ,List.flatMap_append,List.length_append,ih];simp only[List.flatMap_cons,List.flatMap_nil,List.append_nil,hv];omega
   have sv2:∀(st:St) (hi:Operand),st.heap s g=some (.row 118 34 M.length (aI (M.take k')++Z))→st.ev hi=.v (.int .i64 k')→dB Tryz.prog st 51 (.own s g) none (some hi)=some (.vw s g 0 k'):=fun st hi hh he=>by
    have h1:¬((0:Int)=k'∧¬((0:Int)=0∧0<M.length)):=by omega
    have h2:(0:Int)≤k'∧(k':Int)≤M.length:=by omega
    simp only[dB,Tu,hh,he,if_neg h1,h2,Int.le_refl,and_self,if_true];simp
    intro h3 h4;rw[h4] at Bu;simp at Bu
   simp only[ZG,seval,Bool.false_and,Prod.mk.injEq,Ei,hI,sv,cl,sv2,QE];refine⟨_,xG (P:=Tryz.prog) (fn:=Tryz.f123) (r:=.tmp 4) (x:=.vw s g 0 k') (.inl rfl) rfl ?h1,by rw[AO],⟨fun y h h1 h2=>?h2,fun y=>?h3⟩,Z,hZ, ?h4, ?h5⟩
   case h1=>rw[rI];simp only[bY,E8,seval]
   case h2 =>
    have ng:(y=s∧h=g)=False:=eq_false h2
    simp only[E8,seval,ng,if_false];exact hF.1 y h h1 h2
   case h3=>simp only[E8,seval];exact hF.2 y
   case h4=>rw[List.length_append,xK,hZl,← AO,hM,← Nat.add_mul];congr 1;omega
   case h5=>simp only[E8,seval,hT,hM]
theorem aHb (L:List Block) (hn:(L.length:Int)<1000000) (p:Block→Bool) (F s g a b:Nat) (h7:s≠7) (K:St→Prop) (hK:KOk K s g 74 238 (fun n C=>∃M:List Block,n=M.length∧M.length=L.length∧C=aF M))
 (Ac:∀x∈L,∀(st:St) (d:Option Nat),K st→aO (aB Tryz.prog) F ([.agg (aV x)]++[.ptr a b 0]) st d=some { dst:=d,val:=.v (.bool (p x))})
 (r9:∀(st:St) (d:Option Nat),K st→st.heap s g=some (.row 74 238 L.length (aF L))→aO (aB Tryz.prog) 171 [.own s g,.rW F [.ptr a b 0]] st d=some { dst:=d,val:=.v (.int .i64 (uL (fun k=>p (gx dX L k)=true) L.length))})
 (Qt:St) (rG:K Qt) (hg:g<Qt.aU s) (hh:Qt.heap s g=some (.row 74 238 L.length (aF L))) :
 ∃st',if L.filter (fun x=>!p x)=L then pR Tryz.prog 126 [.own s g,.rW F [.ptr a b 0]] Qt=some (.own s g,st')∧Ar s g Qt st'∧st'.heap s g=some (.row 74 238 L.length (aF L)) else
  pR Tryz.prog 126 [.own s g,.rW F [.ptr a b 0]] Qt=some (.vw s g 0 (L.filter (fun x=>!p x)).length,st')∧Ar s g Qt st'∧∃Z,(∀c∈Z,Flat c)∧((aF (L.filter (fun x=>!p x)))++Z).length=L.length * 238∧st'.heap s g=some (.row 74 238 L.length (aF (L.filter (fun x=>!p x))++Z)):=by
 have QC:=hK.put
 have XK:=hK.new
 have XL:=hK.set
 have hKb:=hK.back
 have s7:(s=7)=False:=eq_false h7
 have s7':(7=s)=False:=eq_false (fun e=>h7 e.symm)
 rcases sY (fun k=>p (gx dX L k)=true) L.length with ⟨e,hj⟩|⟨k,hk,hp,hj,e⟩
 ·have hf:L.filter (fun x=>!p x)=L:=HT fun j h1 h2=>by have:=hj j h1;rwa [Ml h2] at this
  rw[e] at r9;suffices h:∃r:AV × St,pR Tryz.prog 126 [.own s g,.rW F [.ptr a b 0]] Qt=some r∧r.1=.own s g∧Ar s g Qt r.2∧r.2.heap s g=some (.row 74 238 L.length (aF L)) by
   obtain⟨⟨x,st'⟩,h1,h2,h3,h4⟩:=h
   obtain rfl:x=.own s g:=h2
   exact⟨st',by rw[if_pos hf];exact⟨h1,h3,h4⟩⟩
  rw[Ce Tryz.prog Tryz.func126 rfl (by kernel_rfl)]
  simp only[ZG,seval,Bool.false_and,Prod.mk.injEq,Ei,bQ,aQ,QC,XK,XL,hKb,rG,hh,r9];refine⟨_,xG (P:=Tryz.prog) (fn:=Tryz.f126) (r:=.tmp 4) (x:=.own s g) (.inl rfl) rfl ?h1,rfl,⟨fun y h h1 h2=>?h2,fun y=>?h3⟩, ?h4⟩
  case h1=>rw[rI];simp only[bY,E8,seval]
  case h2=>simp only[E8,seval,aQ,aW]
  case h3=>simp only[E8,seval,aQ,aW];exact Nat.le_refl _
  case h4=>simp only[E8,seval,aQ,aW,hh]
 ·have bA:=A7 (p:=p) hk (by have:=hp;rwa [Ml hk] at this)
  have hf:¬L.filter (fun x=>!p x)=L:=fun e=>by rw[e] at bA;omega
  rw[e] at r9;suffices h:∃r:AV × St,pR Tryz.prog 126 [.own s g,.rW F [.ptr a b 0]] Qt=some r∧r.1=.vw s g 0 (L.filter (fun x=>!p x)).length∧Ar s g Qt r.2∧∃Z,(∀c∈Z,Flat c)∧((aF (L.filter (fun x=>!p x)))++Z).length=L.length * 238∧r.2.heap s g=some (.row 74 238 L.length (aF (L.filter (fun x=>!p x))++Z)) by
   obtain⟨⟨x,st'⟩,h1,h2,h3⟩:=h
   obtain rfl:x=.vw s g 0 (L.filter (fun x=>!p x)).length:=h2
   exact⟨st',by rw[if_neg hf];exact⟨h1,h3⟩⟩
  have J1:¬(k:Int)=-1:=by omega
  have hw0:IntKind.i64.wrap ((k:Int)+1)=((k+1:Nat):Int):=by rw[nU _ (by omega) (by omega)];omega
  rw[Ce Tryz.prog Tryz.func126 rfl (by kernel_rfl)]
  simp only[ZG,seval,Bool.false_and,Prod.mk.injEq,Ei,bQ,aQ,QC,XK,XL,hKb,rG,hh,r9,bf J1,hw0];refine kS (fun m st=>∃(j k':Nat) (M:List Block),((st.env 0=.own s g∧st.env 1=.rW F [.ptr a b 0]∧st.env 5=.v (.int .i64 (k':Nat))∧st.heap s g=some (.row 74 238 M.length (aF M))∧K st)∧st.env 6=.v (.int .i64 (j:Nat)))∧Ar s g Qt st∧M.length=L.length∧M.take k'=(L.take j).filter (fun x=>!p x)∧k'=((L.take j).filter (fun x=>!p x)).length∧M.drop j=L.drop j∧k'<j∧j≤L.length∧m=L.length-j)
   (fun e st=>e=.exit 0∧∃(k':Nat) (M:List Block),((st.env 0=.own s g∧st.env 1=.rW F [.ptr a b 0]∧st.env 5=.v (.int .i64 (k':Nat))∧st.heap s g=some (.row 74 238 M.length (aF M))∧K st))∧Ar s g Qt st∧M.length=L.length∧M.take k'=L.filter (fun x=>!p x)∧k'=(L.filter (fun x=>!p x)).length) (L.length-(k+1)) ?step ?start ?rest
  case step =>
   rintro m st ⟨j,k',M,hI,hF,hM,hT,AO,hD,hkj,hj',hm⟩
   by_cases Hh:(j:Int)<M.length
   case neg =>
    have hjn:j=L.length:=by omega
    subst hjn;rw[List.take_length] at hT AO
    apply HF (.exit 0)
    ·simp only[ZG,seval,Bool.false_and,Prod.mk.injEq,Ei,hI,Hh];rfl
    ·exact⟨rfl,k',M,by simp only[E8,seval,QC,hI],⟨fun y h h1 h2=>by simp only[E8,seval];exact hF.1 y h h1 h2,fun y=>by simp only[E8,seval];exact hF.2 y⟩,hM,hT,AO⟩
   have hjL:j<L.length:=by omega
   have q0:(0:Int)≤j:=by omega
   have q1:(0:Int)≤k':=by omega
   have q2:(k':Int)<M.length:=by omega
   have q3:(k':Int).toNat<M.length:=by omega
   have hwj:IntKind.i64.wrap ((j:Int)+1)=((j+1:Nat):Int):=by rw[nU _ (by omega) (by omega)];omega
   have hwk:IntKind.i64.wrap ((k':Int)+1)=((k'+1:Nat):Int):=by rw[nU _ (by omega) (by omega)];omega
   have hx:=A8 (z:=dX) hD
   have hxe:=Ml (z:=dX) hjL
   obtain⟨x,hxx⟩:∃x,L[j]=x:=⟨_,rfl⟩
   rw[hxe,hxx] at hx;have hxm:x∈L:=by rw[← hxx];exact List.getElem_mem _
   have kc:=Ac x hxm
   have Q1:sA Tryz.prog 74 (some (.row 74 238 M.length (aF M))) ((j:Int).toNat * 238)=fD Tryz.prog 74 (aV x) 0:=by rw[xH (k:=238) q0 Hh PJ (by decide) (by decide),hx]
   have NH:=HU (q:=fun x=>!p x) hjL
   rw[hxx] at NH;have q4:(k':Int).toNat * 238+238≤M.length * 238:=by omega
   have aAj:∀lG:St,K lG→K (St.jC lG s g (some (.row 74 238 M.length (aF (M.set k' x))))):=fun lG=>hK.row lG _ _ ⟨M.set k' x,by rw[List.length_set],by rw[List.length_set];exact hM,rfl⟩
   by_cases UR:p x=true
   ·rw[UR] at kc;simp only[UR,Bool.not_true,Bool.false_eq_true,if_false,List.append_nil] at NH;apply Cx (L.length-(j+1))
    ·simp only[ZG,seval,Bool.false_and,Prod.mk.injEq,Ei,hI,QC,XK,XL,Hh,q0,Q1,kc,hwj,s7,s7'];rfl
    ·exact⟨j+1,k',M,by simp only[E8,seval,hI,QC,XK,XL,s7,s7'],⟨fun y h h1 h2=>by
      have n7:(y=7∧h=st.aU 7)=False:=eq_false (by rintro⟨rfl,rfl⟩;have:=hF.2 7;omega)
      have ng:(y=s∧h=g)=False:=eq_false h2
      simp only[E8,seval,n7,ng,if_false];exact hF.1 y h h1 h2,fun y=>by
      have:=hF.2 y
      simp only[E8,seval];split<;>(try subst_vars)<;>omega⟩,hM,by rw[NH];exact hT,by rw[NH];exact AO,yX hD,by omega,by omega,rfl⟩
   ·have hp2:p x=false:=by simpa using UR
    rw[hp2] at kc;simp only[hp2,Bool.not_false,if_true] at NH;apply Cx (L.length-(j+1))
    ·simp only[ZG,seval,Bool.false_and,Prod.mk.injEq,Ei,hI,QC,XK,XL,Hh,q0,q1,q2,q3,q4,Q1,kc,hwj,hwk,s7,s7'];rfl
    ·exact⟨j+1,k'+1,M.set k' x,by simp only[E8,seval,hI,QC,XK,XL,s7,s7',aAj,List.length_set,Int.toNat_natCast],⟨fun y h h1 h2=>by
      have n7:(y=7∧h=st.aU 7)=False:=eq_false (by rintro⟨rfl,rfl⟩;have:=hF.2 7;omega)
      have ng:(y=s∧h=g)=False:=eq_false h2
      simp only[E8,seval,n7,ng,if_false];exact hF.1 y h h1 h2,fun y=>by
      have:=hF.2 y
      simp only[E8,seval];split<;>(try subst_vars)<;>omega⟩,by rw[List.length_set];exact hM,by rw[QB (by omega),hT,NH],by rw[NH,List.length_append,← AO];rfl,by rw[set_drop (by omega)];exact yX hD,by omega,by omega,rfl⟩
  case start =>
   have ff:=AN (p:=p) hk (by have:=hp;rwa [Ml hk] at this) (fun j h1 h2=>by have:=hj j h1;rwa [Ml h2] at this)
   exact⟨k+1,k,L,by simp only[E8,seval,bQ,aQ,QC,XK,XL,hKb,rG,hh],⟨fun y h h1 h2=>by simp only[E8,seval,aQ],fun y=>by simp only[E8,seval,aW];exact Nat.le_refl _⟩,rfl,ff.symm,by rw[ff,List.length_take];omega,rfl,by omega,by omega,rfl⟩
  case rest =>
   rintro e st ⟨rfl,k',M,hI,hF,hM,hT,AO⟩
   have Bu:k'<M.length:=by omega
   have sv:∀(st:St) (lo:Operand),st.heap s g=some (.row 74 238 M.length (aF M))→st.ev lo=.v (.int .i64 k')→dB Tryz.prog st 45 (.own s g) (some lo) none=some (.vw s g (k' * 238) (M.length-k')):=fun st lo hh he=>by
    have h1:¬((k':Int)=M.length∧¬((k':Int)=0∧0<M.length)):=by omega
    have h2:(0:Int)≤k'∧(k':Int)≤M.length:=by omega
    have h3:((M.length:Int)-(k':Int)).toNat=M.length-k':=by omega
    simp only[dB,mW,hh,he,if_neg h1,h2,h3,Int.le_refl,and_self,if_true,Int.toNat_natCast]
   obtain⟨Z,cl,hZ,hZl⟩:∃Z,(∀st:St,st.heap s g=some (.row 74 238 M.length (aF M))→sE Tryz.prog st 45 (.vw s g (k' * 238) (M.length-k'))=some (some (s,g,.row 74 238 M.length (aF (M.take k')++Z))))∧(∀c∈Z,Flat c)∧Z.length=(M.length-k') * 238:=by
    refine⟨(List.range (M.length-k')).flatMap fun _=>Jb.map AV.v,fun st hh=>?_,fun c hc=>?_, ?_⟩
    ·have hc:k' * 238+(M.length-k') * 238≤(aF M).length:=by rw[oX];omega
     simp only[sE,mW,aAl,hh];rw[if_pos ⟨trivial,trivial,hc⟩];have hd:(aF M).drop (k' * 238+(M.length-k') * 238)=[]:=List.drop_of_length_le (by rw[oX];omega)
     rw[hd,List.append_nil];congr 5
     exact congrArg (· ++ _) (wO (c:=aV) (sz:=238) bS M k')
    ·obtain⟨_,_,hc⟩:=List.mem_flatMap.1 hc
     obtain⟨x,_,rfl⟩:=List.mem_map.1 hc
     exact .v x
    ·have hv:(Jb.map AV.v).length=238:=by kernel_rfl
     generalize M.length-k'=m
     induction m with
     | zero=>rfl
     | succ m ih=>rw[List.range_succ,List.flatMap_append,List.length_append,ih];simp only[List.flatMap_cons,List.flatMap_nil,List.append_nil,hv];omega
   have sv2:∀(st:St) (hi:Operand),st.heap s g=some (.row 74 238 M.length (aF (M.take k')++Z))→st.ev hi=.v (.int .i64 k')→dB Tryz.prog st 45 (.own s g) none (some hi)=some (.vw s g 0 k'):=fun st hi hh he=>by
    have h1:¬((0:Int)=k'∧¬((0:Int)=0∧0<M.length)):=by omega
    have h2:(0:Int)≤k'∧(k':Int)≤M.length:=by omega
    simp only[dB,mW,hh,he,if_neg h1,h2,Int.le_refl,and_self,if_true];simp
    intro h3 h4;rw[h4] at Bu;simp at Bu
   simp only[ZG,seval,Bool.false_and,Prod.mk.injEq,Ei,hI,sv,cl,sv2,QE];refine⟨_,xG (P:=Tryz.prog) (fn:=Tryz.f126) (r:=.tmp 4) (x:=.vw s g 0 k') (.inl rfl) rfl ?h1,by rw[AO],⟨fun y h h1 h2=>?h2,fun y=>?h3⟩,Z,hZ, ?h4, ?h5⟩
   case h1=>rw[rI];simp only[bY,E8,seval]
   case h2 =>
    have ng:(y=s∧h=g)=False:=eq_false h2
    simp only[E8,seval,ng,if_false];exact hF.1 y h h1 h2
   case h3=>simp only[E8,seval];exact hF.2 y
   case h4=>rw[List.length_append,oX,hZl,← AO,hM,← Nat.add_mul];congr 1;omega
   case h5=>simp only[E8,seval,hT,hM]
theorem QF {st:St} {s g e sz n k:Nat} {cs Z:List AV} (h:st.heap s g=some (.row e sz n (cs++Z))) (hc:cs.length=k * sz) (hn:(cs++Z).length=n * sz) (hz:∀c∈cs,Flat c) (hZ:∀c∈Z,Flat c) (hsz:0<sz):cJ st (.vw s g 0 k)=some (.sl k cs):=by
 have hnf:¬Flat (.vw s g 0 k):=by intro h;cases h
 have hf:(∀c∈cs++Z,Flat c)∧0+k * sz≤(cs++Z).length:=⟨fun c hc=>(List.mem_append.1 hc).elim (hz c) (hZ c),by rw[List.length_append];omega⟩
 unfold cJ;rw[if_neg hnf];simp only[h];rw[if_pos hf,List.drop_zero,← hc,List.take_left]
theorem aAn (L:List Table) (hn:(L.length:Int)<1000000) (hFl:∀y∈L,Flat y.iP) (J:dQ) (s g a b:Nat) (h7:s≠7) (ha:a≠7) (hab:¬(a=s∧b=g)):∃(X:AV) (G:St→St),(X.cells=[X]∧X.jE=true)∧∀st:St,st.heap a b=some (.cells (bB J))→st.heap s g=some (.row 118 34 L.length (aI L))→g<st.aU s →
 pR Tryz.prog 123 [.own s g,.rW 124 [.ptr a b 0]] st=some (X,G st)∧Ar s g st (G st)∧∃R,(G st).heap s g=some R∧∀lG:St,lG.heap s g=some R→cJ lG X=some (ov aI (some (L.filter fun x=>!(fun x=>decide (x.ck.aG<J.aG)) x))):=by
 obtain⟨p,hp⟩:∃p:Table→Bool,p=fun x=>decide (x.ck.aG<J.aG):=⟨_,rfl⟩
 have a7:(a=7)=False:=eq_false ha
 have aHc:(a=s∧b=g)=False:=eq_false hab
 have key:∀st:St,∃st',st.heap a b=some (.cells (bB J))→st.heap s g=some (.row 118 34 L.length (aI L))→g<st.aU s →
  (if L.filter (fun x=>!p x)=L then pR Tryz.prog 123 [.own s g,.rW 124 [.ptr a b 0]] st=some (.own s g,st')∧Ar s g st st'∧st'.heap s g=some (.row 118 34 L.length (aI L)) else
   pR Tryz.prog 123 [.own s g,.rW 124 [.ptr a b 0]] st=some (.vw s g 0 (L.filter (fun x=>!p x)).length,st')∧Ar s g st st'∧∃Z,(∀c∈Z,Flat c)∧((aI (L.filter (fun x=>!p x)))++Z).length=L.length * 34∧st'.heap s g=some (.row 118 34 L.length (aI (L.filter (fun x=>!p x))++Z))):=by
  intro st;by_cases hy:st.heap a b=some (.cells (bB J))∧st.heap s g=some (.row 118 34 L.length (aI L))∧g<st.aU s
  case neg=>exact⟨st,fun h1 h2 h3=>absurd ⟨h1,h2,h3⟩ hy⟩
  have eV:∀(lG:St),Vo lG (some (.cells (bB J))) 0=some (.ip (bB J) 0):=fun lG=>sW lG (bR J) 0
  have fI:Flat (.ip (bB J) 0):=.ip _ _ (bR J)
  have kk:KOk (fun lG=>lG.heap a b=some (.cells (bB J))) s g 118 34 (fun n C=>∃M:List Table,n=M.length∧M.length=L.length∧C=aI M∧(∀y∈M,Flat y.iP)) :=
   ⟨fun lG d v=>by simp only[xL],fun lG x=>by simp only[xM,a7,false_and,if_false],fun lG h x=>by simp only[pX,a7,false_and,if_false],fun x lG=>by simp only[aQ],fun lG n C _ h=>by
    show (St.jC lG s g _).heap a b=_
    simp only[pX,aHc,if_false];exact h⟩
  obtain⟨st',h⟩:=aG8 L hn hFl p 124 s g a b h7 (fun lG=>lG.heap a b=some (.cells (bB J))) kk
   (fun x hx lG d hk=>by
    have hk:lG.heap a b=some (.cells (bB J)):=hk
    rw[jV,List.singleton_append,List.map_cons,List.map_cons,List.map_nil,eB ((iE _).2 (hFl x hx)),QG hk (bR J),bM,bM,fY];have h:=aM8 x J
    rw[hp];exact Sv h)
   (fun lG d hk hh=>by
    have hk:lG.heap a b=some (.cells (bB J)):=hk
    rw[jV,List.map_cons,List.map_cons,List.map_nil,AP hh (iL _ hFl),oF,hk,sW lG (bR J) 0,Option.map_some,bM,bM,fY];have h:=aFM (some L) hn 124 [.ip (bB J) 0] p (fun x hx st d=>by rw[hp];exact bG (bF ((iE _).2 (hFl x hx)) fI) (aM8 x J) (.v _))
    exact Vp h)
   st hy.1 hy.2.2 hy.2.1
  exact⟨st',fun _ _ _=>h⟩
 rw[← hp];by_cases hf:L.filter (fun x=>!p x)=L
 ·refine⟨.own s g,fun st=>Classical.choose (key st),⟨rfl,rfl⟩,fun st h1 h2 h3=>?_⟩
  have h:=Classical.choose_spec (key st) h1 h2 h3
  rw[if_pos hf] at h;refine⟨h.1,h.2.1,_,h.2.2,fun lG h=>?_⟩
  rw[hf];exact Go.Ab.kD h (iL _ hFl)
 ·refine⟨.vw s g 0 (L.filter (fun x=>!p x)).length,fun st=>Classical.choose (key st),⟨rfl,rfl⟩,fun st h1 h2 h3=>?_⟩
  have h:=Classical.choose_spec (key st) h1 h2 h3
  rw[if_neg hf] at h;obtain⟨e1,e2,Z,hZ,hl,e3⟩:=h
  exact⟨e1,e2,_,e3,fun lG h=>QF h (xK _) hl (iL _ (fun y hy=>hFl y (List.mem_filter.1 hy).1)) hZ (by decide)⟩
theorem aHd (L:List Block) (hn:(L.length:Int)<1000000) (J:Int) (s g a b:Nat) (h7:s≠7) (ha:a≠7) (hab:¬(a=s∧b=g)):∃(X:AV) (G:St→St),(X.cells=[X]∧X.jE=true)∧∀st:St,st.heap a b=some (.cells (lV J))→st.heap s g=some (.row 74 238 L.length (aF L))→g<st.aU s →
 pR Tryz.prog 126 [.own s g,.rW 127 [.ptr a b 0]] st=some (X,G st)∧Ar s g st (G st)∧∃R,(G st).heap s g=some R∧∀lG:St,lG.heap s g=some R→cJ lG X=some (ov aF (some (L.filter fun x=>!(fun x=>decide (x.slot≤J)) x))):=by
 obtain⟨p,hp⟩:∃p:Block→Bool,p=fun x=>decide (x.slot≤J):=⟨_,rfl⟩
 have a7:(a=7)=False:=eq_false ha
 have aHc:(a=s∧b=g)=False:=eq_false hab
 have key:∀st:St,∃st',st.heap a b=some (.cells (lV J))→st.heap s g=some (.row 74 238 L.length (aF L))→g<st.aU s →
  (if L.filter (fun x=>!p x)=L then pR Tryz.prog 126 [.own s g,.rW 127 [.ptr a b 0]] st=some (.own s g,st')∧Ar s g st st'∧st'.heap s g=some (.row 74 238 L.length (aF L)) else
   pR Tryz.prog 126 [.own s g,.rW 127 [.ptr a b 0]] st=some (.vw s g 0 (L.filter (fun x=>!p x)).length,st')∧Ar s g st st'∧∃Z,(∀c∈Z,Flat c)∧((aF (L.filter (fun x=>!p x)))++Z).length=L.length * 238∧st'.heap s g=some (.row 74 238 L.length (aF (L.filter (fun x=>!p x))++Z))):=by
  intro st;by_cases hy:st.heap a b=some (.cells (lV J))∧st.heap s g=some (.row 74 238 L.length (aF L))∧g<st.aU s
  case neg=>exact⟨st,fun h1 h2 h3=>absurd ⟨h1,h2,h3⟩ hy⟩
  have eV:∀(lG:St),Vo lG (some (.cells (lV J))) 0=some (.ip (lV J) 0):=fun lG=>sW lG (dY J) 0
  have fI:Flat (.ip (lV J) 0):=.ip _ _ (dY J)
  have kk:KOk (fun lG=>lG.heap a b=some (.cells (lV J))) s g 74 238 (fun n C=>∃M:List Block,n=M.length∧M.length=L.length∧C=aF M) :=
   ⟨fun lG d v=>by simp only[xL],fun lG x=>by simp only[xM,a7,false_and,if_false],fun lG h x=>by simp only[pX,a7,false_and,if_false],fun x lG=>by simp only[aQ],fun lG n C _ h=>by
    show (St.jC lG s g _).heap a b=_
    simp only[pX,aHc,if_false];exact h⟩
  obtain⟨st',h⟩:=aHb L hn p 127 s g a b h7 (fun lG=>lG.heap a b=some (.cells (lV J))) kk
   (fun x hx lG d hk=>by
    have hk:lG.heap a b=some (.cells (lV J)):=hk
    rw[jV,List.singleton_append,List.map_cons,List.map_cons,List.map_nil,eB (tJ x),QG hk (dY J),bM,bM,fY];have h:=aNa x J
    rw[hp];exact Sv h)
   (fun lG d hk hh=>by
    have hk:lG.heap a b=some (.cells (lV J)):=hk
    rw[jV,List.map_cons,List.map_cons,List.map_nil,AP hh (lC _),oF,hk,sW lG (dY J) 0,Option.map_some,bM,bM,fY];have h:=aFN (some L) hn 127 [.ip (lV J) 0] p (fun x hx st d=>by rw[hp];exact bG (bF (tJ x) fI) (aNa x J) (.v _))
    exact Vp h)
   st hy.1 hy.2.2 hy.2.1
  exact⟨st',fun _ _ _=>h⟩
 rw[← hp];by_cases hf:L.filter (fun x=>!p x)=L
 ·refine⟨.own s g,fun st=>Classical.choose (key st),⟨rfl,rfl⟩,fun st h1 h2 h3=>?_⟩
  have h:=Classical.choose_spec (key st) h1 h2 h3
  rw[if_pos hf] at h;refine⟨h.1,h.2.1,_,h.2.2,fun lG h=>?_⟩
  rw[hf];exact Go.Ab.kD h (lC _)
 ·refine⟨.vw s g 0 (L.filter (fun x=>!p x)).length,fun st=>Classical.choose (key st),⟨rfl,rfl⟩,fun st h1 h2 h3=>?_⟩
  have h:=Classical.choose_spec (key st) h1 h2 h3
  rw[if_neg hf] at h;obtain⟨e1,e2,Z,hZ,hl,e3⟩:=h
  exact⟨e1,e2,_,e3,fun lG h=>QF h (oX _) hl (lC _) hZ (by decide)⟩
theorem aDn (J:Int) (a b:Nat):∃G:St→St,∀st:St,st.heap a b=some (.cells (lV J)) →
 pR Tryz.prog 126 [.v (.slice none 0 0),.rW 127 [.ptr a b 0]] st=some (.v (.slice none 0 0),G st)∧Gw st (G st):=by
 have key:∀st:St,∃st',st.heap a b=some (.cells (lV J))→pR Tryz.prog 126 [.v (.slice none 0 0),.rW 127 [.ptr a b 0]] st=some (.v (.slice none 0 0),st')∧Gw st st':=by
  intro st;by_cases hk:st.heap a b=some (.cells (lV J))
  case neg=>exact⟨st,fun h=>absurd h hk⟩
  have fI:Flat (.ip (lV J) 0):=.ip _ _ (dY J)
  have r9:∀(lG:St) (d:Option Nat),lG.heap a b=some (.cells (lV J))→aO (aB Tryz.prog) 171 [.v (.slice none 0 0),.rW 127 [.ptr a b 0]] lG d=some { dst:=d,val:=.v (.int .i64 (-1))}:=fun lG d hk=>by
   rw[jV,List.map_cons,List.map_cons,List.map_nil,Nk,oF,hk,sW lG (dY J) 0,Option.map_some,bM,bM,fY];have h:=aFN none (by decide) 127 [.ip (lV J) 0] (fun x=>decide (x.slot≤J)) (fun x hx st d=>by simp[ol] at hx)
   exact Vp h
  rw[Ce Tryz.prog Tryz.func126 rfl (by kernel_rfl)]
  simp only[ZG,seval,Bool.false_and,Prod.mk.injEq,Ei,bQ,aQ,hk,r9];exact⟨_,fun _=>⟨xG (P:=Tryz.prog) (fn:=Tryz.f126) (r:=.tmp 4) (x:=.v (.slice none 0 0)) (.inl rfl) rfl (by rw[rI];simp only[bY,E8,seval]),fun y h h1=>by simp only[E8,seval,aQ],fun y=>by simp only[E8,seval,aW];exact Nat.le_refl _⟩⟩
 exact⟨fun st=>Classical.choose (key st),fun st h=>Classical.choose_spec (key st) h⟩
theorem Qu {P:Program} {g:Nat} {args:List AV} {st:St} {β:Type} {k:AV × St→Option β} {R:β→Prop} (X:AV) (Pre:St→Prop) (Q:St→St→Prop) (h:∀st,Pre st→∃st',pR P g args st=some (X,st')∧Q st st') (hp:Pre st)
 (rest:∀st',Q st st'→∃r,k (X,st')=some r∧R r):∃r,cT (pR P g args st) k=some r∧R r:=by
 obtain⟨st',h1,h2⟩:=h st hp
 rw[h1];exact rest st' h2
theorem Mm:aC 0 4 (some 3)=[]∧aC 1 4 (some 13)=[]∧aC 2 13 (some 16)=[]∧aC 3 2 (some 23)=[]∧aC 4 2 (some 25)=[]∧aC 5 8 (some 26)=[(1,4)]∧aC 7 5 (some 37)=[]∧aC 8 2 (some 42)=[]∧aC 9 14 (some 44)=[]∧aC 10 6 (some 56)=[]∧aC 11 3 (some 62)=[]∧aC 12 12 (some 65)=[]∧aC 14 2 (some 80)=[]:=⟨rfl,rfl,rfl,rfl,rfl,rfl,rfl,rfl,rfl,rfl,rfl,rfl,rfl⟩
theorem HV:aC 6 6 (some 32)=[]∧aC 13 8 (some 73)=[]:=⟨rfl,rfl⟩
theorem AQ {st:St} {s:aM} {v:SV} (hs:SD s v) (hh:∀j,j<nE v→st.heap 14 j=(Dj v)[j]?) {f:jA} {bo:cN} {O N T O' N' T':AV} (hO:cJ st O=some O') (hN:cJ st N=some N') (hT:cJ st T=some T') :
 Tt st (aA { Ny s v 14 0 with aL:=f,eE:=bo,tables:=T,tree:=⟨N⟩,cC:={ (Ny s v 14 0).cC with bL:=O }})=some (aA { s with aL:=f,eE:=bo,tables:=T',tree:=⟨N'⟩,cC:={ s.cC with bL:=O' }}):=by
 have cB:∀x,v.B=some x→0<nB v:=fun x h=>by simp[nB,h,rl]
 have cL:∀x,v.L=some x→nB v<nL v:=fun x h=>by simp[nL,h,rl]
 have cQ:∀x,v.Q=some x→nL v<nQ v:=fun x h=>by simp[nQ,h,rl]
 have cE:∀x,v.E=some x→nQ v<nE v:=fun x h=>by simp[nE,h,rl]
 have l1:nB v≤nL v:=by unfold nL;omega
 have l2:nL v≤nQ v:=by unfold nQ;omega
 have l3:nQ v≤nE v:=by unfold nE;omega
 rw[gG];simp only[Ny,AK,Nat.zero_add];rw[lF (e:=23) (sz:=1) (c:=bI) (fun x h=>by have:=cB x h;rw[hh _ (by omega),aMX v x h]) (fun x _=>gZ x),cF,
  lF (e:=100) (sz:=34) (c:=cW) (fun x h=>by have:=cL x h;rw[hh _ (by omega),aMY v x h]) (fun x _=>mF x),cF,
  lF (e:=3) (sz:=1) (c:=aK) (fun x h=>by have:=cQ x h;rw[hh _ (by omega),aMZ v x h]) (fun x _=>fV x),cF,
  lF (e:=87) (sz:=67) (c:=dM) (fun x h=>by have:=cE x h;rw[hh _ (by omega),aM0 v x h]) (fun x h=>qY x fun y m=>(hs.eV y (by rw[h];exact m)).fl),cF,hO,cF,hN,cF,hT,cF,← hs.iP,← hs.dU,← hs.gN,← hs.early]
noncomputable def Oa (s:aM) (v:SV) (c1 c2:dQ):aM :=
 if jX s v (tL s c1) (rD s c2) then s else
 if rD s c2=s.aL.fin then { s with aL:=⟨tL s c1,rD s c2⟩,tables:=ov aI (v.T.map fun l=>qN l (tL s c1).aG)} else
 { s with aL:=⟨tL s c1,rD s c2⟩,tables:=ov aI (v.T.map fun l=>qN l (tL s c1).aG),
          tree:=⟨.sl (jQ v.ns (aN v.ns (rD s c2).root) v.ns.length).1.length (bU (jQ v.ns (aN v.ns (rD s c2).root) v.ns.length).1)⟩,
          eE:=if aN (jQ v.ns (aN v.ns (rD s c2).root) v.ns.length).1 s.eE<0 then dR else s.eE,
          cC:={ s.cC with bL:=ov aF (v.O.map fun l=>l.filter fun b=>decide ((vC s (rD s c2).aG).1<b.slot))} }
theorem c60 {s:aM} {v:SV} (hs:SD s v) (hu:gK v.ns) (hr:(nd v.ns 0).up<0) (hp:1≤s.cFg.jH∧s.cFg.jH≤64) (hx:Rg s.now) (hj:Rg s.aL.gI.aG) (Pf:Rg s.aL.fin.aG) (fQ:y7 v) (hB:v.B≠some []) (hL:v.L≠some []) (ht:0<v.ns.length) (c1 c2:dQ) (h1:Rg c1.aG) (h2:Rg c2.aG) :
 aB Tryz.prog 60 [.agg (aA s),.agg (bB c1),.agg (bB c2)]=some (.agg (aA (Oa s v c1 c2))):=by
 have QH:=aSr hs fQ hB hL ht
 have Ob:=k58 hs hu hp hx hj Pf c1 c2 h1 h2
 have gO:nO v+1≤nS v:=by
  have:=(List.getElem?_eq_some_iff.1 (aAh v)).1
  unfold nS;omega
 have gE:nE v≤nO v:=by unfold nO;omega
 rw[cG Tryz.func60 rfl aNi (by kernel_rfl) rfl]
 unfold Oa;unfold Nj at Ob
 by_cases hb:jX s v (tL s c1) (rD s c2)
 ·rw[if_pos hb] at Ob ⊢
  simp only[ZG,seval,Bool.false_and,Prod.mk.injEq,Mm,QH,Ob,Qr,NW,dN];refine eA rfl (by simp only[E8,seval]<;>rfl) (cs:=aA (Ny s v 14 0)) (by simp only[Z8,seval,NW]<;>rfl) ?_
  rw[bP,aG6 hs (d:=14) (c:=0) (fun j hj=>by
   rw[Nat.zero_add];simp only[E8,seval,NW,true_and,Nat.zero_le,Nat.sub_zero,HS])]
  rfl
 rw[if_neg hb] at Ob ⊢
 have oS:=(Yd hp hx (by unfold tL;split<;>assumption) (by unfold rD;split<;>assumption)).2 hb
 obtain⟨J,eJ⟩:∃J,tL s c1=J:=⟨_,rfl⟩
 obtain⟨F,eF⟩:∃F,rD s c2=F:=⟨_,rfl⟩
 have rF:Rg F.aG:=by rw[← eF];unfold rD;split<;>assumption
 rw[eJ,eF] at Ob oS ⊢
 obtain⟨⟨f1,f2,f3,f4⟩,_,_,_,_,hT0⟩:=oS
 cases QI:v.T with
 | none=>rw[QI] at hT0;exact absurd hT0 (by show ¬(0:Int)≤-1;omega)
 | some LT =>
 have hB':=fun y hy=>(hs.tB y hy).fl
 rw[QI,yY] at hB'
 have nT:=hs.nT
 rw[QI,yY] at nT;have lT:nO v+1<nS v:=(List.getElem?_eq_some_iff.1 (XE v LT QI)).1
 obtain⟨X,G,⟨hXc,hXs⟩,hG⟩:=aAn LT nT hB' J 14 (nO v+1) 8 0 (by decide) (by decide) (by rintro⟨h,_⟩;omega)
 have eX:(LT.filter fun x=>!(fun x:Table=>decide (x.ck.aG<J.aG)) x)=qN LT J.aG:=by
  unfold qN;congr 1
  funext x
  simp only[← decide_not,Int.not_lt]
 simp only[eX] at hG;have Q3:(Ny s v 14 0).tables=.own 14 (nO v+1):=by simp only[Ny,AK,QI,Yc,Nat.zero_add]
 refine iT ?_
 simp only[ZG,seval,Bool.false_and,Prod.mk.injEq,Mm,QH,Ob,Qr,NW,dN,Q3];refine Qu X (fun st=>st.heap 8 0=some (.cells (bB J))∧st.heap 14 (nO v+1)=some (.row 118 34 LT.length (aI LT))∧nO v+1<st.aU 14) (fun st st'=>Ar 14 (nO v+1) st st'∧∃R,st'.heap 14 (nO v+1)=some R∧∀lG:St,lG.heap 14 (nO v+1)=some R→cJ lG X=some (ov aI (some (qN LT J.aG)))) (fun st h=>⟨_,hG st h.1 h.2.1 h.2.2⟩) ⟨?p1, ?p2, ?p3⟩ ?rest
 case p1=>simp only[E8,seval,NW]<;>rfl
 case p2 =>
  simp only[E8,seval,NW,Nat.zero_le,Nat.sub_zero,HS];exact XE v LT QI
 case p3=>simp only[E8,seval,NW];exact lT
 case rest =>
  rintro st' ⟨hF,R,hR,hRX⟩
  have e3:st'.heap 3 0=some (.cells (aA s)):=(hF.1 3 0 (by simp only[E8,seval,NW]<;>omega) (by omega)).trans (by simp only[E8,seval,NW]<;>rfl)
  have e6:st'.heap 6 0=some (.cells (aA fW)):=(hF.1 6 0 (by simp only[E8,seval,NW]<;>omega) (by omega)).trans (by simp only[E8,seval,NW]<;>rfl)
  have e7:st'.heap 7 0=some (.cells (aA { Ny s v 14 0 with aL:=⟨J,F⟩,tables:=.own 14 (nO v+1)})):=(hF.1 7 0 (by simp only[E8,seval,NW]<;>omega) (by omega)).trans (by simp only[E8,seval,NW]<;>rfl)
  have e9:st'.heap 9 0=some (.cells (bB F)):=(hF.1 9 0 (by simp only[E8,seval,NW]<;>omega) (by omega)).trans (by simp only[E8,seval,NW]<;>rfl)
  have er:∀j,j<nS v→j≠nO v+1→st'.heap 14 j=(Dj v)[j]?:=fun j hj fQ=>(hF.1 14 j (by simp only[E8,seval,NW];exact hj) (by omega)).trans (by simp only[E8,seval,NW,Nat.zero_le,Nat.sub_zero,HS])
  have g6:0<st'.aU 6:=Nat.lt_of_lt_of_le (by simp only[E8,seval,NW]<;>omega) (hF.2 6)
  have g7:0<st'.aU 7:=Nat.lt_of_lt_of_le (by simp only[E8,seval,NW]<;>omega) (hF.2 7)
  have g14:nS v≤st'.aU 14:=Nat.le_trans (by simp only[E8,seval,NW]<;>exact Nat.le_refl _) (hF.2 14)
  have xO:∀lG:St,(∀j,j<nS v→j≠nO v+1→lG.heap 14 j=(Dj v)[j]?)→cJ lG (rv 14 (0+nE v) v.O)=some (ov aF v.O):=fun lG h=>by
   rw[Nat.zero_add];exact lF (e:=74) (sz:=238) (c:=aF) (fun x hx=>by have:nE v<nO v:=(by simp[nO,hx,rl]);rw[h _ (by omega) (by omega),aG5 v x hx]) (fun x _=>lC x)
  have xN:∀lG:St,(∀j,j<nS v→j≠nO v+1→lG.heap 14 j=(Dj v)[j]?)→cJ lG (.own 14 (0+nO v))=some (ov bU (some v.ns)):=fun lG h=>by
   rw[Nat.zero_add];exact lF (L:=some v.ns) (e:=76) (sz:=240) (c:=bU) (fun x hx=>by cases hx;rw[h _ (by omega) (by omega),aAh v]) (fun x _=>gX x)
  have hn:ov bU (some v.ns)=s.tree.nodes:=by rw[hs.tree];rfl
  by_cases Q9:F=s.aL.fin
  ·have hd:decide (F=s.aL.fin)=true:=decide_eq_true Q9
   simp only[ZG,seval,Bool.false_and,Prod.mk.injEq,Mm,HV,NW,bQ,aQ,aW,e3,e6,e7,e9,hXc,hXs,List.length_singleton,hd];refine⟨.agg (aA { s with aL:=⟨J,F⟩,tables:=ov aI (some (qN LT J.aG))}),eA rfl (by simp only[E8,seval,NW,bQ]<;>rfl) (cs:=aA { Ny s v 14 0 with aL:=⟨J,F⟩,tables:=X }) (by simp only[Z8,seval,NW,bQ,aQ,aW,e3,e6,e7,hXc]<;>rfl) ?ex, ?eq⟩
   case ex =>
    rw[bP];rw[show Tt _ (aA { Ny s v 14 0 with aL:=⟨J,F⟩,tables:=X })=some _ from AQ hs (f:=⟨J,F⟩) (bo:=s.eE) (O:=rv 14 (0+nE v) v.O) (N:=.own 14 (0+nO v)) (T:=X) (fun j hj=>by simp only[E8,seval,NW,aQ];exact er j (by omega) (by omega)) (xO _ (fun j hj fQ=>by simp only[E8,seval,NW,aQ];exact er j hj fQ)) (xN _ (fun j hj fQ=>by simp only[E8,seval,NW,aQ];exact er j hj fQ)) (hRX _ (by simp only[E8,seval,NW,aQ];exact hR))]
    rw[hn,← hs.bL];rfl
   case eq=>rw[if_pos Q9]
  have hd:decide (F=s.aL.fin)=false:=decide_eq_false Q9
  have fr:=eQ v.ns F.root
  have kP:=aPI v.ns hu hr hs.nn (aN v.ns F.root) ⟨f1,fr.2⟩
  unfold F0 at kP;obtain⟨pn,hpn⟩:∃pn,(jQ v.ns (aN v.ns F.root) v.ns.length).1=pn:=⟨_,rfl⟩
  have lpn:(pn.length:Int)<1000000:=by rw[← hpn];have:=Tb (ns:=v.ns) (aN v.ns F.root);have:=hs.nn;omega
  rw[hpn] at kP ⊢;have XG:∀(st:St) (d:Option Nat),aO (aB Tryz.prog) 95 [.v (.int .u64 F.aG),.v (.int .u64 s.cFg.jH)] st d=some { dst:=d,val:=.eG [.v (.int .u64 (vC s F.aG).1),.v (.int .i64 (vC s F.aG).2)]}:=fun st d=>k95 rF st d
  have DO:(Ny s v 14 0).eE=s.eE:=rfl
  obtain⟨bo,hb⟩:∃bo,(if aN pn s.eE<0 then dR else s.eE)=bo:=⟨_,rfl⟩
  rw[hb];obtain⟨z,hz⟩:∃z,(vC s F.aG).1=z:=⟨_,rfl⟩
  rw[hz] at XG ⊢
  cases hvO:v.O with
  | none =>
    have hO1:(Ny s v 14 0).cC.bL=.v (.slice none 0 0):=by simp only[Ny,AK,hvO,aDk]
    obtain⟨G2,Nr⟩:=aDn z 11 (st'.aU 11)
    by_cases g:aN pn s.eE<0<;>simp only[g,if_true,if_false] at hb<;>(try rw[hb] at g)
    all_goals
     simp only[ZG,seval,Bool.false_and,Prod.mk.injEq,Mm,HV,NW,bQ,aQ,aW,e3,e6,e7,e9,hXc,hXs,List.length_singleton,hd,hs.tree,k89 _ _ hs.nn,k89 _ _ lpn,kP,dN,DO,g,hb,XG,hO1];refine Qu (.v (.slice none 0 0)) (fun st=>st.heap 11 (st'.aU 11)=some (.cells (lV z))) (fun st lG=>Gw st lG) (fun st h=>⟨_,Nr st h⟩) ?p1 ?rest
     case p1=>simp only[E8,seval,NW,bQ,aQ,aW]<;>rfl
     case rest =>
      intro lG hF2;have a6:lG.heap 6 0=some (.cells (aA fW)):=(hF2.1 6 0 (by simp only[E8,seval,NW,bQ,aQ,aW];exact g6)).trans (by simp only[E8,seval,NW,bQ,aQ,aW,e6]<;>rfl)
      have a7:lG.heap 7 0=some (.cells (aA { Ny s v 14 0 with aL:=⟨J,F⟩,tables:=X,tree:=⟨.sl pn.length (bU pn)⟩,eE:=bo })):=(hF2.1 7 0 (by simp only[E8,seval,NW,bQ,aQ,aW];exact g7)).trans (by simp only[E8,seval,NW,bQ,aQ,aW,e7]<;>rfl)
      have ar:∀j,j<nE v→lG.heap 14 j=(Dj v)[j]?:=fun j hj=>(hF2.1 14 j (by simp only[E8,seval,NW,bQ,aQ,aW];omega)).trans (by simp only[E8,seval,NW,bQ,aQ,aW];exact er j (by omega) (by omega))
      have aR:lG.heap 14 (nO v+1)=some R:=(hF2.1 14 (nO v+1) (by simp only[E8,seval,NW,bQ,aQ,aW];omega)).trans (by simp only[E8,seval,NW,bQ,aQ,aW];exact hR)
      simp only[ZG,seval,Bool.false_and,Prod.mk.injEq,Mm,HV,NW,bQ,aQ,aW,a6,a7];refine⟨.agg (aA { s with aL:=⟨J,F⟩,tables:=ov aI (some (qN LT J.aG)),tree:=⟨.sl pn.length (bU pn)⟩,eE:=bo,cC:={ s.cC with bL:=ov aF none }}),eA rfl (by simp only[E8,seval,NW,bQ,aQ,aW]<;>rfl) (cs:=aA { Ny s v 14 0 with aL:=⟨J,F⟩,tables:=X,tree:=⟨.sl pn.length (bU pn)⟩,eE:=bo,cC:={ (Ny s v 14 0).cC with bL:=.v (.slice none 0 0)} }) (by simp only[Z8,seval,NW,bQ,aQ,aW,a6,a7]<;>rfl) ?ex, ?eq⟩
      case ex =>
       rw[bP];rw[show Tt _ (aA { Ny s v 14 0 with aL:=⟨J,F⟩,tables:=X,tree:=⟨.sl pn.length (bU pn)⟩,eE:=bo,cC:={ (Ny s v 14 0).cC with bL:=.v (.slice none 0 0)} })=some _ from AQ hs (f:=⟨J,F⟩) (bo:=bo) (O:=.v (.slice none 0 0)) (N:=.sl pn.length (bU pn)) (T:=X) (fun j hj=>by simp only[E8,seval,NW,aQ];exact ar j hj) (cS (.v _)) (cS (.sl _ _ (gX pn))) (hRX _ (by simp only[E8,seval,NW,aQ];exact aR))]
       rfl
      case eq=>rw[if_neg Q9]<;>rfl
  | some LO =>
    have hO1:(Ny s v 14 0).cC.bL=.own 14 (nE v):=by simp only[Ny,AK,hvO,Yc,Nat.zero_add]
    have nOb:=hs.nO
    rw[hvO,yY] at nOb;have lO:nE v<nO v:=by simp[nO,hvO,rl]
    obtain⟨Y,G2,⟨hYc,hYs⟩,Nr⟩:=aHd LO nOb z 14 (nE v) 11 (st'.aU 11) (by decide) (by decide) (by rintro⟨h,_⟩;omega)
    have eY:(LO.filter fun x=>!(fun x:Block=>decide (x.slot≤z)) x)=LO.filter fun b=>decide (z<b.slot):=by
     congr 1
     funext x
     simp only[← decide_not,Int.not_le]
    simp only[eY] at Nr;by_cases g:aN pn s.eE<0<;>simp only[g,if_true,if_false] at hb<;>(try rw[hb] at g)
    all_goals
     simp only[ZG,seval,Bool.false_and,Prod.mk.injEq,Mm,HV,NW,bQ,aQ,aW,e3,e6,e7,e9,hXc,hXs,List.length_singleton,hd,hs.tree,k89 _ _ hs.nn,k89 _ _ lpn,kP,dN,DO,g,hb,XG,hO1];refine Qu Y (fun st=>st.heap 11 (st'.aU 11)=some (.cells (lV z))∧st.heap 14 (nE v)=some (.row 74 238 LO.length (aF LO))∧nE v<st.aU 14) (fun st lG=>Ar 14 (nE v) st lG∧∃R,lG.heap 14 (nE v)=some R∧∀st3:St,st3.heap 14 (nE v)=some R→cJ st3 Y=some (ov aF (some (LO.filter fun b=>decide (z<b.slot))))) (fun st h=>⟨_,Nr st h.1 h.2.1 h.2.2⟩) ⟨?p1, ?p2, ?p3⟩ ?rest
     case p1=>simp only[E8,seval,NW,bQ,aQ,aW]<;>rfl
     case p2 =>
      simp only[E8,seval,NW,bQ,aQ,aW];rw[er _ (by omega) (by omega)]
      exact aG5 v LO hvO
     case p3=>simp only[E8,seval,NW,bQ,aQ,aW];omega
     case rest =>
      rintro lG ⟨hF2,R2,hR2,hRY⟩
      have a6:lG.heap 6 0=some (.cells (aA fW)):=(hF2.1 6 0 (by simp only[E8,seval,NW,bQ,aQ,aW];exact g6) (by omega)).trans (by simp only[E8,seval,NW,bQ,aQ,aW,e6]<;>rfl)
      have a7:lG.heap 7 0=some (.cells (aA { Ny s v 14 0 with aL:=⟨J,F⟩,tables:=X,tree:=⟨.sl pn.length (bU pn)⟩,eE:=bo })):=(hF2.1 7 0 (by simp only[E8,seval,NW,bQ,aQ,aW];exact g7) (by omega)).trans (by simp only[E8,seval,NW,bQ,aQ,aW,e7]<;>rfl)
      have ar:∀j,j<nE v→lG.heap 14 j=(Dj v)[j]?:=fun j hj=>(hF2.1 14 j (by simp only[E8,seval,NW,bQ,aQ,aW];omega) (by omega)).trans (by simp only[E8,seval,NW,bQ,aQ,aW];exact er j (by omega) (by omega))
      have aR:lG.heap 14 (nO v+1)=some R:=(hF2.1 14 (nO v+1) (by simp only[E8,seval,NW,bQ,aQ,aW];omega) (by omega)).trans (by simp only[E8,seval,NW,bQ,aQ,aW];exact hR)
      simp only[ZG,seval,Bool.false_and,Prod.mk.injEq,Mm,HV,NW,bQ,aQ,aW,a6,a7,hYc,hYs,List.length_singleton];refine⟨.agg (aA { s with aL:=⟨J,F⟩,tables:=ov aI (some (qN LT J.aG)),tree:=⟨.sl pn.length (bU pn)⟩,eE:=bo,cC:={ s.cC with bL:=ov aF (some (LO.filter fun b=>decide (z<b.slot)))} }),eA rfl (by simp only[E8,seval,NW,bQ,aQ,aW]<;>rfl) (cs:=aA { Ny s v 14 0 with aL:=⟨J,F⟩,tables:=X,tree:=⟨.sl pn.length (bU pn)⟩,eE:=bo,cC:={ (Ny s v 14 0).cC with bL:=Y }}) (by simp only[Z8,seval,NW,bQ,aQ,aW,a6,a7,hYc]<;>rfl) ?ex, ?eq⟩
      case ex =>
       rw[bP];rw[show Tt _ (aA { Ny s v 14 0 with aL:=⟨J,F⟩,tables:=X,tree:=⟨.sl pn.length (bU pn)⟩,eE:=bo,cC:={ (Ny s v 14 0).cC with bL:=Y }})=some _ from AQ hs (f:=⟨J,F⟩) (bo:=bo) (O:=Y) (N:=.sl pn.length (bU pn)) (T:=X) (fun j hj=>by simp only[E8,seval,NW,aQ];exact ar j hj) (hRY _ (by simp only[E8,seval,NW,aQ];exact hR2)) (cS (.sl _ _ (gX pn))) (hRX _ (by simp only[E8,seval,NW,aQ];exact aR))]
       rfl
      case eq=>rw[if_neg Q9]<;>rfl
theorem AR:Flat (.sl 0 []):=.sl 0 [] fun x h=>by cases h
theorem aNn {s:aM} {v:SV} (hs:SD s v) (hO:v.O=some []) (fQ:y7 { v with O:=none }) (hB:v.B≠some []) (hL:v.L≠some []) (ht:0<v.ns.length) :
 aB Tryz.prog 109 [.agg (aA s)]=some (.agg (aA (AK s (uo 23 1 bI v.B) (uo 100 34 cW v.L) (uo 3 1 aK v.Q) (uo 87 67 dM v.E) (.sl 0 []) (.uniq 76 240 v.ns.length (bU v.ns)) (uo 118 34 aI v.T)))):=by
 have hv:s.gH=⟨ov cW v.L,ov aK v.Q⟩:=by
  have h1:=hs.dU
  have h2:=hs.gN
  cases hc:s.gH with
  | mk a b=>rw[hc] at h1 h2;simp only at h1 h2;rw[h1,h2]
 have ho:s.cC.bL=.sl 0 []:=by rw[hs.bL,hO];rfl
 rw[cL Tryz.func109 rfl aFK rfl];simp only[Z8,seval,hs.iP,hv,hs.early,ho,hs.tree,hs.tables,XD,NW,aG4 v.B hB hs.nB,aMW v.L v.Q hL fQ.q hs.nL hs.nQ,aMR v.E fQ.e hs.nE fQ.ea hs.eV,aML,aKq v.ns ht hs.nn,aMU v.T fQ.t hs.nT fQ.tb hs.tB];refine Pw rfl (.inl rfl) rfl (x:=.agg (aA (AK s (rv 6 0 v.B) (rv 11 0 v.L) (rv 11 (rl 100 34 cW v.L).length v.Q) (rv 16 0 v.E) (.sl 0 []) (.own 27 0) (rv 31 0 v.T)))) ?x1 ?x2 (Tr (AL s ?b1 ?l1 ?q1 ?e1 (if_pos AR) ?n1 ?t1))
 case x1=>simp only[bY,Z8,seval,NW,AK]
 case x2 =>
  show ((aA _).flatMap gQ).Nodup
  rw[Mk];simp only[Ts,show ∀a b,gQ (.own a b)=[(a,b)] from fun _ _=>rfl,show ∀a b,gQ (.sl a b)=[] from fun _ _=>rfl]
  cases v.B<;>cases hvl:v.L<;>cases v.Q<;>cases v.E<;>cases v.T<;>simp[rl]
 case b1=>exact kX (fun l hl=>by simp only[E8,seval,NW,hl,rR,List.length_cons,List.length_nil,Nat.lt_add_left_iff_pos,Nat.zero_lt_succ,if_true]<;>rfl) fun l _=>gZ l
 case l1 =>
  refine kX (fun l hl=>?_) fun l _=>mF l
  simp only[E8,seval,NW,hl,rR];simp
 case q1 =>
  refine kX (fun l hl=>?_) fun l _=>fV l
  simp only[E8,seval,NW,hl,rR];simp
 case e1=>exact kX (fun l hl=>by simp only[E8,seval,NW,hl,rR,List.length_cons,List.length_nil,Nat.lt_add_left_iff_pos,Nat.zero_lt_succ,if_true]<;>rfl) fun l hl=>qY l fun y m=>(hs.eV y (by rw[hl];exact m)).fl
 case n1=>exact kX (L:=some v.ns) (fun l hl=>by cases hl;simp only[E8,seval,NW,rR,List.length_cons,List.length_nil,Nat.lt_add_left_iff_pos,Nat.zero_lt_succ,if_true]<;>rfl) fun l _=>gX l
 case t1=>exact kX (fun l hl=>by simp only[E8,seval,NW,hl,rR,List.length_cons,List.length_nil,Nat.lt_add_left_iff_pos,Nat.zero_lt_succ,if_true]<;>rfl) fun l hl=>iL l fun y m=>(hs.tB y (by rw[hl];exact m)).fl
def cpZ (s:aM) (w:SV) (d c:Nat):aM:=AK s (rv d c w.B) (rv d (c+nB w) w.L) (rv d (c+nL w) w.Q) (rv d (c+nQ w) w.E) (.sl 0 []) (.own d (c+nO w)) (rv d (c+nO w+1) w.T)
theorem aAp (d c:Nat):pM (xZ d) c [.sl 0 []]=([.sl 0 []],[]):=rfl
theorem QJ (s:aM) (w:SV) (hw:w.O=none) (d c:Nat):pM (xZ d) c (aA (AK s (uo 23 1 bI w.B) (uo 100 34 cW w.L) (uo 3 1 aK w.Q) (uo 87 67 dM w.E) (.sl 0 []) (.uniq 76 240 w.ns.length (bU w.ns)) (uo 118 34 aI w.T)))=(aA (cpZ s w d c),Dj w):=by
 have e0:(rl 74 238 aF w.O)=[]:=by rw[hw];rfl
 simp only[AK,cpZ,aA,bW,eZ,jM,mL,AI,Yb,QA,aAp,oP d _ (rQ _),oP d _ (dY _),oP d _ (iF _),oP d _ (dO _),oP d _ (jZ _),List.nil_append,List.length_nil,Nat.add_zero,List.append_assoc,List.length_append,List.length_cons,Dj,nO,nE,nQ,nL,nB,e0,Nat.add_assoc,List.append_nil]
theorem aNo {s:aM} {v w:SV} (hs:SD s v) (hO:v.O=some []) (hw:{ v with O:=none }=w) (fQ:y7 w) (hB:v.B≠some []) (hL:v.L≠some []) (ht:0<v.ns.length) (st:St) (d:Nat) :
 aO (aB Tryz.prog) 109 [.agg (aA s)] st (some d)=some { dst:=some d,val:=.agg (aA (cpZ s w d (st.aU d))),new:=some (d,Dj w)}:=by
 subst hw;have h0:Dj { v with O:=none }≠[]:=by simp[Dj]
 have e:=QJ s { v with O:=none } rfl
 have h:=aNn hs hO fQ hB hL ht
 rw[JY (cV hs.flat) h (by rw[e];exact .inr h0),e]
 simp only[PX,if_neg h0]
theorem aSM {s:aM} {v:SV} (hs:SD s v) (hO:v.O=some []) (hu:gK v.ns) (hp:1≤s.cFg.jH∧s.cFg.jH≤64) (hx:Rg s.now) (hj:Rg s.aL.gI.aG) (Pf:Rg s.aL.fin.aG) (fQ:y7 { v with O:=none }) (hB:v.B≠some []) (hL:v.L≠some []) (ht:0<v.ns.length) (c1 c2:dQ) (h1:Rg c1.aG) (h2:Rg c2.aG) (Q9:rD s c2=s.aL.fin) :
 aB Tryz.prog 60 [.agg (aA s),.agg (bB c1),.agg (bB c2)]=some (.agg (aA (Oa s v c1 c2))):=by
 obtain⟨w,hw⟩:∃w,({ v with O:=none }:SV)=w:=⟨_,rfl⟩
 have wT:w.T=v.T:=by rw[← hw]
 have wn:w.ns=v.ns:=by rw[← hw]
 rw[hw] at fQ;have QH:=aNo hs hO hw fQ hB hL ht
 have Ob:=k58 hs hu hp hx hj Pf c1 c2 h1 h2
 have ho:s.cC.bL=.sl 0 []:=by rw[hs.bL,hO];rfl
 obtain⟨s0,hs0⟩:∃s0,({ s with cC:={ s.cC with bL:=.v (.slice none 0 0)} }:aM)=s0:=⟨_,rfl⟩
 have d0:SD s0 w:=by
  rw[← hs0,← hw];exact⟨hs.iP,hs.dU,hs.gN,hs.early,rfl,hs.tree,hs.tables,hs.eV,hs.tB,hs.nB,hs.nL,hs.nQ,hs.nE,by show ((0:Nat):Int)<_;omega,hs.nT,hs.nn⟩
 have gO:nO w+1≤nS w:=by
  have:=(List.getElem?_eq_some_iff.1 (aAh w)).1
  unfold nS;omega
 have gE:nE w≤nO w:=by unfold nO;omega
 have ez:∀(f:jA) (T N:AV),aA { Ny s0 w 14 0 with aL:=f,eE:=s.eE,tables:=T,tree:=⟨N⟩,cC:={ (Ny s0 w 14 0).cC with bL:=.sl 0 []} }=aA { cpZ s w 14 0 with aL:=f,tables:=T,tree:=⟨N⟩}:=fun f T N=>by rw[← hs0];rfl
 have ez2:∀(f:jA) (T:AV),aA { s0 with aL:=f,eE:=s.eE,tables:=T,tree:=⟨ov bU (some v.ns)⟩,cC:={ s0.cC with bL:=.sl 0 []} }=aA { s with aL:=f,tables:=T }:=fun f T=>by
  rw[← hs0,← ho,show (⟨ov bU (some v.ns)⟩:Du)=s.tree from by rw[hs.tree];rfl]
 rw[cG Tryz.func60 rfl aNi (by kernel_rfl) rfl]
 unfold Oa;unfold Nj at Ob
 have xN:∀lG:St,(∀j,j<nS w→j≠nO w+1→lG.heap 14 j=(Dj w)[j]?)→cJ lG (.own 14 (0+nO w))=some (ov bU (some v.ns)):=fun lG h=>by
  rw[Nat.zero_add];exact lF (L:=some v.ns) (e:=76) (sz:=240) (c:=bU) (fun x hx=>by cases hx;rw[h _ (by omega) (by omega),aAh w,wn]) (fun x _=>gX x)
 have fT:=fun y hy=>(hs.tB y hy).fl
 by_cases hb:jX s v (tL s c1) (rD s c2)
 ·rw[if_pos hb] at Ob ⊢
  simp only[ZG,seval,Bool.false_and,Prod.mk.injEq,Mm,QH,Ob,Qr,NW,dN];refine eA rfl (by simp only[E8,seval]<;>rfl) (cs:=aA (cpZ s w 14 0)) (by simp only[Z8,seval,NW]<;>rfl) ?_
  rw[bP];have key:∀lG:St,(∀j,j<nS w→lG.heap 14 j=(Dj w)[j]?)→Tt lG (aA (cpZ s w 14 0))=some (aA s):=fun lG h=>by
   have e:=AQ d0 (f:=s.aL) (bo:=s.eE) (O:=.sl 0 []) (N:=.own 14 (0+nO w)) (T:=rv 14 (0+nO w+1) w.T) (fun j hj=>h j (by omega)) (cS AR) (xN lG fun j hj _=>h j hj) (lF (e:=118) (sz:=34) (c:=aI) (fun x hx=>by have:=(List.getElem?_eq_some_iff.1 (XE w x hx)).1;rw[Nat.zero_add,h _ this,XE w x hx]) (fun x hx=>iL x fun y m=>fT y (by rw[← wT,hx];exact m)))
   rw[ez,ez2,show ov aI w.T=s.tables from by rw[wT,hs.tables]] at e
   exact e
  rw[key _ fun j hj=>by simp only[E8,seval,NW,true_and,Nat.zero_le,Nat.sub_zero,HS]]
  rfl
 rw[if_neg hb] at Ob ⊢
 rw[if_pos Q9];have oS:=(Yd hp hx (by unfold tL;split<;>assumption) (by unfold rD;split<;>assumption)).2 hb
 obtain⟨J,eJ⟩:∃J,tL s c1=J:=⟨_,rfl⟩
 rw[Q9] at Ob oS
 rw[eJ,Q9];rw[eJ] at Ob oS
 obtain⟨⟨f1,f2,f3,f4⟩,_,_,_,_,hT0⟩:=oS
 cases QI:v.T with
 | none=>rw[QI] at hT0;exact absurd hT0 (by show ¬(0:Int)≤-1;omega)
 | some LT =>
 have hB':=fun y hy=>(hs.tB y hy).fl
 rw[QI,yY] at hB'
 have nT:=hs.nT
 rw[QI,yY] at nT;have lT:nO w+1<nS w:=(List.getElem?_eq_some_iff.1 (XE w LT (wT.trans QI))).1
 obtain⟨X,G,⟨hXc,hXs⟩,hG⟩:=aAn LT nT hB' J 14 (nO w+1) 8 0 (by decide) (by decide) (by rintro⟨h,_⟩;omega)
 have eX:(LT.filter fun x=>!(fun x:Table=>decide (x.ck.aG<J.aG)) x)=qN LT J.aG:=by
  unfold qN;congr 1
  funext x
  simp only[← decide_not,Int.not_lt]
 simp only[eX] at hG;have Q3:(cpZ s w 14 0).tables=.own 14 (nO w+1):=by simp only[cpZ,AK,wT.trans QI,Yc,Nat.zero_add]
 obtain⟨F,hF⟩:∃F,s.aL.fin=F:=⟨_,rfl⟩
 rw[hF] at Ob ⊢
 refine iT ?_
 simp only[ZG,seval,Bool.false_and,Prod.mk.injEq,Mm,QH,Ob,Qr,NW,dN,Q3];refine Qu X (fun st=>st.heap 8 0=some (.cells (bB J))∧st.heap 14 (nO w+1)=some (.row 118 34 LT.length (aI LT))∧nO w+1<st.aU 14) (fun st st'=>Ar 14 (nO w+1) st st'∧∃R,st'.heap 14 (nO w+1)=some R∧∀lG:St,lG.heap 14 (nO w+1)=some R→cJ lG X=some (ov aI (some (qN LT J.aG)))) (fun st h=>⟨_,hG st h.1 h.2.1 h.2.2⟩) ⟨?p1, ?p2, ?p3⟩ ?rest
 case p1=>simp only[E8,seval,NW]<;>rfl
 case p2 =>
  simp only[E8,seval,NW,Nat.zero_le,Nat.sub_zero,HS];exact XE w LT (wT.trans QI)
 case p3=>simp only[E8,seval,NW];exact lT
 case rest =>
  rintro st' ⟨hFr,R,hR,hRX⟩
  have e3:st'.heap 3 0=some (.cells (aA s)):=(hFr.1 3 0 (by simp only[E8,seval,NW]<;>omega) (by omega)).trans (by simp only[E8,seval,NW]<;>rfl)
  have e6:st'.heap 6 0=some (.cells (aA fW)):=(hFr.1 6 0 (by simp only[E8,seval,NW]<;>omega) (by omega)).trans (by simp only[E8,seval,NW]<;>rfl)
  have e7:st'.heap 7 0=some (.cells (aA { cpZ s w 14 0 with aL:=⟨J,F⟩,tables:=.own 14 (nO w+1)})):=(hFr.1 7 0 (by simp only[E8,seval,NW]<;>omega) (by omega)).trans (by simp only[E8,seval,NW]<;>rfl)
  have e9:st'.heap 9 0=some (.cells (bB F)):=(hFr.1 9 0 (by simp only[E8,seval,NW]<;>omega) (by omega)).trans (by simp only[E8,seval,NW]<;>rfl)
  have er:∀j,j<nS w→j≠nO w+1→st'.heap 14 j=(Dj w)[j]?:=fun j hj fQ=>(hFr.1 14 j (by simp only[E8,seval,NW];exact hj) (by omega)).trans (by simp only[E8,seval,NW,Nat.zero_le,Nat.sub_zero,HS])
  have hd:decide (F=F)=true:=by simp
  simp only[ZG,seval,Bool.false_and,Prod.mk.injEq,Mm,HV,NW,bQ,aQ,aW,e3,e6,e7,e9,hXc,hXs,List.length_singleton,hd,hF];refine⟨.agg (aA { s with aL:=⟨J,F⟩,tables:=ov aI (some (qN LT J.aG))}),eA rfl (by simp only[E8,seval,NW,bQ]<;>rfl) (cs:=aA { cpZ s w 14 0 with aL:=⟨J,F⟩,tables:=X }) (by simp only[Z8,seval,NW,bQ,aQ,aW,e3,e6,e7,hXc]<;>rfl) ?ex,rfl⟩
  rw[bP];have key:∀lG:St,(∀j,j<nS w→j≠nO w+1→lG.heap 14 j=(Dj w)[j]?)→lG.heap 14 (nO w+1)=some R→Tt lG (aA { cpZ s w 14 0 with aL:=⟨J,F⟩,tables:=X })=some (aA { s with aL:=⟨J,F⟩,tables:=ov aI (some (qN LT J.aG))}):=fun lG h hr=>by
   have e:=AQ d0 (f:=⟨J,F⟩) (bo:=s.eE) (O:=.sl 0 []) (N:=.own 14 (0+nO w)) (T:=X) (fun j hj=>h j (by omega) (by omega)) (cS AR) (xN lG h) (hRX lG hr)
   rw[ez,ez2] at e;exact e
  rw[key _ (fun j hj fQ=>by simp only[E8,seval,NW,aQ];exact er j hj fQ) (by simp only[E8,seval,NW,aQ];exact hR)]
  rfl
theorem aNr (i:Int) (i0:0≤i) (i1:i<1000000):aB Tryz.prog 145 [.v (.slice none 0 0),.v (.int .i64 i)]=some (.v (.int .i64 (Lr [] i))):=by
 have e1:∃y,aB Tryz.prog 145 [.sl 0 (aK []),.v (.int .i64 i)]=some y∧aB Tryz.prog 145 [.v (.slice none 0 0),.v (.int .i64 i)]=some y:=by
  refine⟨.v (.int .i64 (IntKind.i64.wrap ((BitVec.ofInt IntKind.i64.bits i &&& BitVec.ofInt IntKind.i64.bits 65535).toNat:Int))), ?_, ?_⟩
  ·rw[cL Tryz.func145 rfl S6 rfl];refine iT ?_
   simp only[Z8,seval,beI];exact⟨_,bZ rfl (by simp only[E8,seval]<;>rfl) (by first|exact .v _|simp only[eC]),rfl⟩
  ·rw[cL Tryz.func145 rfl S6 rfl];refine iT ?_
   simp only[Z8,seval,beI];exact⟨_,bZ rfl (by simp only[E8,seval]<;>rfl) (by first|exact .v _|simp only[eC]),rfl⟩
 obtain⟨y,h1,h2⟩:=e1
 have h3:=(Ie [] (by decide) i i0 i1).1
 have h4:aB Tryz.prog 145 [.sl 0 (aK []),.v (.int .i64 i)]=some (.v (.int .i64 (Lr [] i))):=h3
 rw[h1] at h4;rw[h2,h4]
theorem Jc (i:Int) (i0:0≤i) (i1:i<1000000) (st:St) (d:Option Nat):aO (aB Tryz.prog) 145 [.v (.slice none 0 0),.v (.int .i64 i)] st d=some { dst:=d,val:=.v (.int .i64 (Lr [] i))}:=bG (bF (.v _) (.v _)) (aNr i i0 i1) (.v _)
theorem aNs:∃x,aB Tryz.prog 101 [.v (.slice none 0 0)]=some x∧∃(c:Config) (b:List Int),x=.agg (bW c)∧Ix c b:=by
 have hc:=fun (i:Int) (h:0≤i∧i<1000000)=>(Ie [] (by decide) i h.1 h.2).2.1
 have k0:=Jc 0 (by omega) (by omega)
 obtain⟨a0,b0⟩:=cP (n:=8) (hc 0 (by omega)) (by omega)
 obtain⟨x0,h0⟩:∃x,(Lr [] 0).tmod 8=x:=⟨_,rfl⟩
 rw[h0] at a0 b0;have k1:=Jc 1 (by omega) (by omega)
 obtain⟨a1,b1⟩:=cP (n:=4) (hc 1 (by omega)) (by omega)
 obtain⟨x1,h1⟩:∃x,(Lr [] 1).tmod 4=x:=⟨_,rfl⟩
 rw[h1] at a1 b1;have k2:=Jc 2 (by omega) (by omega)
 obtain⟨a2,b2⟩:=cP (n:=4) (hc 2 (by omega)) (by omega)
 obtain⟨x2,h2⟩:∃x,(Lr [] 2).tmod 4=x:=⟨_,rfl⟩
 rw[h2] at a2 b2;have k3:=Jc 3 (by omega) (by omega)
 obtain⟨a3,b3⟩:=cP (n:=4) (hc 3 (by omega)) (by omega)
 obtain⟨x3,h3⟩:∃x,(Lr [] 3).tmod 4=x:=⟨_,rfl⟩
 rw[h3] at a3 b3;have k4:=Jc 4 (by omega) (by omega)
 obtain⟨a4,b4⟩:=cP (n:=4) (hc 4 (by omega)) (by omega)
 obtain⟨x4,h4⟩:∃x,(Lr [] 4).tmod 4=x:=⟨_,rfl⟩
 rw[h4] at a4 b4;have k5:=Jc 5 (by omega) (by omega)
 obtain⟨a5,b5⟩:=cP (n:=5) (hc 5 (by omega)) (by omega)
 obtain⟨x5,h5⟩:∃x,(Lr [] 5).tmod 5=x:=⟨_,rfl⟩
 rw[h5] at a5 b5;have k6:=Jc 6 (by omega) (by omega)
 obtain⟨a6,b6⟩:=cP (n:=4) (hc 6 (by omega)) (by omega)
 obtain⟨x6,h6⟩:∃x,(Lr [] 6).tmod 4=x:=⟨_,rfl⟩
 rw[h6] at a6 b6;have k7:=Jc 7 (by omega) (by omega)
 obtain⟨a7,b7⟩:=cP (n:=3) (hc 7 (by omega)) (by omega)
 obtain⟨x7,h7⟩:∃x,(Lr [] 7).tmod 3=x:=⟨_,rfl⟩
 rw[h7] at a7 b7;have k8:=Jc 8 (by omega) (by omega)
 obtain⟨a8,b8⟩:=cP (n:=2) (hc 8 (by omega)) (by omega)
 obtain⟨x8,h8⟩:∃x,(Lr [] 8).tmod 2=x:=⟨_,rfl⟩
 rw[h8] at a8 b8;have k9:=Jc 9 (by omega) (by omega)
 obtain⟨a9,b9⟩:=cP (n:=5) (hc 9 (by omega)) (by omega)
 obtain⟨x9,h9⟩:∃x,(Lr [] 9).tmod 5=x:=⟨_,rfl⟩
 rw[h9] at a9 b9;have w0:IntKind.i64.wrap (6+x0)=6+x0:=nU _ (by omega) (by omega)
 have w3:IntKind.i64.wrap (1+x3)=1+x3:=nU _ (by omega) (by omega)
 have w5:IntKind.i64.wrap (1+x5)=1+x5:=nU _ (by omega) (by omega)
 have w5':IntKind.u64.wrap (1+x5)=1+x5:=wrap_u64 _ (by omega) (by omega)
 have w6:IntKind.i64.wrap (1+x6)=1+x6:=nU _ (by omega) (by omega)
 have w6':IntKind.u64.wrap (1+x6)=1+x6:=wrap_u64 _ (by omega) (by omega)
 have w9:IntKind.i64.wrap (2+x9)=2+x9:=nU _ (by omega) (by omega)
 have g7:=nK (l:=[0,40,100]) a7 (by show x7<((3:Nat):Int);omega)
 obtain⟨bp,hbp⟩:∃y,it [0,40,100] x7=y:=⟨_,rfl⟩
 have hbp1:0≤bp∧bp≤100:=by
  rcases (by omega:x7=0∨x7=1∨x7=2) with e|e|e<;>(rw[e] at hbp;rw[← hbp];decide)
 have w7:IntKind.u64.wrap bp=bp:=wrap_u64 _ (by omega) (by omega)
 rw[cL Tryz.func101 rfl aFB rfl];simp only[Z8,seval,mG,mH,k0,k1,k2,k3,k4,k5,k6,k7,k8,h0,h1,h2,h3,h4,h5,h6,h7,h8,w0,w3,w5,w5',w6,w6',a7,b7,g7,hbp,w7,pI,Nat.reduceLT,Ss];have n9:(2+x9).toNat≤6:=by omega
 refine cI (fun m st=>∃(j:Nat) (lJ:lE) (sp bq:Int) (tt:qM) (X:AV) (b:List Int),(st.env 0=.v (.slice none 0 0)∧st.env 2=.ptr 2 0 0∧st.heap 2 0=some (.cells (bW mS))∧st.env 3=.ptr 3 0 0∧st.heap 3 0=some (.cells (bW ⟨lJ,sp,bq,tt,mkRoot 1,X⟩))∧st.env 4=.v (.int .i64 j))∧(lJ=⟨6+x0,x1,x2,1+x3,x4,1+x5⟩∧sp=1+x6∧bq=bp)∧((X=.v (.slice none 0 0)∧b=[])∨∃g,X=.own 64 g∧g<st.aU 64∧st.heap 64 g=some (.row 23 1 b.length (bI b)))∧(∀y∈b,0≤y∧y≤1000)∧b.length=j∧j≤(2+x9).toNat∧m=(2+x9).toNat-j)
  (fun e st=>e=.exit 0∧∃(lJ:lE) (sp bq:Int) (tt:qM) (g:Nat) (b:List Int),(st.env 2=.ptr 2 0 0∧st.heap 2 0=some (.cells (bW mS))∧st.env 3=.ptr 3 0 0∧st.heap 3 0=some (.cells (bW ⟨lJ,sp,bq,tt,mkRoot 1,.own 64 g⟩))∧st.heap 64 g=some (.row 23 1 b.length (bI b)))∧(lJ=⟨6+x0,x1,x2,1+x3,x4,1+x5⟩∧sp=1+x6∧bq=bp)∧(∀y∈b,0≤y∧y≤1000)∧1≤b.length∧b.length≤6) (2+x9).toNat ?step ?start ?rest
 case step =>
  rintro m st ⟨j,lJ,sp,bq,tt,X,b,hI,hC,hX,hb,hj,hjn,hm⟩
  by_cases bA:(j:Int)<2+x9
  ·have q0:(0:Int)≤j:=by omega
   have hw:IntKind.i64.wrap ((j:Int)+1)=((j+1:Nat):Int):=by rw[nU _ (by omega) (by omega)];omega
   obtain⟨jj,hjj⟩:∃jj:Int,jj=10+(j:Int):=⟨_,rfl⟩
   have p9:IntKind.i64.wrap (10+(j:Int))=jj:=by rw[nU _ (by omega) (by omega),hjj]
   have kj:=Jc jj (by omega) (by omega)
   obtain⟨aj,bj⟩:=cP (n:=40) (Ie [] (by decide) jj (by omega) (by omega)).2.1 (by omega)
   obtain⟨y,hy⟩:∃y,(Lr [] jj).tmod 40=y:=⟨_,rfl⟩
   rw[hy] at aj bj;have wy:IntKind.u64.wrap y=y:=wrap_u64 _ (by omega) (by omega)
   have nL:(b.length:Int)<1000000:=by omega
   have Ws:∀z∈b++[y],0≤z∧z≤1000:=fun z hz=>(List.mem_append.1 hz).elim (hb z) fun e=>by rw[List.mem_singleton] at e;rw[e];omega
   have yS:(b++[y]).length=j+1:=by rw[List.length_append,List.length_cons,List.length_nil];omega
   rcases hX with ⟨rfl,rfl⟩|⟨g,rfl,hg,hh⟩
   ·apply oN ((2+x9).toNat-(j+1))
    ·simp only[Z8,seval,hI,k9,h9,w9,bA,p9,kj,hy,wy,hw];rfl
    ·exact⟨j+1,_,_,_,_,_,[]++[y],⟨by simp only[E8,seval,hI],by simp only[E8,seval,hI],by simp only[E8,seval,hI],by simp only[E8,seval,hI],by simp only[E8,seval,hI]<;>rfl,by simp only[E8,seval]⟩,hC,.inr ⟨_,rfl,by simp only[E8,seval]<;>omega,by simp only[E8,seval]<;>rfl⟩,Ws,yS,by omega,rfl⟩
   ·have vA:(g=st.aU 64)=False:=eq_false (by omega)
    apply oN ((2+x9).toNat-(j+1))
    ·simp only[Z8,seval,hI,hh,vA,k9,h9,w9,bA,p9,kj,hy,wy,hw,wQ _ _ _ _ nL];rfl
    ·exact⟨j+1,_,_,_,_,_,b++[y],⟨by simp only[E8,seval,hI],by simp only[E8,seval,hI],by simp only[E8,seval,hI],by simp only[E8,seval,hI],by simp only[E8,seval,hI]<;>rfl,by simp only[E8,seval]⟩,hC,.inr ⟨_,rfl,by simp only[E8,seval]<;>omega,by simp only[E8,seval]<;>rfl⟩,Ws,yS,by omega,rfl⟩
  ·rcases hX with ⟨rfl,rfl⟩|⟨g,rfl,hg,hh⟩
   ·simp at hj;omega
   ·apply oT (.exit 0)
    ·simp only[Z8,seval,hI,k9,h9,w9,bA];rfl
    ·exact⟨rfl,_,_,_,_,g,b,⟨by simp only[E8,seval,hI],by simp only[E8,seval,hI],by simp only[E8,seval,hI],by simp only[E8,seval,hI]<;>rfl,by simp only[E8,seval,hh]⟩,hC,hb,by omega,by omega⟩
 case start=>exact⟨0,_,_,_,_,_,[],by and_intros<;>(simp only[E8,seval]<;>rfl),⟨rfl,rfl,rfl⟩,.inl ⟨rfl,rfl⟩,by simp,rfl,by omega,by omega⟩
 case rest =>
  rintro e st ⟨rfl,lJ,sp,bq,tt,g,b,hI,⟨rfl,rfl,rfl⟩,hb,yS,Wo⟩
  simp only[Z8,seval,hI];exact⟨_,by apply eA;rfl;all_goals simp only[aH,Z8,seval,hI,bP,Nw,bO,uN,eC]<;>rfl,⟨⟨6+x0,x1,x2,1+x3,x4,1+x5⟩,1+x6,bq,tt,mkRoot 1,ov bI (some b)⟩,b,rfl,⟨rfl,by omega,hb,by dsimp only;omega,by dsimp only;omega,by dsimp only;omega,by dsimp only;omega,by dsimp only;omega,by dsimp only;omega,by dsimp only;omega,by dsimp only;omega,rfl,by dsimp only;omega⟩⟩
theorem aHf {c:Config} {b:List Int} (h:Ix c b):¬jX (yV c b) (Bj c b) ⟨0,c.cX⟩ ⟨0,c.cX⟩:=by
 have g:=(PW h).1
 have hs:1≤(yV c b).cFg.jH∧(yV c b).cFg.jH≤64:=h.jH
 have s0:=aAc (s:=yV c b) hs (e:=0) (x:=0) (by omega) (iM _).1 ⟨by omega,by omega⟩
 have Qt:(vC (yV c b) 0).1=0:=by rw[s0.1];show (0:Int) * _=0;rw[Int.zero_mul]
 have nd0:nd (Bj c b).ns 0=⟨OY c,-1,1⟩:=rfl
 have he:IZ (yV c b) (Bj c b).ns 0 0:=.inr (by rw[Qt,nd0];exact Int.le_refl 0)
 have ha:tW (Bj c b).ns 0 0=true:=Ih (GI.new h).up (by omega) (by show (0:Int)<((1:Nat):Int);omega)
 have ht:DV (ol (Bj c b).T) ⟨0,c.cX⟩=0:=by
  show uL (fun k=>(gx eI [(⟨⟨0,c.cX⟩,ov bI (some b)⟩:Table)] k).ck=⟨0,c.cX⟩) 1=0
  exact By (p:=fun k=>(gx eI [(⟨⟨0,c.cX⟩,ov bI (some b)⟩:Table)] k).ck=⟨0,c.cX⟩) (k:=0) rfl (fun j hj=>by omega) 1 (by omega)
 unfold jX;rw[show (⟨0,c.cX⟩:dQ).root=c.cX from rfl,g,nd0,ht,ha];rintro (h1|h1|h1|h1|h1|h1|h1|h1|h1|h1)
 ·omega
 ·omega
 ·exact absurd h1 (by show ¬(1:Int)=2;omega)
 ·exact absurd h1 (by show ¬(1:Int)=2;omega)
 ·exact h1 he
 ·exact h1 he
 ·cases h1
 ·exact absurd h1 (Int.lt_irrefl _)
 ·exact absurd h1 (by have:=(iM ((yV c b).now.tdiv (yV c b).cFg.jH)).1;unfold yD;show ¬_<(0:Int);omega)
 ·omega
theorem c62:aB Tryz.prog 62 []=some (.v (.bool true)):=by
 obtain⟨y,hy,c,b,rfl,hc⟩:=aNs
 have fc:Flat (.agg (bW c)):=(zH c).2 (by rw[hc.iP];exact dV _)
 have aDh:∀(st:St) (d:Option Nat),fG (aB Tryz.prog) 101 [.v (.slice none 0 0)] st d=some { dst:=d,val:=.agg (bW c)}:=fun st d=>kx hy (cV (.v _)) fc st d
 have g0:=GI.new hc
 have r0:=RG.new hc
 have fs:=g0.sd.flat
 have aG3:=kx (aLQ hc) (cV fc) (.eG _ (bF fs (.v _)))
 have ef:(yV c b).aL.fin=⟨0,c.cX⟩:=rfl
 have ej:(yV c b).aL.gI=⟨0,c.cX⟩:=rfl
 have R0:Rg (0:Int):=⟨by omega,by omega⟩
 have R1:Rg (1:Int):=⟨by omega,by omega⟩
 have oS:=aHf hc
 have cj:tL (yV c b) ⟨0,c.cX⟩=⟨0,c.cX⟩:=if_neg (Int.lt_irrefl _)
 have cf:rD (yV c b) ⟨0,c.cX⟩=⟨0,c.cX⟩:=if_neg (Int.lt_irrefl _)
 have ka:=k58 g0.sd g0.up hc.jH R0 R0 R0 ⟨1,mkRoot 9⟩ ⟨0,c.cX⟩ R1 R0
 have kb:=k58 g0.sd g0.up hc.jH R0 R0 R0 ⟨0,c.cX⟩ ⟨0,c.cX⟩ R0 R0
 have bad:Nj (yV c b) (Bj c b) ⟨1,mkRoot 9⟩ ⟨0,c.cX⟩=.eG [.agg (bB gP),.agg (bB gP),.v (.bool false)]:=if_pos (.inl (by
  rw[show tL (yV c b) ⟨1,mkRoot 9⟩=⟨1,mkRoot 9⟩ from if_pos (by show (0:Int)<1;omega)]
  show aN (Bj c b).ns (mkRoot 9)<0
  rw[(PW hc).2];omega))
 have aDp:Nj (yV c b) (Bj c b) ⟨0,c.cX⟩ ⟨0,c.cX⟩=.eG [.agg (bB ⟨0,c.cX⟩),.agg (bB ⟨0,c.cX⟩),.v (.bool true)]:=by
  unfold Nj;rw[cj,cf,if_neg oS]
 rw[bad] at ka;rw[aDp] at kb;have up:Oa (yV c b) (Bj c b) ⟨0,c.cX⟩ ⟨0,c.cX⟩=yV c b:=by
  unfold Oa;rw[cj,cf,if_neg oS,if_pos ef.symm];rfl
 have hB:(Bj c b).B≠some []:=fun e=>by have:=hc.nb.1;rw[show b=[] from Option.some.inj e] at this;simp at this
 have hL:(Bj c b).L≠some []:=fun e=>by
  have h2:=congrArg List.length (Option.some.inj e)
  rw[List.length_replicate,List.length_nil] at h2;have:=hc.nb;omega
 have h60:=c60 g0.sd g0.up (by rw[g0.Xs];omega) hc.jH R0 R0 R0 r0.ne hB hL g0.pos ⟨0,c.cX⟩ ⟨0,c.cX⟩ R0 R0
 rw[up] at h60;have k60:=kx h60 (mE fs (.agg _ (bR _)) (.agg _ (bR _))) fs
 have ke:=k42 g0.sd
 have et:(yV c b).tree=⟨.sl (Bj c b).ns.length (bU (Bj c b).ns)⟩:=rfl
 have el:(Bj c b).ns.length=1:=rfl
 rw[cL Tryz.func62 rfl aSN rfl];refine iT ?_
 simp only[Z8,seval,aDh,aG3,dN,ef,ej,Ss,ka,kb,k60,ke,et,el,Q8,beI,beB,beq_self_eq_true,decide_true,mG,mH];exact⟨_,bZ rfl (by simp only[E8,seval]<;>rfl) (by first|exact .v _|simp only[eC]),rfl⟩
theorem k62 (st:St) (d:Option Nat):aO (aB Tryz.prog) 62 [] st d=some { dst:=d,val:=.v (.bool true)}:=bG (fun x h=>by cases h) c62 (.v _)
end Go.Ab.Tryz
namespace Go.Ab.Tryz
open Classical Go.Proofs Go.Ab
open Classical Go.Proofs Go.Ab
end Go.Ab.Tryz
namespace Go.Ab.Tryz
open Classical Go.Proofs Go.Ab
theorem aNu (cs:List AV) (n s g m:Nat):fK (.ip cs n) (.ptr s g m)=True:=rfl
theorem aNv (cs:List AV) (n s g m:Nat):fK (.ptr s g m) (.ip cs n)=True:=rfl
theorem x56 {s:aM} {v:SV} {q:Int} (h:GI s v q) (r:RG s v) (k:Int):∃x,aB Tryz.prog 56 [.agg (aA s),.v (.int .i64 k)]=some x∧∃a b:dQ,x=.eG [.agg (bB a),.agg (bB b)]∧Rg a.aG∧Rg b.aG:=by
 have Bf:(0:Int)<(v.ns.length:Int):=by have:=h.pos;omega
 have fQ:¬((v.ns.length:Int)=0):=by omega
 have hs:=h.sd
 obtain⟨b0,_⟩:=Ds k 255 (by decide)
 obtain⟨x1,hx1⟩:∃x,IntKind.i64.wrap ((BitVec.ofInt IntKind.i64.bits k &&& BitVec.ofInt IntKind.i64.bits 255).toNat:Int)=x:=⟨_,rfl⟩
 rw[hx1] at b0;obtain⟨m1,m2⟩:=cP (n:=(v.ns.length:Int)) b0 Bf
 obtain⟨p,hp⟩:∃p,x1.tmod (v.ns.length:Int)=p:=⟨_,rfl⟩
 rw[hp] at m1 m2;obtain⟨b2,_⟩:=Ds (k.fdiv (2 ^ min 8 IntKind.i64.bits)) 255 (by decide)
 obtain⟨x2,hx2⟩:∃x,IntKind.i64.wrap ((BitVec.ofInt IntKind.i64.bits (k.fdiv (2 ^ min 8 IntKind.i64.bits)) &&& BitVec.ofInt IntKind.i64.bits 255).toNat:Int)=x:=⟨_,rfl⟩
 rw[hx2] at b2;obtain⟨m3,m4⟩:=cP (n:=(v.ns.length:Int)) b2 Bf
 obtain⟨p',UR⟩:∃p,x2.tmod (v.ns.length:Int)=p:=⟨_,rfl⟩
 rw[UR] at m3 m4;have r1:=(r.nd _ (Ti m1 m2)).1
 have r2:=(r.nd _ (Ti m3 m4)).1
 have V0:Rg s.now:=⟨r.now.1,by have:=r.now.2;omega⟩
 have rd:=iM (s.now.tdiv s.cFg.jH)
 have sp0:¬s.cFg.jH=0:=by have:=h.jH.1;omega
 have ht:=hs.tree
 have fl2:∀a b:dQ,Flat (.eG [.agg (bB a),.agg (bB b)]):=fun a b=>.eG _ (bF (.agg _ (bR a)) (.agg _ (bR b)))
 rw[cG Tryz.func56 rfl aSO (by kernel_rfl) rfl]
 cases h1:(IntKind.i64.wrap ((BitVec.ofInt IntKind.i64.bits (k.fdiv (2 ^ min 16 IntKind.i64.bits)) &&& BitVec.ofInt IntKind.i64.bits 3).toNat:Int) == 0) <;>
 cases h2:(IntKind.i64.wrap ((BitVec.ofInt IntKind.i64.bits (k.fdiv (2 ^ min 16 IntKind.i64.bits)) &&& BitVec.ofInt IntKind.i64.bits 3).toNat:Int) == 1) <;>
 cases h3:(IntKind.i64.wrap ((BitVec.ofInt IntKind.i64.bits (k.fdiv (2 ^ min 16 IntKind.i64.bits)) &&& BitVec.ofInt IntKind.i64.bits 3).toNat:Int) == 2)
 all_goals
  simp only[ZG,seval,Bool.false_and,Prod.mk.injEq,aSP,aNu,aNv,hx1,hp,fQ,m1,m2,hx2,UR,m3,m4,h1,h2,h3,ht,sp0,Ss];exact⟨_,by apply dK;rfl;all_goals simp only[aH,bY,Z8,seval]<;>rfl,_,_,rfl,by first|exact r1.pj|exact iM _,by first|exact r2.pf|exact iM _⟩
end Go.Ab.Tryz
