/-
  Part 17 of the proof: an evaluator of programs, its soundness, and what functions of this program compute.
-/
import Derived.Test.YtmcjkemalibacaaGreatK16
import Derived.Test.YtmcjkemalibacaaGreatK12
import Derived.Test.YtmcjkemalibacaaGreatK19
import Derived.Test.YtmcjkemalibacaaGreatK14
set_option linter.all false
set_option maxRecDepth 20000
set_option maxHeartbeats 40000000
namespace Go.Ab.Tryz
open Classical Go.Proofs Go.Ab
theorem Z0 (d c e sz n:Nat) (cs:List AV):qQ (zB d) c [.uniq e sz n cs]=([.own d c],[.row e sz n cs]):=rfl
def Kh (v:SV):List oB:=rl 23 1 bK v.B++(rl 100 34 dD v.L++(rl 3 1 aK v.Q++(rl 87 67 dR v.E++(rl 74 238 aG v.O++([.row 76 240 v.ns.length (bZ v.ns)]++rl 118 34 aI v.T)))))
def nB (v:SV):Nat:=(rl 23 1 bK v.B).length
def nL (v:SV):Nat:=nB v+(rl 100 34 dD v.L).length
def nQ (v:SV):Nat:=nL v+(rl 3 1 aK v.Q).length
def nE (v:SV):Nat:=nQ v+(rl 87 67 dR v.E).length
def nO (v:SV):Nat:=nE v+(rl 74 238 aG v.O).length
def Ou (s:aL) (v:SV) (d c:Nat):aL:=TS s (rv d c v.B) (rv d (c+nB v) v.L) (rv d (c+nL v) v.Q) (rv d (c+nQ v) v.E) (rv d (c+nE v) v.O) (.own d (c+nO v)) (rv d (c+nO v+1) v.T)
theorem Yw (s:aL) (v:SV) (d c:Nat):qQ (zB d) c (aA (TS s (uo 23 1 bK v.B) (uo 100 34 dD v.L) (uo 3 1 aK v.Q) (uo 87 67 dR v.E) (uo 74 238 aG v.O) (.uniq 76 240 v.ns.length (bZ v.ns)) (uo 118 34 aI v.T)))=(aA (Ou s v d c),Kh v):=by
 simp only[TS,Ou,aA,bW,fF,jX,mV,ON,IF,Z0,yZ d _ (uS _),yZ d _ (eD _),yZ d _ (iQ _),yZ d _ (dX _),yZ d _ (lF _),List.nil_append,List.length_nil,Nat.add_zero,List.append_assoc,List.length_append,List.length_cons,Kh,nO,nE,nQ,nL,nB,Nat.add_assoc,List.append_nil]
theorem aSX {s:aL} {v:SV} (hs:SD s v) (gP:NEv v) (hB:v.B≠some []) (hL:v.L≠some []) (ht:0<v.ns.length) (st:St) (d:Nat) :
 aM (aB Tryz.prog) 109 [.agg (aA s)] st (some d)=some { dst:=some d,val:=.agg (aA (Ou s v d (st.aT d))),new:=some (d,Kh v)}:=by
 have h0:Kh v≠[]:=by simp[Kh]
 rw[u7 (cU hs.flat) (aSW hs gP hB hL ht) (by rw[Yw];exact .inr h0),Yw]
 simp only[TP,if_neg h0]
theorem OQ (x:Option Nat) (y:AV) (d:Nat) (v:SV) (st:St):({ dst:=x,val:=y,new:=some (d,Kh v)}:rX).apply st=(st.news d (Kh v)).put x y:=rfl
theorem IG {α:Type} (d k:Nat) (l:List α):rv d k (some l)=.own d k:=rfl
theorem aDi {α:Type} (d k:Nat):rv d k (none:Option (List α))=.v (.slice none 0 0):=rfl
theorem nY {α:Type} (a b:List α) (n i:Nat) (h:n=a.length+i):(a++b)[n]? = b[i]?:=by
 rw[h,List.getElem?_append_right (by omega)]
 congr 1
 omega
theorem aNq (v:SV) (l:List Int) (h:v.B=some l):(Kh v)[0]? = some (.row 23 1 l.length (bK l)):=by simp[Kh,h,rl]
theorem aNr (v:SV) (l:List kO) (h:v.L=some l):(Kh v)[nB v]? = some (.row 100 34 l.length (dD l)):=by
 unfold Kh;rw[nY _ _ _ 0 (by simp[nB]),h];rfl
theorem aNs (v:SV) (l:List Int) (h:v.Q=some l):(Kh v)[nL v]? = some (.row 3 1 l.length (aK l)):=by
 unfold Kh;rw[nY _ _ _ _ (show nL v=_+_ from rfl),nY _ _ _ 0 (by simp),h];rfl
theorem aNt (v:SV) (l:List sG) (h:v.E=some l):(Kh v)[nQ v]? = some (.row 87 67 l.length (dR l)):=by
 unfold Kh;rw[nY _ _ _ ((rl 100 34 dD v.L).length+(rl 3 1 aK v.Q).length) (by simp[nQ,nL,nB,Nat.add_assoc]),nY _ _ _ _ rfl,nY _ _ _ 0 (by simp),h];rfl
theorem aHm (v:SV) (l:List Block) (h:v.O=some l):(Kh v)[nE v]? = some (.row 74 238 l.length (aG l)):=by
 unfold Kh;rw[nY _ _ _ ((rl 100 34 dD v.L).length+((rl 3 1 aK v.Q).length+(rl 87 67 dR v.E).length)) (by simp[nE,nQ,nL,nB,Nat.add_assoc]),nY _ _ _ _ rfl,nY _ _ _ _ rfl,nY _ _ _ 0 (by simp),h];rfl
theorem aHn (v:SV):(Kh v)[nO v]? = some (.row 76 240 v.ns.length (bZ v.ns)):=by
 unfold Kh;rw[nY _ _ _ ((rl 100 34 dD v.L).length+((rl 3 1 aK v.Q).length+((rl 87 67 dR v.E).length+(rl 74 238 aG v.O).length))) (by simp[nO,nE,nQ,nL,nB,Nat.add_assoc]),nY _ _ _ _ rfl,nY _ _ _ _ rfl,nY _ _ _ _ rfl,nY _ _ _ 0 (by simp)];rfl
theorem aHo (v:SV) (l:List Table) (h:v.T=some l):(Kh v)[nO v+1]? = some (.row 118 34 l.length (aI l)):=by
 unfold Kh;rw[nY _ _ _ ((rl 100 34 dD v.L).length+((rl 3 1 aK v.Q).length+((rl 87 67 dR v.E).length+((rl 74 238 aG v.O).length+1)))) (by simp[nO,nE,nQ,nL,nB,Nat.add_assoc]),nY _ _ _ _ rfl,nY _ _ _ _ rfl,nY _ _ _ _ rfl,nY _ _ _ _ rfl,nY _ _ _ 0 (by simp),h];rfl
theorem LU (x:Int):(x != x)=false:=by simp
theorem LV (x:Int):(x == x)=true:=by simp
theorem aSY (o:Option (List Int)) (hn:((ol o).length:Int)<1000000):aB Tryz.prog 103 [ov bK o,ov bK o]=some (.v (.bool true)):=by
 rw[cL Tryz.func103 rfl aFE (by cases o<;>rfl)]
 refine gX ?_
 simp only[Z8,seval,LU];refine cC (fun m st=>∃k:Nat,(st.env 0=ov bK o∧st.env 1=ov bK o∧st.env 5=.v (.int .i64 k))∧k≤(ol o).length∧m=(ol o).length-k)
  (fun e st=>e=.exit 0) (ol o).length ?step ?start ?rest
 case step =>
  rintro m st ⟨k,hI,hk,hm⟩
  by_cases aY:(k:Int)<(ol o).length
  ·have q0:(0:Int)≤k:=by omega
   have hw:IntKind.i64.wrap ((k:Int)+1)=((k+1:Nat):Int):=by rw[mT _ (by omega) (by omega)];omega
   apply oN ((ol o).length-(k+1))
   ·simp only[Z8,seval,hI,aY,q0,LU,hw];rfl
   ·exact⟨k+1,by simp only[E8,seval,hI],by omega,rfl⟩
  ·apply oT (.exit 0)
   ·simp only[Z8,seval,hI,aY];rfl
   ·exact rfl
 case start=>exact⟨0,by simp only[E8,seval]<;>exact⟨rfl,rfl,rfl⟩,by omega,by omega⟩
 case rest =>
  rintro e st rfl
  simp only[Z8,seval];exact⟨_,bQ rfl (by simp only[E8,seval]<;>rfl) (by first|exact .v _|simp only[dU]),rfl⟩
theorem V9 (o:Option (List Int)) (hn:((ol o).length:Int)<1000000) (st:St) (d:Option Nat):aM (aB Tryz.prog) 103 [ov bK o,ov bK o] st d=some { dst:=d,val:=.v (.bool true)}:=bC (bE (dY o) (dY o)) (aSY o hn) (.v _)
theorem aSZ (o:Option (List kO)) (hn:((ol o).length:Int)<1000000):aB Tryz.prog 104 [ov dD o,ov dD o]=some (.v (.bool true)):=by
 rw[cL Tryz.func104 rfl aNu (by cases o<;>rfl)]
 refine gX ?_
 simp only[Z8,seval,LU];refine cC (fun m st=>∃k:Nat,(st.env 0=ov dD o∧st.env 1=ov dD o∧st.env 5=.v (.int .i64 k))∧k≤(ol o).length∧m=(ol o).length-k)
  (fun e st=>e=.exit 0) (ol o).length ?step ?start ?rest
 case step =>
  rintro m st ⟨k,hI,hk,hm⟩
  by_cases aY:(k:Int)<(ol o).length
  ·have q0:(0:Int)≤k:=by omega
   have hw:IntKind.i64.wrap ((k:Int)+1)=((k+1:Nat):Int):=by rw[mT _ (by omega) (by omega)];omega
   apply oN ((ol o).length-(k+1))
   ·simp only[Z8,seval,hI,aY,q0,LU,hw];rfl
   ·exact⟨k+1,by simp only[E8,seval,hI],by omega,rfl⟩
  ·apply oT (.exit 0)
   ·simp only[Z8,seval,hI,aY];rfl
   ·exact rfl
 case start=>exact⟨0,by simp only[E8,seval]<;>exact⟨rfl,rfl,rfl⟩,by omega,by omega⟩
 case rest =>
  rintro e st rfl
  simp only[Z8,seval];exact⟨_,bQ rfl (by simp only[E8,seval]<;>rfl) (by first|exact .v _|simp only[dU]),rfl⟩
theorem aNv (o:Option (List kO)) (hn:((ol o).length:Int)<1000000) (st:St) (d:Option Nat):aM (aB Tryz.prog) 104 [ov dD o,ov dD o] st d=some { dst:=d,val:=.v (.bool true)}:=bC (bE (rC o) (rC o)) (aSZ o hn) (.v _)
theorem aNw (o:Option (List Int)) (hn:((ol o).length:Int)<1000000):aB Tryz.prog 105 [ov aK o,ov aK o]=some (.v (.bool true)):=by
 rw[cL Tryz.func105 rfl aFD (by cases o<;>rfl)]
 refine gX ?_
 simp only[Z8,seval,LU];refine cC (fun m st=>∃k:Nat,(st.env 0=ov aK o∧st.env 1=ov aK o∧st.env 5=.v (.int .i64 k))∧k≤(ol o).length∧m=(ol o).length-k)
  (fun e st=>e=.exit 0) (ol o).length ?step ?start ?rest
 case step =>
  rintro m st ⟨k,hI,hk,hm⟩
  by_cases aY:(k:Int)<(ol o).length
  ·have q0:(0:Int)≤k:=by omega
   have hw:IntKind.i64.wrap ((k:Int)+1)=((k+1:Nat):Int):=by rw[mT _ (by omega) (by omega)];omega
   apply oN ((ol o).length-(k+1))
   ·simp only[Z8,seval,hI,aY,q0,LU,hw];rfl
   ·exact⟨k+1,by simp only[E8,seval,hI],by omega,rfl⟩
  ·apply oT (.exit 0)
   ·simp only[Z8,seval,hI,aY];rfl
   ·exact rfl
 case start=>exact⟨0,by simp only[E8,seval]<;>exact⟨rfl,rfl,rfl⟩,by omega,by omega⟩
 case rest =>
  rintro e st rfl
  simp only[Z8,seval];exact⟨_,bQ rfl (by simp only[E8,seval]<;>rfl) (by first|exact .v _|simp only[dU]),rfl⟩
theorem Z1 (o:Option (List Int)) (hn:((ol o).length:Int)<1000000) (st:St) (d:Option Nat):aM (aB Tryz.prog) 105 [ov aK o,ov aK o] st d=some { dst:=d,val:=.v (.bool true)}:=bC (bE (bX o) (bX o)) (aNw o hn) (.v _)
theorem aS0 (a:sG) (V:Option (List Int)) (ha:a.eZ=ov aK V) (hn:((ol V).length:Int)<1000000):aB Tryz.prog 108 [.agg (iD a),.agg (iD a)]=some (.v (.bool true)):=by
 rw[cL Tryz.func108 rfl aFF rfl];refine gX ?_
 simp only[Z8,seval,ha,LV,Z1 V hn];exact⟨_,bQ rfl (by simp only[E8,seval]<;>rfl) (by first|exact .v _|simp only[dU]),rfl⟩
theorem aNx (a:sG) (h:Df a) (st:St) (d:Option Nat):aM (aB Tryz.prog) 108 [.agg (iD a),.agg (iD a)] st d=some { dst:=d,val:=.v (.bool true)}:=by
 obtain⟨V,ha,hl⟩:=h
 have hf:Flat (.agg (iD a)):=(zP a).2 (by rw[ha];exact bX V)
 exact bC (bE hf hf) (aS0 a V ha hl) (.v _)
theorem aS1 (a:Table) (V:Option (List Int)) (ha:a.iP=ov bK V) (hn:((ol V).length:Int)<1000000):aB Tryz.prog 159 [.agg (cA a),.agg (cA a)]=some (.v (.bool true)):=by
 rw[cL Tryz.func159 rfl aFG rfl];refine gX ?_
 simp only[Z8,seval,ha,LV,V9 V hn];exact⟨_,bQ rfl (by simp only[E8,seval]<;>rfl) (by first|exact .v _|simp only[dU]),rfl⟩
theorem aNy (a:Table) (h:qN a) (st:St) (d:Option Nat):aM (aB Tryz.prog) 159 [.agg (cA a),.agg (cA a)] st d=some { dst:=d,val:=.v (.bool true)}:=by
 obtain⟨V,ha,hl⟩:=h
 have hf:Flat (.agg (cA a)):=(iG a).2 (by rw[ha];exact dY V)
 exact bC (bE hf hf) (aS1 a V ha hl) (.v _)
theorem aS2 (o:Option (List Table)) (hn:((ol o).length:Int)<1000000) (hA:∀a∈ol o,qN a):aB Tryz.prog 107 [ov aI o,ov aI o]=some (.v (.bool true)):=by
 rw[cL Tryz.func107 rfl aF1 (by cases o<;>rfl)]
 refine gX ?_
 simp only[Z8,seval,LU,LV];refine cC (fun m st=>∃k:Nat,(st.env 0=ov aI o∧st.env 1=ov aI o∧st.env 5=.v (.int .i64 k))∧k≤(ol o).length∧m=(ol o).length-k)
  (fun e st=>e=.exit 0) ((ol o).length) ?step ?start ?rest
 case step =>
  rintro m st ⟨k,hI,hk,hm⟩
  by_cases aY:(k:Int)<((ol o).length:Nat)
  ·have q0:(0:Int)≤k:=by omega
   have hw:IntKind.i64.wrap ((k:Int)+1)=((k+1:Nat):Int):=by rw[mT _ (by omega) (by omega)];omega
   have kk:=aNy _ (hA _ (oO (z:=dZ) q0 aY))
   apply oN ((ol o).length-(k+1))
   ·simp only[Z8,seval,hI,aY,q0,kk,LU,hw,LV];rfl
   ·exact⟨k+1,by simp only[E8,seval,hI],by omega,rfl⟩
  ·apply oT (.exit 0)
   ·simp only[Z8,seval,hI,aY,LV];rfl
   ·exact rfl
 case start=>exact⟨0,by simp only[E8,seval]<;>exact⟨rfl,rfl,rfl⟩,by omega,by omega⟩
 case rest =>
  rintro e st rfl
  simp only[Z8,seval];exact⟨_,bQ rfl (by simp only[E8,seval]<;>rfl) (by first|exact .v _|simp only[dU]),rfl⟩
theorem aS3 (o:Option (List Table)) (hn:((ol o).length:Int)<1000000) (hA:∀a∈ol o,qN a) (st:St) (d:Option Nat):aM (aB Tryz.prog) 107 [ov aI o,ov aI o] st d=some { dst:=d,val:=.v (.bool true)} :=
 bC (bE (fZ o fun y m=>(hA y m).fl) (fZ o fun y m=>(hA y m).fl)) (aS2 o hn hA) (.v _)
end Go.Ab.Tryz
namespace Go.Ab.Tryz
open Classical Go.Proofs Go.Ab
end Go.Ab.Tryz
namespace Go.Ab.Tryz
open Classical Go.Proofs Go.Ab
def nS (v:SV):Nat:=(Kh v).length
def nR (v:SV) (Q:Option (List Request)):Nat:=nS v+(rl 63 35 aF Q).length
theorem Z2 (v:SV) (j:Nat):(if j<(Kh v).length then (Kh v)[j]? else none)=(Kh v)[j]?:=by
 split
 ·rfl
 ·rw[List.getElem?_eq_none (by omega)]
theorem aHp {st:St} {s:aL} {v:SV} (hs:SD s v) {d c:Nat} (hh:∀j,j<nS v→st.heap d (c+j)=(Kh v)[j]?):Ux st (aA (Ou s v d c))=some (aA s):=by
 have ix:∀ {j:Nat} {e:oB},(Kh v)[j]? = some e→st.heap d (c+j)=some e:=fun h=>by rw[hh _ (List.getElem?_eq_some_iff.1 h).1,h]
 rw[gJ];simp only[Ou,TS];rw[mM (e:=23) (sz:=1) (c:=bK) (fun l hl=>by have:=ix (aNq v l hl);rwa [Nat.add_zero] at this) (fun l _=>iH l),cO,
  mM (e:=100) (sz:=34) (c:=dD) (fun l hl=>ix (aNr v l hl)) (fun l _=>nD l),cO,
  mM (e:=3) (sz:=1) (c:=aK) (fun l hl=>ix (aNs v l hl)) (fun l _=>gI l),cO,
  mM (e:=87) (sz:=67) (c:=dR) (fun l hl=>ix (aNt v l hl)) (fun l hl=>tD l fun y m=>(hs.eV y (by rw[hl];exact m)).fl),cO,
  mM (e:=74) (sz:=238) (c:=aG) (fun l hl=>ix (aHm v l hl)) (fun l _=>lB l),cO,
  ← IG d (c+nO v) v.ns,mM (e:=76) (sz:=240) (c:=bZ) (fun l hl=>by cases hl;exact ix (aHn v)) (fun l _=>iF l),cO,
  mM (e:=118) (sz:=34) (c:=aI) (fun l hl=>by have:=ix (aHo v l hl);rwa [← Nat.add_assoc] at this) (fun l hl=>jY l fun y m=>(hs.tB y (by rw[hl];exact m)).fl),cO]
 have hn:ov bZ (some v.ns)=s.tree.nodes:=by rw[hs.tree];rfl
 rw[hn,← hs.iP,← hs.eB,← hs.gW,← hs.early,← hs.bN,← hs.tables]
end Go.Ab.Tryz
namespace Go.Ab.Tryz
open Classical Go.Proofs Go.Ab
end Go.Ab.Tryz
namespace Go.Ab.Tryz
open Classical Go.Proofs Go.Ab
theorem aF2:aD 4 77 (some 54)=[]:=rfl
theorem x42 {s:aL} {v:SV} (hs:SD s v):∃r,aB Tryz.prog 42 [.agg (aA s),.agg (aA s)]=some r∧r=.v (.bool true):=by
 have pJ:=hs.flat
 rw[cG Tryz.func42 rfl aNz (by kernel_rfl) rfl]
 have kB:=V9 v.B hs.nB
 have kL:=aNv v.L hs.nL
 have kQ:=Z1 v.Q hs.nQ
 have kn:=aKH v.ns v.ns hs.nn
 have kT:=aS3 v.T hs.nT hs.tB
 simp only[ZG,seval,Bool.false_and,Prod.mk.injEq,Ov,aF2,hs.iP,hs.eB,hs.gW,hs.early,hs.bN,hs.tree,hs.tables,LU,LV,kB,kL,kQ,kn,kT,decide_true,Bool.not_true,lD,lE];refine jH (fun m st=>∃k:Nat,(st.env 2=.ptr 2 0 0∧st.heap 2 0=some (.cells (aA s))∧st.env 3=.ptr 3 0 0∧st.heap 3 0=some (.cells (aA s))∧st.env 7=.v (.int .i64 k))∧k≤(ol v.E).length∧m=(ol v.E).length-k)
  (fun e st=>e=.exit 0∧(st.env 2=.ptr 2 0 0∧st.heap 2 0=some (.cells (aA s))∧st.env 3=.ptr 3 0 0∧st.heap 3 0=some (.cells (aA s)))) (ol v.E).length ?step ?start ?rest
 case step =>
  rintro m st ⟨k,hI,hk,hm⟩
  have hn:=hs.nE
  by_cases aY:(k:Int)<(ol v.E).length
  ·have q0:(0:Int)≤k:=by omega
   have hw:IntKind.i64.wrap ((k:Int)+1)=((k+1:Nat):Int):=by rw[mT _ (by omega) (by omega)];omega
   have kk:=aNx _ (hs.eV _ (oO (z:=Hw) q0 aY))
   apply Au ((ol v.E).length-(k+1))
   ·simp only[ZG,seval,Bool.false_and,Prod.mk.injEq,Ov,hs.early,hI,aY,q0,kk,LU,Bool.not_true,hw];rfl
   ·exact⟨k+1,by simp only[E8,seval,hI],by omega,rfl⟩
  ·apply BZ (.exit 0)
   ·simp only[ZG,seval,Bool.false_and,Prod.mk.injEq,Ov,hs.early,hI,aY];rfl
   ·exact⟨rfl,by simp only[E8,seval,hI]⟩
 case start=>exact⟨0,by simp only[E8,seval]<;>exact⟨rfl,rfl,rfl,rfl,rfl⟩,by omega,by omega⟩
 case rest =>
  rintro e st ⟨rfl,hI⟩
  simp only[ZG,seval,Bool.false_and,Prod.mk.injEq,Ov,hI];refine jH (fun m st=>∃k:Nat,(st.env 2=.ptr 2 0 0∧st.heap 2 0=some (.cells (aA s))∧st.env 3=.ptr 3 0 0∧st.heap 3 0=some (.cells (aA s))∧st.env 8=.v (.int .i64 k))∧k≤(ol v.O).length∧m=(ol v.O).length-k)
   (fun e st=>e=.exit 2) (ol v.O).length ?NI ?Yh ?Yi
  case NI =>
   rintro m st ⟨k,hI,hk,hm⟩
   have hn:=hs.nO
   by_cases aY:(k:Int)<(ol v.O).length
   ·have q0:(0:Int)≤k:=by omega
    have hw:IntKind.i64.wrap ((k:Int)+1)=((k+1:Nat):Int):=by rw[mT _ (by omega) (by omega)];omega
    apply Au ((ol v.O).length-(k+1))
    ·simp only[ZG,seval,Bool.false_and,Prod.mk.injEq,Ov,hs.bN,hI,aY,q0,LU,decide_true,Bool.not_true,hw];rfl
    ·exact⟨k+1,by simp only[E8,seval,hI],by omega,rfl⟩
   ·apply BZ (.exit 2)
    ·simp only[ZG,seval,Bool.false_and,Prod.mk.injEq,Ov,hs.bN,hI,aY];rfl
    ·exact rfl
  case Yh=>exact⟨0,by simp only[E8,seval,hI]<;>exact⟨rfl,rfl,rfl,rfl,rfl⟩,by omega,by omega⟩
  case Yi =>
   rintro e st rfl
   simp only[ZG,seval,Bool.false_and,Prod.mk.injEq,Ov];exact⟨_,bQ rfl (by simp only[E8,seval]<;>rfl) (by first|exact .v _|simp only[dU]),rfl⟩
theorem k42 {s:aL} {v:SV} (hs:SD s v) (st:St) (d:Option Nat):aM (aB Tryz.prog) 42 [.agg (aA s),.agg (aA s)] st d=some { dst:=d,val:=.v (.bool true)}:=by
 obtain⟨r,h,e⟩:=x42 hs
 subst e;exact bC (bE hs.flat hs.flat) h (.v _)
end Go.Ab.Tryz
namespace Go.Ab.Tryz
open Classical Go.Proofs Go.Ab
open Classical Go.Proofs Go.Ab
open Classical Go.Proofs Go.Ab
end Go.Ab.Tryz
namespace Go.Ab.Tryz
open Classical Go.Proofs Go.Ab
theorem bnB (x:Bool):(x != x)=false:=by simp
theorem beB (x:Bool):(x == x)=true:=by simp
theorem TI.lists {t:State} {v:SV} {Q R:Option (List Request)} {q m:Int} (T:TI t v Q R q m):v.B≠some []∧∃L,v.L=some L∧L≠[]:=by
 have h1:=T.toTI0.iP.1
 have h2:=T.gi.NF
 constructor
 ·intro h;rw[h] at h1;exact absurd h1 (by simp[ol])
 ·cases h:v.L with
  | none=>rw[h] at h2;simp only[ol,Option.getD_none,List.length_nil] at h2;simp only[ol] at h1;omega
  | some L =>
    refine⟨L,rfl,fun e=>?_⟩
    rw[h,e] at h2;simp only[ol,Option.getD_some,List.length_nil] at h2;simp only[ol] at h1;omega
end Go.Ab.Tryz
namespace Go.Ab.Tryz
open Classical Go.Proofs Go.Ab
end Go.Ab.Tryz
namespace Go.Ab.Tryz
open Classical Go.Proofs Go.Ab
structure WT (t:State) (v:SV):Prop where
 td:TD t v (some [⟨⟨1⟩,mkRoot 9,0,0⟩]) none
 ne:NEv v
 hB:v.B≠some []
 hL:v.L≠some []
 pos:0<v.ns.length
 op:zY v.ns (mkRoot 9)
 tag:t.dA=2
 now:t.store.now=1
end Go.Ab.Tryz
namespace Go.Ab.Tryz
open Classical Go.Proofs Go.Ab
end Go.Ab.Tryz
namespace Go.Ab.Tryz
open Go Go.Ab
def Dr:List Value:=[.int .u64 0]++([.int .i64 0]++tO)
theorem aHq {n:Int} (hn:IntKind.u64.has n):Rg n:=by
 simp only[IntKind.has,IntKind.min,IntKind.max,IntKind.signed,IntKind.bits] at hn;simp at hn
 exact⟨by omega,by omega⟩
theorem OR {x:dP} (h:∀k n,AV.v (.int k n)∈aW x→k.has n):Rg x.aE:=aHq (h _ _ (by simp[aW,lG]))
end Go.Ab.Tryz
namespace Go.Ab.Tryz
open Classical Go.Proofs Go.Ab
end Go.Ab.Tryz
namespace Go.Ab.Tryz
open Classical Go.Proofs Go.Ab
theorem aF3 (o:Option (List Table)) (hn:((ol o).length:Int)<1000000) (f:Nat) (mG:List AV) (p:Table→Bool) (kf:∀x∈ol o,∀(st:St) (d:Option Nat),aM (aB Tryz.prog) f ([.agg (cA x)]++mG) st d=some { dst:=d,val:=.v (.bool (p x))}):aB Tryz.prog 173 [ov aI o,.rW f mG]=some (.v (.int .i64 (uL (fun k=>p (gx dZ (ol o) k)=true) (ol o).length))):=by
 rw[cL Tryz.func173 rfl aNA (by cases o<;>rfl)]
 refine gX ?_
 simp only[Z8,seval];refine cC (fun m st=>∃k:Nat,(st.env 0=ov aI o∧st.env 1=.rW f mG∧st.env 7=.v (.int .i64 (ol o).length)∧st.env 8=.v (.int .i64 k))∧(∀j:Nat,j<k→¬p (gx dZ (ol o) j)=true)∧k≤(ol o).length∧m=(ol o).length-k)
  (fun e st=>(e=.ret∧∃k:Nat,k<(ol o).length∧p (gx dZ (ol o) k)=true∧(∀j:Nat,j<k→¬p (gx dZ (ol o) j)=true)∧st.env 4=.v (.int .i64 k))∨(e=.exit 0∧∀j:Nat,j<(ol o).length→¬p (gx dZ (ol o) j)=true)) (ol o).length ?step ?start ?rest
 case step =>
  rintro m st ⟨k,hI,hj,hk,hm⟩
  by_cases aY:(k:Int)<(ol o).length
  ·have q0:(0:Int)≤k:=by omega
   have hw:IntKind.i64.wrap ((k:Int)+1)=((k+1:Nat):Int):=by rw[mT _ (by omega) (by omega)];omega
   have kx':=kf _ (oO (z:=dZ) q0 aY)
   by_cases hr:p (gx dZ (ol o) k)=true
   ·rw[hr] at kx'
    apply oT (.ret)
    ·simp only[Z8,seval,hI,aY,q0,kx'];rfl
    ·exact .inl ⟨rfl,k,by omega,hr,hj,by simp only[E8,seval]⟩
   ·have hf:p (gx dZ (ol o) k)=false:=by simpa using hr
    rw[hf] at kx'
    apply oN ((ol o).length-(k+1))
    ·simp only[Z8,seval,hI,aY,q0,kx',hw];rfl
    ·exact⟨k+1,by simp only[E8,seval,hI],fun j h=>(Nat.lt_succ_iff_lt_or_eq.1 h).elim (hj j) fun e=>by subst e;exact hr,by omega,rfl⟩
  ·apply oT (.exit 0)
   ·simp only[Z8,seval,hI,aY];rfl
   ·exact .inr ⟨rfl,fun j h=>hj j (by omega)⟩
 case start=>exact⟨0,by simp only[E8,seval]<;>rfl,fun j h=>by omega,by omega,by omega⟩
 case rest =>
  rintro e st (⟨rfl,k,hk,hh,hj,h⟩|⟨rfl,hj⟩)
  ·have hv:uL (fun k=>p (gx dZ (ol o) k)=true) (ol o).length=k:=Bk hh hj _ hk
   simp only[Z8,seval];exact⟨_,bQ rfl (by simp only[E8,seval,h]<;>rfl) (by first|exact .v _|simp only[dU,h]),by rw[hv]⟩
  ·have hv:uL (fun k=>p (gx dZ (ol o) k)=true) (ol o).length=-1:=tL _ hj
   simp only[Z8,seval];exact⟨_,bQ rfl (by simp only[E8,seval]<;>rfl) (by first|exact .v _|simp only[dU]),by rw[hv]⟩
theorem aF4 (o:Option (List Block)) (hn:((ol o).length:Int)<1000000) (f:Nat) (mG:List AV) (p:Block→Bool) (kf:∀x∈ol o,∀(st:St) (d:Option Nat),aM (aB Tryz.prog) f ([.agg (aP x)]++mG) st d=some { dst:=d,val:=.v (.bool (p x))}):aB Tryz.prog 171 [ov aG o,.rW f mG]=some (.v (.int .i64 (uL (fun k=>p (gx eA (ol o) k)=true) (ol o).length))):=by
 rw[cL Tryz.func171 rfl aNB (by cases o<;>rfl)]
 refine gX ?_
 simp only[Z8,seval];refine cC (fun m st=>∃k:Nat,(st.env 0=ov aG o∧st.env 1=.rW f mG∧st.env 7=.v (.int .i64 (ol o).length)∧st.env 8=.v (.int .i64 k))∧(∀j:Nat,j<k→¬p (gx eA (ol o) j)=true)∧k≤(ol o).length∧m=(ol o).length-k)
  (fun e st=>(e=.ret∧∃k:Nat,k<(ol o).length∧p (gx eA (ol o) k)=true∧(∀j:Nat,j<k→¬p (gx eA (ol o) j)=true)∧st.env 4=.v (.int .i64 k))∨(e=.exit 0∧∀j:Nat,j<(ol o).length→¬p (gx eA (ol o) j)=true)) (ol o).length ?step ?start ?rest
 case step =>
  rintro m st ⟨k,hI,hj,hk,hm⟩
  by_cases aY:(k:Int)<(ol o).length
  ·have q0:(0:Int)≤k:=by omega
   have hw:IntKind.i64.wrap ((k:Int)+1)=((k+1:Nat):Int):=by rw[mT _ (by omega) (by omega)];omega
   have kx':=kf _ (oO (z:=eA) q0 aY)
   by_cases hr:p (gx eA (ol o) k)=true
   ·rw[hr] at kx'
    apply oT (.ret)
    ·simp only[Z8,seval,hI,aY,q0,kx'];rfl
    ·exact .inl ⟨rfl,k,by omega,hr,hj,by simp only[E8,seval]⟩
   ·have hf:p (gx eA (ol o) k)=false:=by simpa using hr
    rw[hf] at kx'
    apply oN ((ol o).length-(k+1))
    ·simp only[Z8,seval,hI,aY,q0,kx',hw];rfl
    ·exact⟨k+1,by simp only[E8,seval,hI],fun j h=>(Nat.lt_succ_iff_lt_or_eq.1 h).elim (hj j) fun e=>by subst e;exact hr,by omega,rfl⟩
  ·apply oT (.exit 0)
   ·simp only[Z8,seval,hI,aY];rfl
   ·exact .inr ⟨rfl,fun j h=>hj j (by omega)⟩
 case start=>exact⟨0,by simp only[E8,seval]<;>rfl,fun j h=>by omega,by omega,by omega⟩
 case rest =>
  rintro e st (⟨rfl,k,hk,hh,hj,h⟩|⟨rfl,hj⟩)
  ·have hv:uL (fun k=>p (gx eA (ol o) k)=true) (ol o).length=k:=Bk hh hj _ hk
   simp only[Z8,seval];exact⟨_,bQ rfl (by simp only[E8,seval,h]<;>rfl) (by first|exact .v _|simp only[dU,h]),by rw[hv]⟩
  ·have hv:uL (fun k=>p (gx eA (ol o) k)=true) (ol o).length=-1:=tL _ hj
   simp only[Z8,seval];exact⟨_,bQ rfl (by simp only[E8,seval]<;>rfl) (by first|exact .v _|simp only[dU]),by rw[hv]⟩
theorem u9 (w:dP):Flat (.ip (aW w) 0):=.ip _ _ (bM w)
theorem aS4 (x:Table) (J:dP) (fx:Flat (.agg (cA x))):aB Tryz.prog 120 [.agg (cA x),.ip (aW J) 0]=some (.v (.bool (decide (x.ck=J)))):=by
 rw[cL Tryz.func120 rfl aNC rfl];refine gX ?_
 by_cases h:x.ck=J
 ·simp only[Z8,seval,h,decide_true];exact⟨_,bQ rfl (by simp only[E8,seval]<;>rfl) (by first|exact .v _|simp only[dU]),rfl⟩
 ·simp only[Z8,seval,h,decide_false];exact⟨_,bQ rfl (by simp only[E8,seval]<;>rfl) (by first|exact .v _|simp only[dU]),rfl⟩
theorem aND (x:Table) (J:dP):aB Tryz.prog 124 [.agg (cA x),.ip (aW J) 0]=some (.v (.bool (decide (x.ck.aE<J.aE)))):=by
 rw[cL Tryz.func124 rfl aNE rfl];refine gX ?_
 by_cases h:x.ck.aE<J.aE
 ·simp only[Z8,seval,h,decide_true];exact⟨_,bQ rfl (by simp only[E8,seval]<;>rfl) (by first|exact .v _|simp only[dU]),rfl⟩
 ·simp only[Z8,seval,h,decide_false];exact⟨_,bQ rfl (by simp only[E8,seval]<;>rfl) (by first|exact .v _|simp only[dU]),rfl⟩
theorem aNF (x:Block) (n:Int):aB Tryz.prog 127 [.agg (aP x),.ip (lG n) 0]=some (.v (.bool (decide (x.slot≤n)))):=by
 rw[cL Tryz.func127 rfl aNG rfl];refine gX ?_
 by_cases h:x.slot≤n
 ·simp only[Z8,seval,h,decide_true];exact⟨_,bQ rfl (by simp only[E8,seval]<;>rfl) (by first|exact .v _|simp only[dU]),rfl⟩
 ·simp only[Z8,seval,h,decide_false];exact⟨_,bQ rfl (by simp only[E8,seval]<;>rfl) (by first|exact .v _|simp only[dU]),rfl⟩
theorem aS5 (o:Option (List Table)) (hn:((ol o).length:Int)<1000000) (hB:∀y∈ol o,Flat y.iP) (J:dP):aB Tryz.prog 119 [ov aI o,.rW 120 [.ip (aW J) 0]]=some (.v (.bool (decide (0≤Jn (ol o) J)))):=by
 have h:=aF3 o hn 120 [.ip (aW J) 0] (fun x=>decide (x.ck=J)) (fun x hx st d=>bC (bE ((iG _).2 (hB x hx)) (u9 J)) (aS4 x J ((iG _).2 (hB x hx))) (.v _))
 have e:uL (fun k=>decide ((gx dZ (ol o) k).ck=J)=true) (ol o).length=Jn (ol o) J:=by
  show uL _ _=uL _ _;exact congrArg (fun p=>uL p _) (funext fun k=>decide_eq_true_eq)
 rw[e] at h;have fo:=fZ o hB
 have fc:Flat (.rW 120 [.ip (aW J) 0]):=.rW _ _ (cU (u9 J))
 have k173:=kx h (bE fo fc) (.v _)
 rw[cL Tryz.func119 rfl aNH (by cases o<;>rfl)]
 refine gX ?_
 by_cases g:0≤Jn (ol o) J
 ·simp only[Z8,seval,k173,g,decide_true];exact⟨_,bQ rfl (by simp only[E8,seval]<;>rfl) (by first|exact .v _|simp only[dU]),rfl⟩
 ·simp only[Z8,seval,k173,g,decide_false];exact⟨_,bQ rfl (by simp only[E8,seval]<;>rfl) (by first|exact .v _|simp only[dU]),rfl⟩
def H0 (s:aL) (v:SV) (c:dP):Prop:=0≤aN v.ns c.root∧(nd v.ns (aN v.ns c.root)).status≠2∧(sH s c.aE).2=0∧(nd v.ns (aN v.ns c.root)).block.slot≤(sH s c.aE).1
noncomputable def ndI (v:SV) (c:dP):Int:=if 0≤aN v.ns c.root∧(nd v.ns (aN v.ns c.root)).status≠2 then aN v.ns c.root else -1
theorem aS6 {s:aL} {v:SV} (hs:SD s v) (c:dP) (hc:Rg c.aE):aB Tryz.prog 118 [.agg (aA s),.agg (aW c)]=some (.eG [.v (.int .i64 (ndI v c)),.v (.bool (decide (H0 s v c)))]):=by
 have Ry:∀(st:St) (d:Option Nat),aM (aB Tryz.prog) 95 [.v (.int .u64 c.aE),.v (.int .u64 s.cFg.jL)] st d=some { dst:=d,val:=.eG [.v (.int .u64 (sH s c.aE).1),.v (.int .i64 (sH s c.aE).2)]}:=fun st d=>k95 hc st d
 have fr:=eQ v.ns c.root
 rw[cL Tryz.func118 rfl aNI rfl];refine gX ?_
 by_cases g1:aN v.ns c.root<0
 ·have e1:ndI v c=-1:=by unfold ndI;rw[if_neg (fun h=>by omega)]
  have e2:¬H0 s v c:=fun h=>by have:=h.1;omega
  simp only[Z8,seval,hs.tree,O3 _ _ hs.nn,g1];exact⟨_,dN rfl rfl rfl (by simp only[E8,seval]<;>rfl) (by simp only[E8,seval]<;>rfl),by rw[e1,decide_eq_false e2]⟩
 have q0:0≤aN v.ns c.root:=by omega
 by_cases g2:(nd v.ns (aN v.ns c.root)).status=2
 ·have e1:ndI v c=-1:=by unfold ndI;rw[if_neg (fun h=>h.2 g2)]
  have e2:¬H0 s v c:=fun h=>h.2.1 g2
  simp only[Z8,seval,hs.tree,O3 _ _ hs.nn,g1,q0,fr.2,bt g2];exact⟨_,dN rfl rfl rfl (by simp only[E8,seval]<;>rfl) (by simp only[E8,seval]<;>rfl),by rw[e1,decide_eq_false e2]⟩
 have e1:ndI v c=aN v.ns c.root:=by unfold ndI;rw[if_pos ⟨q0,g2⟩]
 by_cases g3:(sH s c.aE).2=0
 case neg =>
  have e2:¬H0 s v c:=fun h=>g3 h.2.2.1
  simp only[Z8,seval,hs.tree,O3 _ _ hs.nn,g1,q0,fr.2,bf g2,Ry,dE,bf g3];exact⟨_,dN rfl rfl rfl (by simp only[E8,seval]<;>rfl) (by simp only[E8,seval]<;>rfl),by rw[e1,decide_eq_false e2]⟩
 by_cases g4:(nd v.ns (aN v.ns c.root)).block.slot≤(sH s c.aE).1
 ·have e2:H0 s v c:=⟨q0,g2,g3,g4⟩
  simp only[Z8,seval,hs.tree,O3 _ _ hs.nn,g1,q0,fr.2,bf g2,Ry,dE,bt g3,g4];exact⟨_,dN rfl rfl rfl (by simp only[E8,seval]<;>rfl) (by simp only[E8,seval]<;>rfl),by rw[e1,decide_eq_true e2]⟩
 ·have e2:¬H0 s v c:=fun h=>g4 h.2.2.2
  simp only[Z8,seval,hs.tree,O3 _ _ hs.nn,g1,q0,fr.2,bf g2,Ry,dE,bt g3,g4];exact⟨_,dN rfl rfl rfl (by simp only[E8,seval]<;>rfl) (by simp only[E8,seval]<;>rfl),by rw[e1,decide_eq_false e2]⟩
theorem Ow {s:aL} {v:SV} (hs:SD s v) (c:dP) (hc:Rg c.aE) (st:St) (d:Option Nat):aM (aB Tryz.prog) 118 [.agg (aA s),.agg (aW c)] st d=some { dst:=d,val:=.eG [.v (.int .i64 (ndI v c)),.v (.bool (decide (H0 s v c)))]}:=bC (bE hs.flat (.agg _ (bM c))) (aS6 hs c hc) (.eG _ (bE (.v _) (.v _)))
theorem c66 {s:aL} {v:SV} (hs:SD s v):aB Tryz.prog 66 [.agg (aA s)]=some (.agg (dM (zT v.ns))):=by
 have hn:=hs.nn
 rw[cL Tryz.func66 rfl aS7 rfl];refine gX ?_
 simp only[Z8,seval,hs.tree];refine cC (fun m st=>∃(k:Nat) (b:Bool) (x y:dP),(st.env 2=.ptr 2 0 0∧st.heap 2 0=some (.cells (dM Ev))∧st.env 3=.ptr 3 0 0∧st.heap 3 0=some (.cells (dM ⟨x,y⟩))∧st.env 4=.v (.bool b)∧st.env 9=.sl v.ns.length (bZ v.ns)∧st.env 10=.v (.int .i64 v.ns.length)∧st.env 11=.v (.int .i64 k))∧CK (v.ns.take k)=(b,x,y)∧k≤v.ns.length∧m=v.ns.length-k)
  (fun e st=>e=.exit 0∧∃(x y:dP),(st.env 2=.ptr 2 0 0∧st.heap 2 0=some (.cells (dM Ev))∧st.env 3=.ptr 3 0 0∧st.heap 3 0=some (.cells (dM ⟨x,y⟩)))∧zT v.ns=⟨x,y⟩) v.ns.length ?step ?start ?rest
 case step =>
  rintro m st ⟨k,b,x,y,hI,hp,hk,hm⟩
  by_cases aY:(k:Int)<v.ns.length
  ·have q0:(0:Int)≤k:=by omega
   have hw:IntKind.i64.wrap ((k:Int)+1)=((k+1:Nat):Int):=by rw[mT _ (by omega) (by omega)];omega
   have rY:=Ri v.ns k (by omega)
   rw[hp] at rY;unfold CJ at rY;by_cases h1:(nd v.ns k).status=2
   ·rw[if_pos h1] at rY;apply oN (v.ns.length-(k+1))
    ·simp only[Z8,seval,hI,aY,q0,bt h1,hw];rfl
    ·exact⟨k+1,b,x,y,by simp only[E8,seval,hI],rY,by omega,rfl⟩
   rw[if_neg h1] at rY;cases b
   ·simp only[true_or,if_true] at rY;apply oN (v.ns.length-(k+1))
    ·simp only[Z8,seval,hI,aY,q0,bf h1,hw];rfl
    ·exact⟨k+1,true,_,_,by simp only[E8,seval,hI]<;>rfl,rY,by omega,rfl⟩
   ·simp only[Bool.true_eq_false,false_or] at rY;by_cases h2:x.aE<(nd v.ns k).block.cV.pj.aE
    ·rw[if_pos h2] at rY;by_cases h3:y.aE<(nd v.ns k).block.cV.pf.aE
     ·rw[if_pos h3] at rY;apply oN (v.ns.length-(k+1))
      ·simp only[Z8,seval,hI,aY,q0,bf h1,h2,h3,hw];rfl
      ·exact⟨k+1,true,_,_,by simp only[E8,seval,hI]<;>rfl,rY,by omega,rfl⟩
     ·rw[if_neg h3] at rY;apply oN (v.ns.length-(k+1))
      ·simp only[Z8,seval,hI,aY,q0,bf h1,h2,h3,hw];rfl
      ·exact⟨k+1,true,_,_,by simp only[E8,seval,hI]<;>rfl,rY,by omega,rfl⟩
    ·rw[if_neg h2] at rY;by_cases h3:y.aE<(nd v.ns k).block.cV.pf.aE
     ·rw[if_pos h3] at rY;apply oN (v.ns.length-(k+1))
      ·simp only[Z8,seval,hI,aY,q0,bf h1,h2,h3,hw];rfl
      ·exact⟨k+1,true,_,_,by simp only[E8,seval,hI]<;>rfl,rY,by omega,rfl⟩
     ·rw[if_neg h3] at rY;apply oN (v.ns.length-(k+1))
      ·simp only[Z8,seval,hI,aY,q0,bf h1,h2,h3,hw];rfl
      ·exact⟨k+1,true,_,_,by simp only[E8,seval,hI]<;>rfl,rY,by omega,rfl⟩
  ·have Aq:k=v.ns.length:=by omega
   rw[Aq,List.take_length] at hp;apply oT (.exit 0)
   ·simp only[Z8,seval,hI,aY];rfl
   ·exact⟨rfl,x,y,by simp only[E8,seval,hI],by unfold zT;rw[hp]⟩
 case start=>exact⟨0,false,fV,fV,by simp only[E8,seval]<;>rfl,rfl,by omega,by omega⟩
 case rest =>
  rintro e st ⟨rfl,x,y,hI,hp⟩
  simp only[Z8,seval,hI];exact⟨_,fJ rfl (by simp only[E8,seval,hI]<;>rfl) (by simp only[Z8,seval,hI]<;>rfl) (by simp only[dU,and_self,hI]),by rw[hp]⟩
theorem k66 {s:aL} {v:SV} (hs:SD s v) (st:St) (d:Option Nat):aM (aB Tryz.prog) 66 [.agg (aA s)] st d=some { dst:=d,val:=.agg (dM (zT v.ns))}:=bC (cU hs.flat) (c66 hs) (.agg _ (yH _))
def okC (s:aL) (v:SV) (J F:dP):Prop:=H0 s v F∧H0 s v J∧tV v.ns (aN v.ns F.root) (aN v.ns J.root)=true∧F.aE≤J.aE∧J.aE≤wH s s.now∧0≤Jn (ol v.T) J
theorem v7 {s:aL} {v:SV} (h:1≤s.cFg.jL∧s.cFg.jL≤64) (hx:Rg s.now) {J F:dP} (hJ:Rg J.aE) (hF:Rg F.aE):okC s v J F↔¬jZ s v J F:=by
 have key:∀c:dP,Rg c.aE→c.aE≤wH s s.now→(sH s c.aE).2=0:=fun c hc hle=>by rw[(VS h hc.1 hle hx).1]
 unfold okC H0 jZ HH;constructor
 ·rintro⟨⟨f1,f2,f3,f4⟩,⟨j1,j2,j3,j4⟩,a,b,c,d⟩ hb
  rcases hb with h|h|h|h|h|h|h|h|h|h
  ·omega
  ·omega
  ·exact j2 h
  ·exact f2 h
  ·exact h (.inr j4)
  ·exact h (.inr f4)
  ·rw[h] at a;cases a
  ·omega
  ·omega
  ·omega
 ·intro hb;simp only[not_or,Classical.not_not,Int.not_lt,Bool.not_eq_false] at hb;obtain⟨h1,h2,h3,h4,h5,h6,h7,h8,h9,h10⟩:=hb
  have hJ0:=key J hJ h9
  have hF0:=key F hF (by omega)
  exact⟨⟨h2,h4,hF0,Classical.byContradiction fun e=>h6 ⟨hF0,e⟩⟩,⟨h1,h3,hJ0,Classical.byContradiction fun e=>h5 ⟨hJ0,e⟩⟩,h7,h8,h9,h10⟩
theorem Z3 {s:aL} {v:SV} {c:dP} (h:H0 s v c):ndI v c=aN v.ns c.root:=by unfold ndI;rw[if_pos ⟨h.1,h.2.1⟩]
theorem c58 {s:aL} {v:SV} (hs:SD s v) (hu:gL v.ns) (hp:1≤s.cFg.jL∧s.cFg.jL≤64) (hx:Rg s.now) (hj:Rg s.aU.gD.aE) (Tw:Rg s.aU.fin.aE) (c1 c2:dP) (h1:Rg c1.aE) (h2:Rg c2.aE):aB Tryz.prog 58 [.agg (aA s),.agg (aW c1),.agg (aW c2)]=some (Ke s v c1 c2):=by
 have hf:=hs.flat
 have hB:=fun y hy=>(hs.tB y hy).fl
 have fo:=fZ v.T hB
 have rJ:Rg (rP s c1).aE:=by unfold rP;split<;>assumption
 have rF:Rg (tW s c2).aE:=by unfold tW;split<;>assumption
 have VV:∀(args:List AV) (st:St) (d:Option Nat),aM (aB Tryz.prog) 119 args st d=uD (aB Tryz.prog) 119 (cP (args.map (fO st))) (decide (∀x∈args,Flat x)) st d:=fun args st d=>jU _ _ _ _ _
 have VW:∀(J:dP) (fl:Bool) (st:St) (d:Option Nat),uD (aB Tryz.prog) 119 (some [ov aI v.T,.rW 120 [.ip (aW J) 0]]) fl st d=some { dst:=d,val:=.v (.bool (decide (0≤Jn (ol v.T) J)))}:=fun J fl st d=>Rc (aS5 v.T hs.nT hB J)
 have eV:∀(J:dP) (st:St) (o:Nat),Tq st (some (.cells (aW J))) o=some (.ip (aW J) o):=fun J st o=>sY st (bM J) o
 have eT:∀st:St,fO st (ov aI v.T)=some (ov aI v.T):=fun st=>eC fo
 have VX:=fun x=>k94 (s:=s) hp x
 rw[cG Tryz.func58 rfl aS9 (by kernel_rfl) rfl]
 refine gX ?_
 obtain⟨J,eJ⟩:∃J,rP s c1=J:=⟨_,rfl⟩
 obtain⟨F,eF⟩:∃F,tW s c2=F:=⟨_,rfl⟩
 have aHr:=v7 (v:=v) hp hx rJ rF
 unfold Ke;rw[eJ,eF] at aHr ⊢;rw[eJ] at rJ;rw[eF] at rF;have nb:¬okC s v J F→jZ s v J F:=fun h=>Classical.byContradiction fun e=>h (aHr.2 e)
 simp only[ZG,seval,Bool.false_and,Prod.mk.injEq,II,lD,lE];refine Wb (fun a=>a.1=.normal∧a.2.env 3=.ptr 3 0 0∧a.2.heap 3 0=some (.cells (aA s))∧a.2.env 5=.ptr 5 0 0∧a.2.heap 5 0=some (.cells (aW c2))∧a.2.env 6=.ptr 6 0 0∧a.2.heap 6 0=some (.cells (aW J))∧a.2.env 7=.ptr 7 0 0∧a.2.heap 7 0=some (.cells (aW s.aU.fin))) ?m1 ?r1
 case m1 =>
  unfold rP at eJ;by_cases a1:s.aU.gD.aE<c1.aE
  ·rw[if_pos a1] at eJ;simp only[a1,decide_true,if_true];exact⟨_,rfl,rfl,by simp only[E8,seval,eJ]⟩
  ·rw[if_neg a1] at eJ;simp only[a1,decide_false,Bool.false_eq_true,if_false];exact⟨_,rfl,rfl,by simp only[E8,seval,eJ]⟩
 case r1 =>
  rintro⟨_,st⟩ ⟨rfl,hI⟩
  dsimp only at hI
  simp only[ZG,seval,Bool.false_and,Prod.mk.injEq,II,lD,lE,hI];refine Wb (fun a=>a.1=.normal∧a.2.env 3=.ptr 3 0 0∧a.2.heap 3 0=some (.cells (aA s))∧a.2.env 6=.ptr 6 0 0∧a.2.heap 6 0=some (.cells (aW J))∧a.2.env 7=.ptr 7 0 0∧a.2.heap 7 0=some (.cells (aW F))) ?m2 ?r2
  case m2 =>
   unfold tW at eF;by_cases a2:s.aU.fin.aE<c2.aE
   ·rw[if_pos a2] at eF;simp only[a2,decide_true,if_true];exact⟨_,rfl,rfl,by simp only[E8,seval,hI,eF]⟩
   ·rw[if_neg a2] at eF;simp only[a2,decide_false,Bool.false_eq_true,if_false];exact⟨_,rfl,rfl,by simp only[E8,seval,hI,eF]⟩
  case r2 =>
   rintro⟨_,st⟩ ⟨rfl,hJ⟩
   dsimp only at hJ
   by_cases g1:¬H0 s v F
   ·simp only[ZG,seval,Bool.false_and,Prod.mk.injEq,II,lD,lE,hJ,Ow hs _ rJ,Ow hs _ rF,hs.tree,hs.tables,VV,eT,oK,eV,VW,dE,VX,UD _ hu,decide_true,decide_false,g1];exact⟨_,by apply fM;rfl;all_goals simp only[aH,bY,Z8,seval,hJ]<;>rfl,by rw[if_pos (nb (fun h=>by obtain⟨u1,u2,u3,u4,u5,u6⟩:=h;first|exact absurd u1 (by assumption)|exact absurd u2 (by assumption)|omega|exact absurd (u3.symm.trans g3) (by decide)))]⟩
   replace g1:=Classical.not_not.1 g1
   by_cases g2:¬H0 s v J
   ·simp only[ZG,seval,Bool.false_and,Prod.mk.injEq,II,lD,lE,hJ,Ow hs _ rJ,Ow hs _ rF,hs.tree,hs.tables,VV,eT,oK,eV,VW,dE,VX,UD _ hu,decide_true,decide_false,g1,g2];exact⟨_,by apply fM;rfl;all_goals simp only[aH,bY,Z8,seval,hJ]<;>rfl,by rw[if_pos (nb (fun h=>by obtain⟨u1,u2,u3,u4,u5,u6⟩:=h;first|exact absurd u1 (by assumption)|exact absurd u2 (by assumption)|omega|exact absurd (u3.symm.trans g3) (by decide)))]⟩
   replace g2:=Classical.not_not.1 g2
   have e1:=Z3 g1
   have e2:=Z3 g2
   by_cases g3:tV v.ns (aN v.ns F.root) (aN v.ns J.root)=false
   ·simp only[ZG,seval,Bool.false_and,Prod.mk.injEq,II,lD,lE,hJ,Ow hs _ rJ,Ow hs _ rF,hs.tree,hs.tables,VV,eT,oK,eV,VW,dE,VX,UD _ hu,decide_true,decide_false,g1,g2,e1,e2,g3];exact⟨_,by apply fM;rfl;all_goals simp only[aH,bY,Z8,seval,hJ]<;>rfl,by rw[if_pos (nb (fun h=>by obtain⟨u1,u2,u3,u4,u5,u6⟩:=h;first|exact absurd u1 (by assumption)|exact absurd u2 (by assumption)|omega|exact absurd (u3.symm.trans g3) (by decide)))]⟩
   replace g3:=(by simpa using g3:tV v.ns _ _=true)
   by_cases g4:J.aE<F.aE
   ·simp only[ZG,seval,Bool.false_and,Prod.mk.injEq,II,lD,lE,hJ,Ow hs _ rJ,Ow hs _ rF,hs.tree,hs.tables,VV,eT,oK,eV,VW,dE,VX,UD _ hu,decide_true,decide_false,g1,g2,e1,e2,g3,g3,g4];exact⟨_,by apply fM;rfl;all_goals simp only[aH,bY,Z8,seval,hJ]<;>rfl,by rw[if_pos (nb (fun h=>by obtain⟨u1,u2,u3,u4,u5,u6⟩:=h;first|exact absurd u1 (by assumption)|exact absurd u2 (by assumption)|omega|exact absurd (u3.symm.trans g3) (by decide)))]⟩
   by_cases g5:wH s s.now<J.aE
   ·simp only[ZG,seval,Bool.false_and,Prod.mk.injEq,II,lD,lE,hJ,Ow hs _ rJ,Ow hs _ rF,hs.tree,hs.tables,VV,eT,oK,eV,VW,dE,VX,UD _ hu,decide_true,decide_false,g1,g2,e1,e2,g3,g3,g4,g5];exact⟨_,by apply fM;rfl;all_goals simp only[aH,bY,Z8,seval,hJ]<;>rfl,by rw[if_pos (nb (fun h=>by obtain⟨u1,u2,u3,u4,u5,u6⟩:=h;first|exact absurd u1 (by assumption)|exact absurd u2 (by assumption)|omega|exact absurd (u3.symm.trans g3) (by decide)))]⟩
   by_cases g6:¬0≤Jn (ol v.T) J
   ·simp only[ZG,seval,Bool.false_and,Prod.mk.injEq,II,lD,lE,hJ,Ow hs _ rJ,Ow hs _ rF,hs.tree,hs.tables,VV,eT,oK,eV,VW,dE,VX,UD _ hu,decide_true,decide_false,g1,g2,e1,e2,g3,g3,g4,g5,g6];exact⟨_,by apply fM;rfl;all_goals simp only[aH,bY,Z8,seval,hJ]<;>rfl,by rw[if_pos (nb (fun h=>by obtain⟨u1,u2,u3,u4,u5,u6⟩:=h;first|exact absurd u1 (by assumption)|exact absurd u2 (by assumption)|omega|exact absurd (u3.symm.trans g3) (by decide)))]⟩
   replace g6:=Classical.not_not.1 g6
   simp only[ZG,seval,Bool.false_and,Prod.mk.injEq,II,lD,lE,hJ,Ow hs _ rJ,Ow hs _ rF,hs.tree,hs.tables,VV,eT,oK,eV,VW,dE,VX,UD _ hu,decide_true,decide_false,g1,g2,e1,e2,g3,g3,g4,g5,g6];exact⟨_,by apply fM;rfl;all_goals simp only[aH,bY,Z8,seval,hJ]<;>rfl,by rw[if_neg (aHr.1 ⟨g1,g2,g3,by omega,by omega,by omega⟩)]⟩
theorem k58 {s:aL} {v:SV} (hs:SD s v) (hu:gL v.ns) (hp:1≤s.cFg.jL∧s.cFg.jL≤64) (hx:Rg s.now) (hj:Rg s.aU.gD.aE) (Tw:Rg s.aU.fin.aE) (c1 c2:dP) (h1:Rg c1.aE) (h2:Rg c2.aE) (st:St) (d:Option Nat):aM (aB Tryz.prog) 58 [.agg (aA s),.agg (aW c1),.agg (aW c2)] st d=some { dst:=d,val:=Ke s v c1 c2 }:=bC (lM hs.flat (.agg _ (bM c1)) (.agg _ (bM c2))) (c58 hs hu hp hx hj Tw c1 c2 h1 h2) (by unfold Ke;split<;>exact .eG _ (lM (.agg _ (bM _)) (.agg _ (bM _)) (.v _)))
def Aw (s g:Nat) (st st':St):Prop:=(∀x h,h<st.aT x→¬(x=s∧h=g)→st'.heap x h=st.heap x h)∧∀x,st.aT x≤st'.aT x
theorem Aw.refl (s g:Nat) (st:St):Aw s g st st:=⟨fun _ _ _ _=>rfl,fun _=>Nat.le_refl _⟩
theorem Ds:aD 0 1 (some 4)=[]∧aD 1 4 (some 8)=[]∧aD 2 2 (some 11)=[]∧aD 3 2 (some 13)=[]∧aD 4 3 (some 14)=[]∧aD 5 4 (some 16)=[]∧aD 6 3 (some 20)=[]∧aD 7 6 (some 22)=[]∧aD 8 4 (some 26)=[]∧aD 9 5 (some 30)=[]∧aD 10 3 (some 34)=[]∧aD 11 4 (some 36)=[]∧aD 12 4 (some 39)=[]:=⟨rfl,rfl,rfl,rfl,rfl,rfl,rfl,rfl,rfl,rfl,rfl,rfl,rfl⟩
structure KOk (K:St→Prop) (s g e sz:Nat) (cs:Nat→List AV→Prop):Prop where
 put:∀st d v,K (St.put st d v)=K st
 new:∀st x,K (St.new st 7 x)=K st
 set:∀st h x,K (St.jB st 7 h x)=K st
 back:∀a st,K (St.back a st)=K st
 row:∀st n C,cs n C→K st→K (St.jB st s g (some (.row e sz n C)))
theorem GF {α:Type} {p:α→Bool} {l:List α} (h:∀j:Nat,j<l.length→∀hj:j<l.length,¬p l[j]=true):l.filter (fun x=>!p x)=l:=by
 refine List.filter_eq_self.2 fun x hx=>?_
 obtain⟨i,hi,rfl⟩:=List.getElem_of_mem hx
 simpa using h i hi hi
theorem Yx {α:Type} {p:α→Bool} {l:List α} {k:Nat} (hk:k<l.length) (hp:p l[k]=true) (h:∀j:Nat,j<k→∀hj:j<l.length,¬p l[j]=true):(l.take (k+1)).filter (fun x=>!p x)=l.take k:=by
 rw[List.take_succ_eq_append_getElem hk,List.filter_append];have h1:(l.take k).filter (fun x=>!p x)=l.take k:=by
  refine List.filter_eq_self.2 fun x hx=>?_
  obtain⟨i,hi,rfl⟩:=List.getElem_of_mem hx
  rw[List.length_take] at hi;rw[List.getElem_take];simpa using h i (by omega) (by omega)
 simp[h1,hp]
theorem GG {α:Type} {q:α→Bool} {l:List α} {k:Nat} (hk:k<l.length):(l.take (k+1)).filter q=(l.take k).filter q++(if q l[k]=true then [l[k]] else []):=by
 rw[List.take_succ_eq_append_getElem hk,List.filter_append];congr 1
 by_cases h:q l[k]=true<;>simp[h]
theorem v8 {α:Type} {p:α→Bool} {l:List α} {k:Nat} (hk:k<l.length) (hp:p l[k]=true):(l.filter (fun x=>!p x)).length<l.length:=by
 rcases Nat.lt_or_ge (l.filter (fun x=>!p x)).length l.length with h|h
 ·exact h
 ·have h2:=List.Sublist.eq_of_length_le (List.filter_sublist (p:=fun x=>!p x) (l:=l)) h
  have h3:=(List.filter_eq_self.1 h2) _ (List.getElem_mem hk)
  simp[hp] at h3
theorem v9 {α:Type} {z:α} {M L:List α} {j:Nat} (h:M.drop j=L.drop j):gx z M (j:Int)=gx z L (j:Int):=by
 have h1:(M.drop j)[0]? = (L.drop j)[0]?:=by rw[h]
 rw[List.getElem?_drop,List.getElem?_drop,Nat.add_zero] at h1;unfold gx;rw[Int.toNat_natCast,List.getD_eq_getElem?_getD,List.getD_eq_getElem?_getD,h1]
theorem yK {α:Type} {M L:List α} {j:Nat} (h:M.drop j=L.drop j):M.drop (j+1)=L.drop (j+1):=by
 have:=congrArg (List.drop 1) h
 rwa [List.drop_drop,List.drop_drop] at this
theorem Hy {α:Type} {z:α} {l:List α} {j:Nat} (h:j<l.length):gx z l (j:Int)=l[j]:=by
 unfold gx;rw[Int.toNat_natCast,List.getD_eq_getElem?_getD,List.getElem?_eq_getElem h];rfl
theorem OS {α:Type} {M:List α} {k:Nat} (hk:k<M.length) (x:α):(M.set k x).take (k+1)=M.take k++[x]:=by
 rw[List.take_succ_eq_append_getElem (by rw[List.length_set];exact hk),List.take_set_of_le (Nat.le_refl _),List.getElem_set_self]
theorem set_drop {α:Type} {M:List α} {k j:Nat} (h:k<j) (x:α):(M.set k x).drop j=M.drop j:=by
 rw[List.drop_set_of_lt h]
theorem aHs (L:List Table) (hn:(L.length:Int)<1000000) (hFl:∀y∈L,Flat y.iP) (p:Table→Bool) (F s g a b:Nat) (h7:s≠7) (K:St→Prop) (hK:KOk K s g 118 34 (fun n C=>∃M:List Table,n=M.length∧M.length=L.length∧C=aI M∧(∀y∈M,Flat y.iP)))
 (zK:∀x∈L,∀(st:St) (d:Option Nat),K st→aM (aB Tryz.prog) F ([.agg (cA x)]++[.ptr a b 0]) st d=some { dst:=d,val:=.v (.bool (p x))})
 (ZY:∀(st:St) (d:Option Nat),K st→st.heap s g=some (.row 118 34 L.length (aI L))→aM (aB Tryz.prog) 173 [.own s g,.rW F [.ptr a b 0]] st d=some { dst:=d,val:=.v (.int .i64 (uL (fun k=>p (gx dZ L k)=true) L.length))})
 (Ox:St) (qC:K Ox) (hg:g<Ox.aT s) (hh:Ox.heap s g=some (.row 118 34 L.length (aI L))) :
 ∃st',if L.filter (fun x=>!p x)=L then pT Tryz.prog 123 [.own s g,.rW F [.ptr a b 0]] Ox=some (.own s g,st')∧Aw s g Ox st'∧st'.heap s g=some (.row 118 34 L.length (aI L)) else
  pT Tryz.prog 123 [.own s g,.rW F [.ptr a b 0]] Ox=some (.vw s g 0 (L.filter (fun x=>!p x)).length,st')∧Aw s g Ox st'∧∃Z,(∀c∈Z,Flat c)∧((aI (L.filter (fun x=>!p x)))++Z).length=L.length * 34∧st'.heap s g=some (.row 118 34 L.length (aI (L.filter (fun x=>!p x))++Z)):=by
 have OT:=hK.put
 have VY:=hK.new
 have VZ:=hK.set
 have hKb:=hK.back
 have s7:(s=7)=False:=eq_false h7
 have s7':(7=s)=False:=eq_false (fun e=>h7 e.symm)
 rcases rD (fun k=>p (gx dZ L k)=true) L.length with ⟨e,hj⟩|⟨k,hk,hp,hj,e⟩
 ·have hf:L.filter (fun x=>!p x)=L:=GF fun j h1 h2=>by have:=hj j h1;rwa [Hy h2] at this
  rw[e] at ZY;suffices h:∃r:AV × St,pT Tryz.prog 123 [.own s g,.rW F [.ptr a b 0]] Ox=some r∧r.1=.own s g∧Aw s g Ox r.2∧r.2.heap s g=some (.row 118 34 L.length (aI L)) by
   obtain⟨⟨x,st'⟩,h1,h2,h3,h4⟩:=h
   obtain rfl:x=.own s g:=h2
   exact⟨st',by rw[if_pos hf];exact⟨h1,h3,h4⟩⟩
  rw[Bq Tryz.prog Tryz.func123 rfl (by kernel_rfl)]
  simp only[ZG,seval,Bool.false_and,Prod.mk.injEq,Ds,bU,aV,OT,VY,VZ,hKb,qC,hh,ZY];refine⟨_,wZ (P:=Tryz.prog) (fn:=Tryz.f123) (r:=.tmp 4) (x:=.own s g) (.inl rfl) rfl ?h1,rfl,⟨fun y h h1 h2=>?h2,fun y=>?h3⟩, ?h4⟩
  case h1=>rw[rM];simp only[bY,E8,seval]
  case h2=>simp only[E8,seval,aV,aZ]
  case h3=>simp only[E8,seval,aV,aZ];exact Nat.le_refl _
  case h4=>simp only[E8,seval,aV,aZ,hh]
 ·have aY:=v8 (p:=p) hk (by have:=hp;rwa [Hy hk] at this)
  have hf:¬L.filter (fun x=>!p x)=L:=fun e=>by rw[e] at aY;omega
  rw[e] at ZY;suffices h:∃r:AV × St,pT Tryz.prog 123 [.own s g,.rW F [.ptr a b 0]] Ox=some r∧r.1=.vw s g 0 (L.filter (fun x=>!p x)).length∧Aw s g Ox r.2∧∃Z,(∀c∈Z,Flat c)∧((aI (L.filter (fun x=>!p x)))++Z).length=L.length * 34∧r.2.heap s g=some (.row 118 34 L.length (aI (L.filter (fun x=>!p x))++Z)) by
   obtain⟨⟨x,st'⟩,h1,h2,h3⟩:=h
   obtain rfl:x=.vw s g 0 (L.filter (fun x=>!p x)).length:=h2
   exact⟨st',by rw[if_neg hf];exact⟨h1,h3⟩⟩
  have H2:¬(k:Int)=-1:=by omega
  have hw0:IntKind.i64.wrap ((k:Int)+1)=((k+1:Nat):Int):=by rw[mT _ (by omega) (by omega)];omega
  rw[Bq Tryz.prog Tryz.func123 rfl (by kernel_rfl)]
  simp only[ZG,seval,Bool.false_and,Prod.mk.injEq,Ds,bU,aV,OT,VY,VZ,hKb,qC,hh,ZY,bf H2,hw0];refine jH (fun m st=>∃(j k':Nat) (M:List Table),((st.env 0=.own s g∧st.env 1=.rW F [.ptr a b 0]∧st.env 5=.v (.int .i64 (k':Nat))∧st.heap s g=some (.row 118 34 M.length (aI M))∧K st)∧st.env 6=.v (.int .i64 (j:Nat)))∧Aw s g Ox st∧M.length=L.length∧(∀y∈M,Flat y.iP)∧M.take k'=(L.take j).filter (fun x=>!p x)∧k'=((L.take j).filter (fun x=>!p x)).length∧M.drop j=L.drop j∧k'<j∧j≤L.length∧m=L.length-j)
   (fun e st=>e=.exit 0∧∃(k':Nat) (M:List Table),((st.env 0=.own s g∧st.env 1=.rW F [.ptr a b 0]∧st.env 5=.v (.int .i64 (k':Nat))∧st.heap s g=some (.row 118 34 M.length (aI M))∧K st))∧Aw s g Ox st∧M.length=L.length∧(∀y∈M,Flat y.iP)∧M.take k'=L.filter (fun x=>!p x)∧k'=(L.filter (fun x=>!p x)).length) (L.length-(k+1)) ?step ?start ?rest
  case step =>
   rintro m st ⟨j,k',M,hI,hF,hM,hMf,hT,Yy,hD,hkj,O6,hm⟩
   by_cases Dc:(j:Int)<M.length
   case neg =>
    have hjn:j=L.length:=by omega
    subst hjn;rw[List.take_length] at hT Yy
    apply BZ (.exit 0)
    ·simp only[ZG,seval,Bool.false_and,Prod.mk.injEq,Ds,hI,Dc];rfl
    ·exact⟨rfl,k',M,by simp only[E8,seval,OT,hI],⟨fun y h h1 h2=>by simp only[E8,seval];exact hF.1 y h h1 h2,fun y=>by simp only[E8,seval];exact hF.2 y⟩,hM,hMf,hT,Yy⟩
   have hjL:j<L.length:=by omega
   have q0:(0:Int)≤j:=by omega
   have q1:(0:Int)≤k':=by omega
   have q2:(k':Int)<M.length:=by omega
   have q3:(k':Int).toNat<M.length:=by omega
   have hwj:IntKind.i64.wrap ((j:Int)+1)=((j+1:Nat):Int):=by rw[mT _ (by omega) (by omega)];omega
   have hwk:IntKind.i64.wrap ((k':Int)+1)=((k'+1:Nat):Int):=by rw[mT _ (by omega) (by omega)];omega
   have hx:=v9 (z:=dZ) hD
   have hxe:=Hy (z:=dZ) hjL
   obtain⟨x,hxx⟩:∃x,L[j]=x:=⟨_,rfl⟩
   rw[hxe,hxx] at hx;have hxm:x∈L:=by rw[← hxx];exact List.getElem_mem _
   have kc:=zK x hxm
   have TJ:rE Tryz.prog 118 (some (.row 118 34 M.length (aI M))) ((j:Int).toNat * 34)=fB Tryz.prog 118 (cA x) 0:=by rw[OU (k:=34) q0 Dc aF5 (by decide) (by decide),hx]
   have LW:=GG (q:=fun x=>!p x) hjL
   rw[hxx] at LW;have q4:(k':Int).toNat * 34+34≤M.length * 34:=by omega
   have Z4:∀nI:St,K nI→K (St.jB nI s g (some (.row 118 34 M.length (aI (M.set k' x))))):=fun nI=>hK.row nI _ _ ⟨M.set k' x,by rw[List.length_set],by rw[List.length_set];exact hM,rfl,fun y hy=>(List.mem_or_eq_of_mem_set hy).elim (hMf y) fun e=>by rw[e];exact hFl x hxm⟩
   by_cases TE:p x=true
   ·rw[TE] at kc;simp only[TE,Bool.not_true,Bool.false_eq_true,if_false,List.append_nil] at LW;apply Au (L.length-(j+1))
    ·simp only[ZG,seval,Bool.false_and,Prod.mk.injEq,Ds,hI,OT,VY,VZ,Dc,q0,TJ,kc,hwj,s7,s7'];rfl
    ·exact⟨j+1,k',M,by simp only[E8,seval,hI,OT,VY,VZ,s7,s7'],⟨fun y h h1 h2=>by
      have n7:(y=7∧h=st.aT 7)=False:=eq_false (by rintro⟨rfl,rfl⟩;have:=hF.2 7;omega)
      have ng:(y=s∧h=g)=False:=eq_false h2
      simp only[E8,seval,n7,ng,if_false];exact hF.1 y h h1 h2,fun y=>by
      have:=hF.2 y
      simp only[E8,seval];split<;>(try subst_vars)<;>omega⟩,hM,hMf,by rw[LW];exact hT,by rw[LW];exact Yy,yK hD,by omega,by omega,rfl⟩
   ·have hp2:p x=false:=by simpa using TE
    rw[hp2] at kc;simp only[hp2,Bool.not_false,if_true] at LW;apply Au (L.length-(j+1))
    ·simp only[ZG,seval,Bool.false_and,Prod.mk.injEq,Ds,hI,OT,VY,VZ,Dc,q0,q1,q2,q3,q4,TJ,kc,hwj,hwk,s7,s7'];rfl
    ·exact⟨j+1,k'+1,M.set k' x,by simp only[E8,seval,hI,OT,VY,VZ,s7,s7',Z4,List.length_set,Int.toNat_natCast],⟨fun y h h1 h2=>by
      have n7:(y=7∧h=st.aT 7)=False:=eq_false (by rintro⟨rfl,rfl⟩;have:=hF.2 7;omega)
      have ng:(y=s∧h=g)=False:=eq_false h2
      simp only[E8,seval,n7,ng,if_false];exact hF.1 y h h1 h2,fun y=>by
      have:=hF.2 y
      simp only[E8,seval];split<;>(try subst_vars)<;>omega⟩,by rw[List.length_set];exact hM,fun y hy=>(List.mem_or_eq_of_mem_set hy).elim (hMf y) fun e=>by rw[e];exact hFl x hxm,by rw[OS (by omega),hT,LW],by rw[LW,List.length_append,← Yy];rfl,by rw[set_drop (by omega)];exact yK hD,by omega,by omega,rfl⟩
  case start =>
   have ff:=Yx (p:=p) hk (by have:=hp;rwa [Hy hk] at this) (fun j h1 h2=>by have:=hj j h1;rwa [Hy h2] at this)
   exact⟨k+1,k,L,by simp only[E8,seval,bU,aV,OT,VY,VZ,hKb,qC,hh],⟨fun y h h1 h2=>by simp only[E8,seval,aV],fun y=>by simp only[E8,seval,aZ];exact Nat.le_refl _⟩,rfl,hFl,ff.symm,by rw[ff,List.length_take];omega,rfl,by omega,by omega,rfl⟩
  case rest =>
   rintro e st ⟨rfl,k',M,hI,hF,hM,hMf,hT,Yy⟩
   have Aq:k'<M.length:=by omega
   have sv:∀(st:St) (lo:Operand),st.heap s g=some (.row 118 34 M.length (aI M))→st.ev lo=.v (.int .i64 k')→dB Tryz.prog st 51 (.own s g) (some lo) none=some (.vw s g (k' * 34) (M.length-k')):=fun st lo hh he=>by
    have h1:¬((k':Int)=M.length∧¬((k':Int)=0∧0<M.length)):=by omega
    have h2:(0:Int)≤k'∧(k':Int)≤M.length:=by omega
    have h3:((M.length:Int)-(k':Int)).toNat=M.length-k':=by omega
    simp only[dB,Sa,hh,he,if_neg h1,h2,h3,Int.le_refl,and_self,if_true,Int.toNat_natCast]
   obtain⟨Z,cl,hZ,hZl⟩:∃Z,(∀st:St,st.heap s g=some (.row 118 34 M.length (aI M))→sE Tryz.prog st 51 (.vw s g (k' * 34) (M.length-k'))=some (some (s,g,.row 118 34 M.length (aI (M.take k')++Z))))∧(∀c∈Z,Flat c)∧Z.length=(M.length-k') * 34:=by
    refine⟨(List.range (M.length-k')).flatMap fun _=>Mh.map AV.v,fun st hh=>?_,fun c hc=>?_, ?_⟩
    ·have hc:k' * 34+(M.length-k') * 34≤(aI M).length:=by rw[xD];omega
     simp only[sE,Sa,Z5,hh];rw[if_pos ⟨trivial,trivial,hc⟩];have hd:(aI M).drop (k' * 34+(M.length-k') * 34)=[]:=List.drop_of_length_le (by rw[xD];omega)
     rw[hd,List.append_nil];congr 5
     exact congrArg (· ++ _) (wI (c:=cA) (sz:=34) eN M k')
    ·obtain⟨_,_,hc⟩:=List.mem_flatMap.1 hc
     obtain⟨x,_,rfl⟩:=List.mem_map.1 hc
     exact .v x
    ·have hv:(Mh.map AV.v).length=34:=by kernel_rfl
     generalize M.length-k'=m
     induction m with
     | zero=>rfl
     | succ m ih=>rw[List.range_succ,List.flatMap_append,List.length_append,ih];simp only[List.flatMap_cons,List.flatMap_nil,List.append_nil,hv];omega
   have sv2:∀(st:St) (hi:Operand),st.heap s g=some (.row 118 34 M.length (aI (M.take k')++Z))→st.ev hi=.v (.int .i64 k')→dB Tryz.prog st 51 (.own s g) none (some hi)=some (.vw s g 0 k'):=fun st hi hh he=>by
    have h1:¬((0:Int)=k'∧¬((0:Int)=0∧0<M.length)):=by omega
    have h2:(0:Int)≤k'∧(k':Int)≤M.length:=by omega
    simp only[dB,Sa,hh,he,if_neg h1,h2,Int.le_refl,and_self,if_true];simp
    intro h3 h4;rw[h4] at Aq;simp at Aq
   simp only[ZG,seval,Bool.false_and,Prod.mk.injEq,Ds,hI,sv,cl,sv2,OV];refine⟨_,wZ (P:=Tryz.prog) (fn:=Tryz.f123) (r:=.tmp 4) (x:=.vw s g 0 k') (.inl rfl) rfl ?h1,by rw[Yy],⟨fun y h h1 h2=>?h2,fun y=>?h3⟩,Z,hZ, ?h4, ?h5⟩
   case h1=>rw[rM];simp only[bY,E8,seval]
   case h2 =>
    have ng:(y=s∧h=g)=False:=eq_false h2
    simp only[E8,seval,ng,if_false];exact hF.1 y h h1 h2
   case h3=>simp only[E8,seval];exact hF.2 y
   case h4=>rw[List.length_append,xD,hZl,← Yy,hM,← Nat.add_mul];congr 1;omega
   case h5=>simp only[E8,seval,hT,hM]
theorem aHv (L:List Block) (hn:(L.length:Int)<1000000) (p:Block→Bool) (F s g a b:Nat) (h7:s≠7) (K:St→Prop) (hK:KOk K s g 74 238 (fun n C=>∃M:List Block,n=M.length∧M.length=L.length∧C=aG M))
 (zK:∀x∈L,∀(st:St) (d:Option Nat),K st→aM (aB Tryz.prog) F ([.agg (aP x)]++[.ptr a b 0]) st d=some { dst:=d,val:=.v (.bool (p x))})
 (ZY:∀(st:St) (d:Option Nat),K st→st.heap s g=some (.row 74 238 L.length (aG L))→aM (aB Tryz.prog) 171 [.own s g,.rW F [.ptr a b 0]] st d=some { dst:=d,val:=.v (.int .i64 (uL (fun k=>p (gx eA L k)=true) L.length))})
 (Ox:St) (qC:K Ox) (hg:g<Ox.aT s) (hh:Ox.heap s g=some (.row 74 238 L.length (aG L))) :
 ∃st',if L.filter (fun x=>!p x)=L then pT Tryz.prog 126 [.own s g,.rW F [.ptr a b 0]] Ox=some (.own s g,st')∧Aw s g Ox st'∧st'.heap s g=some (.row 74 238 L.length (aG L)) else
  pT Tryz.prog 126 [.own s g,.rW F [.ptr a b 0]] Ox=some (.vw s g 0 (L.filter (fun x=>!p x)).length,st')∧Aw s g Ox st'∧∃Z,(∀c∈Z,Flat c)∧((aG (L.filter (fun x=>!p x)))++Z).length=L.length * 238∧st'.heap s g=some (.row 74 238 L.length (aG (L.filter (fun x=>!p x))++Z)):=by
 have OT:=hK.put
 have VY:=hK.new
 have VZ:=hK.set
 have hKb:=hK.back
 have s7:(s=7)=False:=eq_false h7
 have s7':(7=s)=False:=eq_false (fun e=>h7 e.symm)
 rcases rD (fun k=>p (gx eA L k)=true) L.length with ⟨e,hj⟩|⟨k,hk,hp,hj,e⟩
 ·have hf:L.filter (fun x=>!p x)=L:=GF fun j h1 h2=>by have:=hj j h1;rwa [Hy h2] at this
  rw[e] at ZY;suffices h:∃r:AV × St,pT Tryz.prog 126 [.own s g,.rW F [.ptr a b 0]] Ox=some r∧r.1=.own s g∧Aw s g Ox r.2∧r.2.heap s g=some (.row 74 238 L.length (aG L)) by
   obtain⟨⟨x,st'⟩,h1,h2,h3,h4⟩:=h
   obtain rfl:x=.own s g:=h2
   exact⟨st',by rw[if_pos hf];exact⟨h1,h3,h4⟩⟩
  rw[Bq Tryz.prog Tryz.func126 rfl (by kernel_rfl)]
  simp only[ZG,seval,Bool.false_and,Prod.mk.injEq,Ds,bU,aV,OT,VY,VZ,hKb,qC,hh,ZY];refine⟨_,wZ (P:=Tryz.prog) (fn:=Tryz.f126) (r:=.tmp 4) (x:=.own s g) (.inl rfl) rfl ?h1,rfl,⟨fun y h h1 h2=>?h2,fun y=>?h3⟩, ?h4⟩
  case h1=>rw[rM];simp only[bY,E8,seval]
  case h2=>simp only[E8,seval,aV,aZ]
  case h3=>simp only[E8,seval,aV,aZ];exact Nat.le_refl _
  case h4=>simp only[E8,seval,aV,aZ,hh]
 ·have aY:=v8 (p:=p) hk (by have:=hp;rwa [Hy hk] at this)
  have hf:¬L.filter (fun x=>!p x)=L:=fun e=>by rw[e] at aY;omega
  rw[e] at ZY;suffices h:∃r:AV × St,pT Tryz.prog 126 [.own s g,.rW F [.ptr a b 0]] Ox=some r∧r.1=.vw s g 0 (L.filter (fun x=>!p x)).length∧Aw s g Ox r.2∧∃Z,(∀c∈Z,Flat c)∧((aG (L.filter (fun x=>!p x)))++Z).length=L.length * 238∧r.2.heap s g=some (.row 74 238 L.length (aG (L.filter (fun x=>!p x))++Z)) by
   obtain⟨⟨x,st'⟩,h1,h2,h3⟩:=h
   obtain rfl:x=.vw s g 0 (L.filter (fun x=>!p x)).length:=h2
   exact⟨st',by rw[if_neg hf];exact⟨h1,h3⟩⟩
  have H2:¬(k:Int)=-1:=by omega
  have hw0:IntKind.i64.wrap ((k:Int)+1)=((k+1:Nat):Int):=by rw[mT _ (by omega) (by omega)];omega
  rw[Bq Tryz.prog Tryz.func126 rfl (by kernel_rfl)]
  simp only[ZG,seval,Bool.false_and,Prod.mk.injEq,Ds,bU,aV,OT,VY,VZ,hKb,qC,hh,ZY,bf H2,hw0];refine jH (fun m st=>∃(j k':Nat) (M:List Block),((st.env 0=.own s g∧st.env 1=.rW F [.ptr a b 0]∧st.env 5=.v (.int .i64 (k':Nat))∧st.heap s g=some (.row 74 238 M.length (aG M))∧K st)∧st.env 6=.v (.int .i64 (j:Nat)))∧Aw s g Ox st∧M.length=L.length∧M.take k'=(L.take j).filter (fun x=>!p x)∧k'=((L.take j).filter (fun x=>!p x)).length∧M.drop j=L.drop j∧k'<j∧j≤L.length∧m=L.length-j)
   (fun e st=>e=.exit 0∧∃(k':Nat) (M:List Block),((st.env 0=.own s g∧st.env 1=.rW F [.ptr a b 0]∧st.env 5=.v (.int .i64 (k':Nat))∧st.heap s g=some (.row 74 238 M.length (aG M))∧K st))∧Aw s g Ox st∧M.length=L.length∧M.take k'=L.filter (fun x=>!p x)∧k'=(L.filter (fun x=>!p x)).length) (L.length-(k+1)) ?step ?start ?rest
  case step =>
   rintro m st ⟨j,k',M,hI,hF,hM,hT,Yy,hD,hkj,O6,hm⟩
   by_cases Dc:(j:Int)<M.length
   case neg =>
    have hjn:j=L.length:=by omega
    subst hjn;rw[List.take_length] at hT Yy
    apply BZ (.exit 0)
    ·simp only[ZG,seval,Bool.false_and,Prod.mk.injEq,Ds,hI,Dc];rfl
    ·exact⟨rfl,k',M,by simp only[E8,seval,OT,hI],⟨fun y h h1 h2=>by simp only[E8,seval];exact hF.1 y h h1 h2,fun y=>by simp only[E8,seval];exact hF.2 y⟩,hM,hT,Yy⟩
   have hjL:j<L.length:=by omega
   have q0:(0:Int)≤j:=by omega
   have q1:(0:Int)≤k':=by omega
   have q2:(k':Int)<M.length:=by omega
   have q3:(k':Int).toNat<M.length:=by omega
   have hwj:IntKind.i64.wrap ((j:Int)+1)=((j+1:Nat):Int):=by rw[mT _ (by omega) (by omega)];omega
   have hwk:IntKind.i64.wrap ((k':Int)+1)=((k'+1:Nat):Int):=by rw[mT _ (by omega) (by omega)];omega
   have hx:=v9 (z:=eA) hD
   have hxe:=Hy (z:=eA) hjL
   obtain⟨x,hxx⟩:∃x,L[j]=x:=⟨_,rfl⟩
   rw[hxe,hxx] at hx;have hxm:x∈L:=by rw[← hxx];exact List.getElem_mem _
   have kc:=zK x hxm
   have TJ:rE Tryz.prog 74 (some (.row 74 238 M.length (aG M))) ((j:Int).toNat * 238)=fB Tryz.prog 74 (aP x) 0:=by rw[xA (k:=238) q0 Dc OA (by decide) (by decide),hx]
   have LW:=GG (q:=fun x=>!p x) hjL
   rw[hxx] at LW;have q4:(k':Int).toNat * 238+238≤M.length * 238:=by omega
   have Z4:∀nI:St,K nI→K (St.jB nI s g (some (.row 74 238 M.length (aG (M.set k' x))))):=fun nI=>hK.row nI _ _ ⟨M.set k' x,by rw[List.length_set],by rw[List.length_set];exact hM,rfl⟩
   by_cases TE:p x=true
   ·rw[TE] at kc;simp only[TE,Bool.not_true,Bool.false_eq_true,if_false,List.append_nil] at LW;apply Au (L.length-(j+1))
    ·simp only[ZG,seval,Bool.false_and,Prod.mk.injEq,Ds,hI,OT,VY,VZ,Dc,q0,TJ,kc,hwj,s7,s7'];rfl
    ·exact⟨j+1,k',M,by simp only[E8,seval,hI,OT,VY,VZ,s7,s7'],⟨fun y h h1 h2=>by
      have n7:(y=7∧h=st.aT 7)=False:=eq_false (by rintro⟨rfl,rfl⟩;have:=hF.2 7;omega)
      have ng:(y=s∧h=g)=False:=eq_false h2
      simp only[E8,seval,n7,ng,if_false];exact hF.1 y h h1 h2,fun y=>by
      have:=hF.2 y
      simp only[E8,seval];split<;>(try subst_vars)<;>omega⟩,hM,by rw[LW];exact hT,by rw[LW];exact Yy,yK hD,by omega,by omega,rfl⟩
   ·have hp2:p x=false:=by simpa using TE
    rw[hp2] at kc;simp only[hp2,Bool.not_false,if_true] at LW;apply Au (L.length-(j+1))
    ·simp only[ZG,seval,Bool.false_and,Prod.mk.injEq,Ds,hI,OT,VY,VZ,Dc,q0,q1,q2,q3,q4,TJ,kc,hwj,hwk,s7,s7'];rfl
    ·exact⟨j+1,k'+1,M.set k' x,by simp only[E8,seval,hI,OT,VY,VZ,s7,s7',Z4,List.length_set,Int.toNat_natCast],⟨fun y h h1 h2=>by
      have n7:(y=7∧h=st.aT 7)=False:=eq_false (by rintro⟨rfl,rfl⟩;have:=hF.2 7;omega)
      have ng:(y=s∧h=g)=False:=eq_false h2
      simp only[E8,seval,n7,ng,if_false];exact hF.1 y h h1 h2,fun y=>by
      have:=hF.2 y
      simp only[E8,seval];split<;>(try subst_vars)<;>omega⟩,by rw[List.length_set];exact hM,by rw[OS (by omega),hT,LW],by rw[LW,List.length_append,← Yy];rfl,by rw[set_drop (by omega)];exact yK hD,by omega,by omega,rfl⟩
  case start =>
   have ff:=Yx (p:=p) hk (by have:=hp;rwa [Hy hk] at this) (fun j h1 h2=>by have:=hj j h1;rwa [Hy h2] at this)
   exact⟨k+1,k,L,by simp only[E8,seval,bU,aV,OT,VY,VZ,hKb,qC,hh],⟨fun y h h1 h2=>by simp only[E8,seval,aV],fun y=>by simp only[E8,seval,aZ];exact Nat.le_refl _⟩,rfl,ff.symm,by rw[ff,List.length_take];omega,rfl,by omega,by omega,rfl⟩
  case rest =>
   rintro e st ⟨rfl,k',M,hI,hF,hM,hT,Yy⟩
   have Aq:k'<M.length:=by omega
   have sv:∀(st:St) (lo:Operand),st.heap s g=some (.row 74 238 M.length (aG M))→st.ev lo=.v (.int .i64 k')→dB Tryz.prog st 45 (.own s g) (some lo) none=some (.vw s g (k' * 238) (M.length-k')):=fun st lo hh he=>by
    have h1:¬((k':Int)=M.length∧¬((k':Int)=0∧0<M.length)):=by omega
    have h2:(0:Int)≤k'∧(k':Int)≤M.length:=by omega
    have h3:((M.length:Int)-(k':Int)).toNat=M.length-k':=by omega
    simp only[dB,nU,hh,he,if_neg h1,h2,h3,Int.le_refl,and_self,if_true,Int.toNat_natCast]
   obtain⟨Z,cl,hZ,hZl⟩:∃Z,(∀st:St,st.heap s g=some (.row 74 238 M.length (aG M))→sE Tryz.prog st 45 (.vw s g (k' * 238) (M.length-k'))=some (some (s,g,.row 74 238 M.length (aG (M.take k')++Z))))∧(∀c∈Z,Flat c)∧Z.length=(M.length-k') * 238:=by
    refine⟨(List.range (M.length-k')).flatMap fun _=>Fg.map AV.v,fun st hh=>?_,fun c hc=>?_, ?_⟩
    ·have hc:k' * 238+(M.length-k') * 238≤(aG M).length:=by rw[pC];omega
     simp only[sE,nU,aDl,hh];rw[if_pos ⟨trivial,trivial,hc⟩];have hd:(aG M).drop (k' * 238+(M.length-k') * 238)=[]:=List.drop_of_length_le (by rw[pC];omega)
     rw[hd,List.append_nil];congr 5
     exact congrArg (· ++ _) (wI (c:=aP) (sz:=238) bT M k')
    ·obtain⟨_,_,hc⟩:=List.mem_flatMap.1 hc
     obtain⟨x,_,rfl⟩:=List.mem_map.1 hc
     exact .v x
    ·have hv:(Fg.map AV.v).length=238:=by kernel_rfl
     generalize M.length-k'=m
     induction m with
     | zero=>rfl
     | succ m ih=>rw[List.range_succ,List.flatMap_append,List.length_append,ih];simp only[List.flatMap_cons,List.flatMap_nil,List.append_nil,hv];omega
   have sv2:∀(st:St) (hi:Operand),st.heap s g=some (.row 74 238 M.length (aG (M.take k')++Z))→st.ev hi=.v (.int .i64 k')→dB Tryz.prog st 45 (.own s g) none (some hi)=some (.vw s g 0 k'):=fun st hi hh he=>by
    have h1:¬((0:Int)=k'∧¬((0:Int)=0∧0<M.length)):=by omega
    have h2:(0:Int)≤k'∧(k':Int)≤M.length:=by omega
    simp only[dB,nU,hh,he,if_neg h1,h2,Int.le_refl,and_self,if_true];simp
    intro h3 h4;rw[h4] at Aq;simp at Aq
   simp only[ZG,seval,Bool.false_and,Prod.mk.injEq,Ds,hI,sv,cl,sv2,OV];refine⟨_,wZ (P:=Tryz.prog) (fn:=Tryz.f126) (r:=.tmp 4) (x:=.vw s g 0 k') (.inl rfl) rfl ?h1,by rw[Yy],⟨fun y h h1 h2=>?h2,fun y=>?h3⟩,Z,hZ, ?h4, ?h5⟩
   case h1=>rw[rM];simp only[bY,E8,seval]
   case h2 =>
    have ng:(y=s∧h=g)=False:=eq_false h2
    simp only[E8,seval,ng,if_false];exact hF.1 y h h1 h2
   case h3=>simp only[E8,seval];exact hF.2 y
   case h4=>rw[List.length_append,pC,hZl,← Yy,hM,← Nat.add_mul];congr 1;omega
   case h5=>simp only[E8,seval,hT,hM]
theorem OW {st:St} {s g e sz n k:Nat} {cs Z:List AV} (h:st.heap s g=some (.row e sz n (cs++Z))) (hc:cs.length=k * sz) (hn:(cs++Z).length=n * sz) (hz:∀c∈cs,Flat c) (hZ:∀c∈Z,Flat c) (WA:0<sz):cS st (.vw s g 0 k)=some (.sl k cs):=by
 have hnf:¬Flat (.vw s g 0 k):=by intro h;cases h
 have hf:(∀c∈cs++Z,Flat c)∧0+k * sz≤(cs++Z).length:=⟨fun c hc=>(List.mem_append.1 hc).elim (hz c) (hZ c),by rw[List.length_append];omega⟩
 unfold cS;rw[if_neg hnf];simp only[h];rw[if_pos hf,List.drop_zero,← hc,List.take_left]
theorem aHw (L:List Table) (hn:(L.length:Int)<1000000) (hFl:∀y∈L,Flat y.iP) (J:dP) (s g a b:Nat) (h7:s≠7) (ha:a≠7) (hab:¬(a=s∧b=g)):∃(X:AV) (G:St→St),(X.cells=[X]∧X.jD=true)∧∀st:St,st.heap a b=some (.cells (aW J))→st.heap s g=some (.row 118 34 L.length (aI L))→g<st.aT s →
 pT Tryz.prog 123 [.own s g,.rW 124 [.ptr a b 0]] st=some (X,G st)∧Aw s g st (G st)∧∃R,(G st).heap s g=some R∧∀nI:St,nI.heap s g=some R→cS nI X=some (ov aI (some (L.filter fun x=>!(fun x=>decide (x.ck.aE<J.aE)) x))):=by
 obtain⟨p,hp⟩:∃p:Table→Bool,p=fun x=>decide (x.ck.aE<J.aE):=⟨_,rfl⟩
 have a7:(a=7)=False:=eq_false ha
 have aHx:(a=s∧b=g)=False:=eq_false hab
 have key:∀st:St,∃st',st.heap a b=some (.cells (aW J))→st.heap s g=some (.row 118 34 L.length (aI L))→g<st.aT s →
  (if L.filter (fun x=>!p x)=L then pT Tryz.prog 123 [.own s g,.rW 124 [.ptr a b 0]] st=some (.own s g,st')∧Aw s g st st'∧st'.heap s g=some (.row 118 34 L.length (aI L)) else
   pT Tryz.prog 123 [.own s g,.rW 124 [.ptr a b 0]] st=some (.vw s g 0 (L.filter (fun x=>!p x)).length,st')∧Aw s g st st'∧∃Z,(∀c∈Z,Flat c)∧((aI (L.filter (fun x=>!p x)))++Z).length=L.length * 34∧st'.heap s g=some (.row 118 34 L.length (aI (L.filter (fun x=>!p x))++Z))):=by
  intro st;by_cases hy:st.heap a b=some (.cells (aW J))∧st.heap s g=some (.row 118 34 L.length (aI L))∧g<st.aT s
  case neg=>exact⟨st,fun h1 h2 h3=>absurd ⟨h1,h2,h3⟩ hy⟩
  have eV:∀(nI:St),Tq nI (some (.cells (aW J))) 0=some (.ip (aW J) 0):=fun nI=>sY nI (bM J) 0
  have fI:Flat (.ip (aW J) 0):=.ip _ _ (bM J)
  have kk:KOk (fun nI=>nI.heap a b=some (.cells (aW J))) s g 118 34 (fun n C=>∃M:List Table,n=M.length∧M.length=L.length∧C=aI M∧(∀y∈M,Flat y.iP)) :=
   ⟨fun nI d v=>by simp only[Yz],fun nI x=>by simp only[Za,a7,false_and,if_false],fun nI h x=>by simp only[Dt,a7,false_and,if_false],fun x nI=>by simp only[aV],fun nI n C _ h=>by
    show (St.jB nI s g _).heap a b=_
    simp only[Dt,aHx,if_false];exact h⟩
  obtain⟨st',h⟩:=aHs L hn hFl p 124 s g a b h7 (fun nI=>nI.heap a b=some (.cells (aW J))) kk
   (fun x hx nI d hk=>by
    have hk:nI.heap a b=some (.cells (aW J)):=hk
    rw[jU,List.singleton_append,List.map_cons,List.map_cons,List.map_nil,eC ((iG _).2 (hFl x hx)),OX hk (bM J),bO,bO,fR];have h:=aND x J
    rw[hp];exact Rc h)
   (fun nI d hk hh=>by
    have hk:nI.heap a b=some (.cells (aW J)):=hk
    rw[jU,List.map_cons,List.map_cons,List.map_nil,Zb hh (jY _ hFl),oK,hk,sY nI (bM J) 0,Option.map_some,bO,bO,fR];have h:=aF3 (some L) hn 124 [.ip (aW J) 0] p (fun x hx st d=>by rw[hp];exact bC (bE ((iG _).2 (hFl x hx)) fI) (aND x J) (.v _))
    exact Tr h)
   st hy.1 hy.2.2 hy.2.1
  exact⟨st',fun _ _ _=>h⟩
 rw[← hp];by_cases hf:L.filter (fun x=>!p x)=L
 ·refine⟨.own s g,fun st=>Classical.choose (key st),⟨rfl,rfl⟩,fun st h1 h2 h3=>?_⟩
  have h:=Classical.choose_spec (key st) h1 h2 h3
  rw[if_pos hf] at h;refine⟨h.1,h.2.1,_,h.2.2,fun nI h=>?_⟩
  rw[hf];exact Go.Ab.kF h (jY _ hFl)
 ·refine⟨.vw s g 0 (L.filter (fun x=>!p x)).length,fun st=>Classical.choose (key st),⟨rfl,rfl⟩,fun st h1 h2 h3=>?_⟩
  have h:=Classical.choose_spec (key st) h1 h2 h3
  rw[if_neg hf] at h;obtain⟨e1,e2,Z,hZ,hl,e3⟩:=h
  exact⟨e1,e2,_,e3,fun nI h=>OW h (xD _) hl (jY _ (fun y hy=>hFl y (List.mem_filter.1 hy).1)) hZ (by decide)⟩
theorem aHy (L:List Block) (hn:(L.length:Int)<1000000) (J:Int) (s g a b:Nat) (h7:s≠7) (ha:a≠7) (hab:¬(a=s∧b=g)):∃(X:AV) (G:St→St),(X.cells=[X]∧X.jD=true)∧∀st:St,st.heap a b=some (.cells (lG J))→st.heap s g=some (.row 74 238 L.length (aG L))→g<st.aT s →
 pT Tryz.prog 126 [.own s g,.rW 127 [.ptr a b 0]] st=some (X,G st)∧Aw s g st (G st)∧∃R,(G st).heap s g=some R∧∀nI:St,nI.heap s g=some R→cS nI X=some (ov aG (some (L.filter fun x=>!(fun x=>decide (x.slot≤J)) x))):=by
 obtain⟨p,hp⟩:∃p:Block→Bool,p=fun x=>decide (x.slot≤J):=⟨_,rfl⟩
 have a7:(a=7)=False:=eq_false ha
 have aHx:(a=s∧b=g)=False:=eq_false hab
 have key:∀st:St,∃st',st.heap a b=some (.cells (lG J))→st.heap s g=some (.row 74 238 L.length (aG L))→g<st.aT s →
  (if L.filter (fun x=>!p x)=L then pT Tryz.prog 126 [.own s g,.rW 127 [.ptr a b 0]] st=some (.own s g,st')∧Aw s g st st'∧st'.heap s g=some (.row 74 238 L.length (aG L)) else
   pT Tryz.prog 126 [.own s g,.rW 127 [.ptr a b 0]] st=some (.vw s g 0 (L.filter (fun x=>!p x)).length,st')∧Aw s g st st'∧∃Z,(∀c∈Z,Flat c)∧((aG (L.filter (fun x=>!p x)))++Z).length=L.length * 238∧st'.heap s g=some (.row 74 238 L.length (aG (L.filter (fun x=>!p x))++Z))):=by
  intro st;by_cases hy:st.heap a b=some (.cells (lG J))∧st.heap s g=some (.row 74 238 L.length (aG L))∧g<st.aT s
  case neg=>exact⟨st,fun h1 h2 h3=>absurd ⟨h1,h2,h3⟩ hy⟩
  have eV:∀(nI:St),Tq nI (some (.cells (lG J))) 0=some (.ip (lG J) 0):=fun nI=>sY nI (eD J) 0
  have fI:Flat (.ip (lG J) 0):=.ip _ _ (eD J)
  have kk:KOk (fun nI=>nI.heap a b=some (.cells (lG J))) s g 74 238 (fun n C=>∃M:List Block,n=M.length∧M.length=L.length∧C=aG M) :=
   ⟨fun nI d v=>by simp only[Yz],fun nI x=>by simp only[Za,a7,false_and,if_false],fun nI h x=>by simp only[Dt,a7,false_and,if_false],fun x nI=>by simp only[aV],fun nI n C _ h=>by
    show (St.jB nI s g _).heap a b=_
    simp only[Dt,aHx,if_false];exact h⟩
  obtain⟨st',h⟩:=aHv L hn p 127 s g a b h7 (fun nI=>nI.heap a b=some (.cells (lG J))) kk
   (fun x hx nI d hk=>by
    have hk:nI.heap a b=some (.cells (lG J)):=hk
    rw[jU,List.singleton_append,List.map_cons,List.map_cons,List.map_nil,eC (qL x),OX hk (eD J),bO,bO,fR];have h:=aNF x J
    rw[hp];exact Rc h)
   (fun nI d hk hh=>by
    have hk:nI.heap a b=some (.cells (lG J)):=hk
    rw[jU,List.map_cons,List.map_cons,List.map_nil,Zb hh (lB _),oK,hk,sY nI (eD J) 0,Option.map_some,bO,bO,fR];have h:=aF4 (some L) hn 127 [.ip (lG J) 0] p (fun x hx st d=>by rw[hp];exact bC (bE (qL x) fI) (aNF x J) (.v _))
    exact Tr h)
   st hy.1 hy.2.2 hy.2.1
  exact⟨st',fun _ _ _=>h⟩
 rw[← hp];by_cases hf:L.filter (fun x=>!p x)=L
 ·refine⟨.own s g,fun st=>Classical.choose (key st),⟨rfl,rfl⟩,fun st h1 h2 h3=>?_⟩
  have h:=Classical.choose_spec (key st) h1 h2 h3
  rw[if_pos hf] at h;refine⟨h.1,h.2.1,_,h.2.2,fun nI h=>?_⟩
  rw[hf];exact Go.Ab.kF h (lB _)
 ·refine⟨.vw s g 0 (L.filter (fun x=>!p x)).length,fun st=>Classical.choose (key st),⟨rfl,rfl⟩,fun st h1 h2 h3=>?_⟩
  have h:=Classical.choose_spec (key st) h1 h2 h3
  rw[if_neg hf] at h;obtain⟨e1,e2,Z,hZ,hl,e3⟩:=h
  exact⟨e1,e2,_,e3,fun nI h=>OW h (pC _) hl (lB _) hZ (by decide)⟩
theorem aDm (J:Int) (a b:Nat):∃G:St→St,∀st:St,st.heap a b=some (.cells (lG J)) →
 pT Tryz.prog 126 [.v (.slice none 0 0),.rW 127 [.ptr a b 0]] st=some (.v (.slice none 0 0),G st)∧Fx st (G st):=by
 have key:∀st:St,∃st',st.heap a b=some (.cells (lG J))→pT Tryz.prog 126 [.v (.slice none 0 0),.rW 127 [.ptr a b 0]] st=some (.v (.slice none 0 0),st')∧Fx st st':=by
  intro st;by_cases hk:st.heap a b=some (.cells (lG J))
  case neg=>exact⟨st,fun h=>absurd h hk⟩
  have fI:Flat (.ip (lG J) 0):=.ip _ _ (eD J)
  have ZY:∀(nI:St) (d:Option Nat),nI.heap a b=some (.cells (lG J))→aM (aB Tryz.prog) 171 [.v (.slice none 0 0),.rW 127 [.ptr a b 0]] nI d=some { dst:=d,val:=.v (.int .i64 (-1))}:=fun nI d hk=>by
   rw[jU,List.map_cons,List.map_cons,List.map_nil,Lu,oK,hk,sY nI (eD J) 0,Option.map_some,bO,bO,fR];have h:=aF4 none (by decide) 127 [.ip (lG J) 0] (fun x=>decide (x.slot≤J)) (fun x hx st d=>by simp[ol] at hx)
   exact Tr h
  rw[Bq Tryz.prog Tryz.func126 rfl (by kernel_rfl)]
  simp only[ZG,seval,Bool.false_and,Prod.mk.injEq,Ds,bU,aV,hk,ZY];exact⟨_,fun _=>⟨wZ (P:=Tryz.prog) (fn:=Tryz.f126) (r:=.tmp 4) (x:=.v (.slice none 0 0)) (.inl rfl) rfl (by rw[rM];simp only[bY,E8,seval]),fun y h h1=>by simp only[E8,seval,aV],fun y=>by simp only[E8,seval,aZ];exact Nat.le_refl _⟩⟩
 exact⟨fun st=>Classical.choose (key st),fun st h=>Classical.choose_spec (key st) h⟩
theorem Zc {P:Program} {g:Nat} {args:List AV} {st:St} {β:Type} {k:AV × St→Option β} {R:β→Prop} (X:AV) (Pre:St→Prop) (Q:St→St→Prop) (h:∀st,Pre st→∃st',pT P g args st=some (X,st')∧Q st st') (hp:Pre st)
 (rest:∀st',Q st st'→∃r,k (X,st')=some r∧R r):∃r,cT (pT P g args st) k=some r∧R r:=by
 obtain⟨st',h1,h2⟩:=h st hp
 rw[h1];exact rest st' h2
theorem Zd:aD 0 4 (some 3)=[]∧aD 1 4 (some 13)=[]∧aD 2 13 (some 16)=[]∧aD 3 2 (some 23)=[]∧aD 4 2 (some 25)=[]∧aD 5 8 (some 26)=[(1,4)]∧aD 7 5 (some 37)=[]∧aD 8 2 (some 42)=[]∧aD 9 14 (some 44)=[]∧aD 10 6 (some 56)=[]∧aD 11 3 (some 62)=[]∧aD 12 12 (some 65)=[]∧aD 14 2 (some 80)=[]:=⟨rfl,rfl,rfl,rfl,rfl,rfl,rfl,rfl,rfl,rfl,rfl,rfl,rfl⟩
theorem OY:aD 6 6 (some 32)=[]∧aD 13 8 (some 73)=[]:=⟨rfl,rfl⟩
theorem WB {st:St} {s:aL} {v:SV} (hs:SD s v) (hh:∀j,j<nE v→st.heap 14 j=(Kh v)[j]?) {f:kD} {bo:cN} {O N T O' N' T':AV} (hO:cS st O=some O') (hN:cS st N=some N') (hT:cS st T=some T') :
 Ux st (aA { Ou s v 14 0 with aU:=f,eW:=bo,tables:=T,tree:=⟨N⟩,cF:={ (Ou s v 14 0).cF with bN:=O }})=some (aA { s with aU:=f,eW:=bo,tables:=T',tree:=⟨N'⟩,cF:={ s.cF with bN:=O' }}):=by
 have cB:∀x,v.B=some x→0<nB v:=fun x h=>by simp[nB,h,rl]
 have cL:∀x,v.L=some x→nB v<nL v:=fun x h=>by simp[nL,h,rl]
 have cQ:∀x,v.Q=some x→nL v<nQ v:=fun x h=>by simp[nQ,h,rl]
 have cE:∀x,v.E=some x→nQ v<nE v:=fun x h=>by simp[nE,h,rl]
 have l1:nB v≤nL v:=by unfold nL;omega
 have l2:nL v≤nQ v:=by unfold nQ;omega
 have l3:nQ v≤nE v:=by unfold nE;omega
 rw[gJ];simp only[Ou,TS,Nat.zero_add];rw[mM (e:=23) (sz:=1) (c:=bK) (fun x h=>by have:=cB x h;rw[hh _ (by omega),aNq v x h]) (fun x _=>iH x),cO,
  mM (e:=100) (sz:=34) (c:=dD) (fun x h=>by have:=cL x h;rw[hh _ (by omega),aNr v x h]) (fun x _=>nD x),cO,
  mM (e:=3) (sz:=1) (c:=aK) (fun x h=>by have:=cQ x h;rw[hh _ (by omega),aNs v x h]) (fun x _=>gI x),cO,
  mM (e:=87) (sz:=67) (c:=dR) (fun x h=>by have:=cE x h;rw[hh _ (by omega),aNt v x h]) (fun x h=>tD x fun y m=>(hs.eV y (by rw[h];exact m)).fl),cO,hO,cO,hN,cO,hT,cO,← hs.iP,← hs.eB,← hs.gW,← hs.early]
noncomputable def CR (s:aL) (v:SV) (c1 c2:dP):aL :=
 if jZ s v (rP s c1) (tW s c2) then s else
 if tW s c2=s.aU.fin then { s with aU:=⟨rP s c1,tW s c2⟩,tables:=ov aI (v.T.map fun l=>sA l (rP s c1).aE)} else
 { s with aU:=⟨rP s c1,tW s c2⟩,tables:=ov aI (v.T.map fun l=>sA l (rP s c1).aE),
          tree:=⟨.sl (jW v.ns (aN v.ns (tW s c2).root) v.ns.length).1.length (bZ (jW v.ns (aN v.ns (tW s c2).root) v.ns.length).1)⟩,
          eW:=if aN (jW v.ns (aN v.ns (tW s c2).root) v.ns.length).1 s.eW<0 then dV else s.eW,
          cF:={ s.cF with bN:=ov aG (v.O.map fun l=>l.filter fun b=>decide ((sH s (tW s c2).aE).1<b.slot))} }
theorem c60 {s:aL} {v:SV} (hs:SD s v) (hu:gL v.ns) (hr:(nd v.ns 0).up<0) (hp:1≤s.cFg.jL∧s.cFg.jL≤64) (hx:Rg s.now) (hj:Rg s.aU.gD.aE) (Tw:Rg s.aU.fin.aE) (gP:NEv v) (hB:v.B≠some []) (hL:v.L≠some []) (ht:0<v.ns.length) (c1 c2:dP) (h1:Rg c1.aE) (h2:Rg c2.aE) :
 aB Tryz.prog 60 [.agg (aA s),.agg (aW c1),.agg (aW c2)]=some (.agg (aA (CR s v c1 c2))):=by
 have k109':=aSX hs gP hB hL ht
 have Sb:=k58 hs hu hp hx hj Tw c1 c2 h1 h2
 have gO:nO v+1≤nS v:=by
  have:=(List.getElem?_eq_some_iff.1 (aHn v)).1
  unfold nS;omega
 have gE:nE v≤nO v:=by unfold nO;omega
 rw[cG Tryz.func60 rfl aTf (by kernel_rfl) rfl]
 unfold CR;unfold Ke at Sb
 by_cases hb:jZ s v (rP s c1) (tW s c2)
 ·rw[if_pos hb] at Sb ⊢
  simp only[ZG,seval,Bool.false_and,Prod.mk.injEq,Zd,k109',Sb,OQ,NW,dE];refine eH rfl (by simp only[E8,seval]<;>rfl) (cs:=aA (Ou s v 14 0)) (by simp only[Z8,seval,NW]<;>rfl) ?_
  rw[bS,aHp hs (d:=14) (c:=0) (fun j hj=>by
   rw[Nat.zero_add];simp only[E8,seval,NW,true_and,Nat.zero_le,Nat.sub_zero,Z2])]
  rfl
 rw[if_neg hb] at Sb ⊢
 have oZ:=(v7 hp hx (by unfold rP;split<;>assumption) (by unfold tW;split<;>assumption)).2 hb
 obtain⟨J,eJ⟩:∃J,rP s c1=J:=⟨_,rfl⟩
 obtain⟨F,eF⟩:∃F,tW s c2=F:=⟨_,rfl⟩
 have rF:Rg F.aE:=by rw[← eF];unfold tW;split<;>assumption
 rw[eJ,eF] at Sb oZ ⊢
 obtain⟨⟨f1,f2,f3,f4⟩,_,_,_,_,hT0⟩:=oZ
 cases hvT:v.T with
 | none=>rw[hvT] at hT0;exact absurd hT0 (by show ¬(0:Int)≤-1;omega)
 | some LT =>
 have hB':=fun y hy=>(hs.tB y hy).fl
 rw[hvT,Wg] at hB'
 have nT:=hs.nT
 rw[hvT,Wg] at nT;have lT:nO v+1<nS v:=(List.getElem?_eq_some_iff.1 (aHo v LT hvT)).1
 obtain⟨X,G,⟨hXc,hXs⟩,hG⟩:=aHw LT nT hB' J 14 (nO v+1) 8 0 (by decide) (by decide) (by rintro⟨h,_⟩;omega)
 have eX:(LT.filter fun x=>!(fun x:Table=>decide (x.ck.aE<J.aE)) x)=sA LT J.aE:=by
  unfold sA;congr 1
  funext x
  simp only[← decide_not,Int.not_lt]
 simp only[eX] at hG;have hT1:(Ou s v 14 0).tables=.own 14 (nO v+1):=by simp only[Ou,TS,hvT,IG,Nat.zero_add]
 refine gX ?_
 simp only[ZG,seval,Bool.false_and,Prod.mk.injEq,Zd,k109',Sb,OQ,NW,dE,hT1];refine Zc X (fun st=>st.heap 8 0=some (.cells (aW J))∧st.heap 14 (nO v+1)=some (.row 118 34 LT.length (aI LT))∧nO v+1<st.aT 14) (fun st st'=>Aw 14 (nO v+1) st st'∧∃R,st'.heap 14 (nO v+1)=some R∧∀nI:St,nI.heap 14 (nO v+1)=some R→cS nI X=some (ov aI (some (sA LT J.aE)))) (fun st h=>⟨_,hG st h.1 h.2.1 h.2.2⟩) ⟨?p1, ?p2, ?p3⟩ ?rest
 case p1=>simp only[E8,seval,NW]<;>rfl
 case p2 =>
  simp only[E8,seval,NW,Nat.zero_le,Nat.sub_zero,Z2];exact aHo v LT hvT
 case p3=>simp only[E8,seval,NW];exact lT
 case rest =>
  rintro st' ⟨hF,R,hR,hRX⟩
  have e3:st'.heap 3 0=some (.cells (aA s)):=(hF.1 3 0 (by simp only[E8,seval,NW]<;>omega) (by omega)).trans (by simp only[E8,seval,NW]<;>rfl)
  have e6:st'.heap 6 0=some (.cells (aA gA)):=(hF.1 6 0 (by simp only[E8,seval,NW]<;>omega) (by omega)).trans (by simp only[E8,seval,NW]<;>rfl)
  have e7:st'.heap 7 0=some (.cells (aA { Ou s v 14 0 with aU:=⟨J,F⟩,tables:=.own 14 (nO v+1)})):=(hF.1 7 0 (by simp only[E8,seval,NW]<;>omega) (by omega)).trans (by simp only[E8,seval,NW]<;>rfl)
  have e9:st'.heap 9 0=some (.cells (aW F)):=(hF.1 9 0 (by simp only[E8,seval,NW]<;>omega) (by omega)).trans (by simp only[E8,seval,NW]<;>rfl)
  have er:∀j,j<nS v→j≠nO v+1→st'.heap 14 j=(Kh v)[j]?:=fun j hj gP=>(hF.1 14 j (by simp only[E8,seval,NW];exact hj) (by omega)).trans (by simp only[E8,seval,NW,Nat.zero_le,Nat.sub_zero,Z2])
  have g6:0<st'.aT 6:=Nat.lt_of_lt_of_le (by simp only[E8,seval,NW]<;>omega) (hF.2 6)
  have g7:0<st'.aT 7:=Nat.lt_of_lt_of_le (by simp only[E8,seval,NW]<;>omega) (hF.2 7)
  have g14:nS v≤st'.aT 14:=Nat.le_trans (by simp only[E8,seval,NW]<;>exact Nat.le_refl _) (hF.2 14)
  have xO:∀nI:St,(∀j,j<nS v→j≠nO v+1→nI.heap 14 j=(Kh v)[j]?)→cS nI (rv 14 (0+nE v) v.O)=some (ov aG v.O):=fun nI h=>by
   rw[Nat.zero_add];exact mM (e:=74) (sz:=238) (c:=aG) (fun x hx=>by have:nE v<nO v:=(by simp[nO,hx,rl]);rw[h _ (by omega) (by omega),aHm v x hx]) (fun x _=>lB x)
  have xN:∀nI:St,(∀j,j<nS v→j≠nO v+1→nI.heap 14 j=(Kh v)[j]?)→cS nI (.own 14 (0+nO v))=some (ov bZ (some v.ns)):=fun nI h=>by
   rw[Nat.zero_add];exact mM (L:=some v.ns) (e:=76) (sz:=240) (c:=bZ) (fun x hx=>by cases hx;rw[h _ (by omega) (by omega),aHn v]) (fun x _=>iF x)
  have hn:ov bZ (some v.ns)=s.tree.nodes:=by rw[hs.tree];rfl
  by_cases hFF:F=s.aU.fin
  ·have hd:decide (F=s.aU.fin)=true:=decide_eq_true hFF
   simp only[ZG,seval,Bool.false_and,Prod.mk.injEq,Zd,OY,NW,bU,aV,aZ,e3,e6,e7,e9,hXc,hXs,List.length_singleton,hd];refine⟨.agg (aA { s with aU:=⟨J,F⟩,tables:=ov aI (some (sA LT J.aE))}),eH rfl (by simp only[E8,seval,NW,bU]<;>rfl) (cs:=aA { Ou s v 14 0 with aU:=⟨J,F⟩,tables:=X }) (by simp only[Z8,seval,NW,bU,aV,aZ,e3,e6,e7,hXc]<;>rfl) ?ex, ?eq⟩
   case ex =>
    rw[bS];rw[show Ux _ (aA { Ou s v 14 0 with aU:=⟨J,F⟩,tables:=X })=some _ from WB hs (f:=⟨J,F⟩) (bo:=s.eW) (O:=rv 14 (0+nE v) v.O) (N:=.own 14 (0+nO v)) (T:=X) (fun j hj=>by simp only[E8,seval,NW,aV];exact er j (by omega) (by omega)) (xO _ (fun j hj gP=>by simp only[E8,seval,NW,aV];exact er j hj gP)) (xN _ (fun j hj gP=>by simp only[E8,seval,NW,aV];exact er j hj gP)) (hRX _ (by simp only[E8,seval,NW,aV];exact hR))]
    rw[hn,← hs.bN];rfl
   case eq=>rw[if_pos hFF]
  have hd:decide (F=s.aU.fin)=false:=decide_eq_false hFF
  have fr:=eQ v.ns F.root
  have kP:=aP7 v.ns hu hr hs.nn (aN v.ns F.root) ⟨f1,fr.2⟩
  unfold D1 at kP;obtain⟨pn,hpn⟩:∃pn,(jW v.ns (aN v.ns F.root) v.ns.length).1=pn:=⟨_,rfl⟩
  have lpn:(pn.length:Int)<1000000:=by rw[← hpn];have:=Ya (ns:=v.ns) (aN v.ns F.root);have:=hs.nn;omega
  rw[hpn] at kP ⊢;have Ry:∀(st:St) (d:Option Nat),aM (aB Tryz.prog) 95 [.v (.int .u64 F.aE),.v (.int .u64 s.cFg.jL)] st d=some { dst:=d,val:=.eG [.v (.int .u64 (sH s F.aE).1),.v (.int .i64 (sH s F.aE).2)]}:=fun st d=>k95 rF st d
  have GH:(Ou s v 14 0).eW=s.eW:=rfl
  obtain⟨bo,hb⟩:∃bo,(if aN pn s.eW<0 then dV else s.eW)=bo:=⟨_,rfl⟩
  rw[hb];obtain⟨z,hz⟩:∃z,(sH s F.aE).1=z:=⟨_,rfl⟩
  rw[hz] at Ry ⊢
  cases hvO:v.O with
  | none =>
    have hO1:(Ou s v 14 0).cF.bN=.v (.slice none 0 0):=by simp only[Ou,TS,hvO,aDi]
    obtain⟨G2,Ma⟩:=aDm z 11 (st'.aT 11)
    by_cases g:aN pn s.eW<0<;>simp only[g,if_true,if_false] at hb<;>(try rw[hb] at g)
    all_goals
     simp only[ZG,seval,Bool.false_and,Prod.mk.injEq,Zd,OY,NW,bU,aV,aZ,e3,e6,e7,e9,hXc,hXs,List.length_singleton,hd,hs.tree,O3 _ _ hs.nn,O3 _ _ lpn,kP,dE,GH,g,hb,Ry,hO1];refine Zc (.v (.slice none 0 0)) (fun st=>st.heap 11 (st'.aT 11)=some (.cells (lG z))) (fun st nI=>Fx st nI) (fun st h=>⟨_,Ma st h⟩) ?p1 ?rest
     case p1=>simp only[E8,seval,NW,bU,aV,aZ]<;>rfl
     case rest =>
      intro nI hF2;have a6:nI.heap 6 0=some (.cells (aA gA)):=(hF2.1 6 0 (by simp only[E8,seval,NW,bU,aV,aZ];exact g6)).trans (by simp only[E8,seval,NW,bU,aV,aZ,e6]<;>rfl)
      have a7:nI.heap 7 0=some (.cells (aA { Ou s v 14 0 with aU:=⟨J,F⟩,tables:=X,tree:=⟨.sl pn.length (bZ pn)⟩,eW:=bo })):=(hF2.1 7 0 (by simp only[E8,seval,NW,bU,aV,aZ];exact g7)).trans (by simp only[E8,seval,NW,bU,aV,aZ,e7]<;>rfl)
      have ar:∀j,j<nE v→nI.heap 14 j=(Kh v)[j]?:=fun j hj=>(hF2.1 14 j (by simp only[E8,seval,NW,bU,aV,aZ];omega)).trans (by simp only[E8,seval,NW,bU,aV,aZ];exact er j (by omega) (by omega))
      have aR:nI.heap 14 (nO v+1)=some R:=(hF2.1 14 (nO v+1) (by simp only[E8,seval,NW,bU,aV,aZ];omega)).trans (by simp only[E8,seval,NW,bU,aV,aZ];exact hR)
      simp only[ZG,seval,Bool.false_and,Prod.mk.injEq,Zd,OY,NW,bU,aV,aZ,a6,a7];refine⟨.agg (aA { s with aU:=⟨J,F⟩,tables:=ov aI (some (sA LT J.aE)),tree:=⟨.sl pn.length (bZ pn)⟩,eW:=bo,cF:={ s.cF with bN:=ov aG none }}),eH rfl (by simp only[E8,seval,NW,bU,aV,aZ]<;>rfl) (cs:=aA { Ou s v 14 0 with aU:=⟨J,F⟩,tables:=X,tree:=⟨.sl pn.length (bZ pn)⟩,eW:=bo,cF:={ (Ou s v 14 0).cF with bN:=.v (.slice none 0 0)} }) (by simp only[Z8,seval,NW,bU,aV,aZ,a6,a7]<;>rfl) ?ex, ?eq⟩
      case ex =>
       rw[bS];rw[show Ux _ (aA { Ou s v 14 0 with aU:=⟨J,F⟩,tables:=X,tree:=⟨.sl pn.length (bZ pn)⟩,eW:=bo,cF:={ (Ou s v 14 0).cF with bN:=.v (.slice none 0 0)} })=some _ from WB hs (f:=⟨J,F⟩) (bo:=bo) (O:=.v (.slice none 0 0)) (N:=.sl pn.length (bZ pn)) (T:=X) (fun j hj=>by simp only[E8,seval,NW,aV];exact ar j hj) (cW (.v _)) (cW (.sl _ _ (iF pn))) (hRX _ (by simp only[E8,seval,NW,aV];exact aR))]
       rfl
      case eq=>rw[if_neg hFF]<;>rfl
  | some LO =>
    have hO1:(Ou s v 14 0).cF.bN=.own 14 (nE v):=by simp only[Ou,TS,hvO,IG,Nat.zero_add]
    have nOb:=hs.nO
    rw[hvO,Wg] at nOb;have lO:nE v<nO v:=by simp[nO,hvO,rl]
    obtain⟨Y,G2,⟨hYc,hYs⟩,Ma⟩:=aHy LO nOb z 14 (nE v) 11 (st'.aT 11) (by decide) (by decide) (by rintro⟨h,_⟩;omega)
    have eY:(LO.filter fun x=>!(fun x:Block=>decide (x.slot≤z)) x)=LO.filter fun b=>decide (z<b.slot):=by
     congr 1
     funext x
     simp only[← decide_not,Int.not_le]
    simp only[eY] at Ma;by_cases g:aN pn s.eW<0<;>simp only[g,if_true,if_false] at hb<;>(try rw[hb] at g)
    all_goals
     simp only[ZG,seval,Bool.false_and,Prod.mk.injEq,Zd,OY,NW,bU,aV,aZ,e3,e6,e7,e9,hXc,hXs,List.length_singleton,hd,hs.tree,O3 _ _ hs.nn,O3 _ _ lpn,kP,dE,GH,g,hb,Ry,hO1];refine Zc Y (fun st=>st.heap 11 (st'.aT 11)=some (.cells (lG z))∧st.heap 14 (nE v)=some (.row 74 238 LO.length (aG LO))∧nE v<st.aT 14) (fun st nI=>Aw 14 (nE v) st nI∧∃R,nI.heap 14 (nE v)=some R∧∀st3:St,st3.heap 14 (nE v)=some R→cS st3 Y=some (ov aG (some (LO.filter fun b=>decide (z<b.slot))))) (fun st h=>⟨_,Ma st h.1 h.2.1 h.2.2⟩) ⟨?p1, ?p2, ?p3⟩ ?rest
     case p1=>simp only[E8,seval,NW,bU,aV,aZ]<;>rfl
     case p2 =>
      simp only[E8,seval,NW,bU,aV,aZ];rw[er _ (by omega) (by omega)]
      exact aHm v LO hvO
     case p3=>simp only[E8,seval,NW,bU,aV,aZ];omega
     case rest =>
      rintro nI ⟨hF2,R2,hR2,hRY⟩
      have a6:nI.heap 6 0=some (.cells (aA gA)):=(hF2.1 6 0 (by simp only[E8,seval,NW,bU,aV,aZ];exact g6) (by omega)).trans (by simp only[E8,seval,NW,bU,aV,aZ,e6]<;>rfl)
      have a7:nI.heap 7 0=some (.cells (aA { Ou s v 14 0 with aU:=⟨J,F⟩,tables:=X,tree:=⟨.sl pn.length (bZ pn)⟩,eW:=bo })):=(hF2.1 7 0 (by simp only[E8,seval,NW,bU,aV,aZ];exact g7) (by omega)).trans (by simp only[E8,seval,NW,bU,aV,aZ,e7]<;>rfl)
      have ar:∀j,j<nE v→nI.heap 14 j=(Kh v)[j]?:=fun j hj=>(hF2.1 14 j (by simp only[E8,seval,NW,bU,aV,aZ];omega) (by omega)).trans (by simp only[E8,seval,NW,bU,aV,aZ];exact er j (by omega) (by omega))
      have aR:nI.heap 14 (nO v+1)=some R:=(hF2.1 14 (nO v+1) (by simp only[E8,seval,NW,bU,aV,aZ];omega) (by omega)).trans (by simp only[E8,seval,NW,bU,aV,aZ];exact hR)
      simp only[ZG,seval,Bool.false_and,Prod.mk.injEq,Zd,OY,NW,bU,aV,aZ,a6,a7,hYc,hYs,List.length_singleton];refine⟨.agg (aA { s with aU:=⟨J,F⟩,tables:=ov aI (some (sA LT J.aE)),tree:=⟨.sl pn.length (bZ pn)⟩,eW:=bo,cF:={ s.cF with bN:=ov aG (some (LO.filter fun b=>decide (z<b.slot)))} }),eH rfl (by simp only[E8,seval,NW,bU,aV,aZ]<;>rfl) (cs:=aA { Ou s v 14 0 with aU:=⟨J,F⟩,tables:=X,tree:=⟨.sl pn.length (bZ pn)⟩,eW:=bo,cF:={ (Ou s v 14 0).cF with bN:=Y }}) (by simp only[Z8,seval,NW,bU,aV,aZ,a6,a7,hYc]<;>rfl) ?ex, ?eq⟩
      case ex =>
       rw[bS];rw[show Ux _ (aA { Ou s v 14 0 with aU:=⟨J,F⟩,tables:=X,tree:=⟨.sl pn.length (bZ pn)⟩,eW:=bo,cF:={ (Ou s v 14 0).cF with bN:=Y }})=some _ from WB hs (f:=⟨J,F⟩) (bo:=bo) (O:=Y) (N:=.sl pn.length (bZ pn)) (T:=X) (fun j hj=>by simp only[E8,seval,NW,aV];exact ar j hj) (hRY _ (by simp only[E8,seval,NW,aV];exact hR2)) (cW (.sl _ _ (iF pn))) (hRX _ (by simp only[E8,seval,NW,aV];exact aR))]
       rfl
      case eq=>rw[if_neg hFF]<;>rfl
theorem aNP (i:Int) (i0:0≤i) (i1:i<1000000):aB Tryz.prog 145 [.v (.slice none 0 0),.v (.int .i64 i)]=some (.v (.int .i64 (Kd [] i))):=by
 have e1:∃y,aB Tryz.prog 145 [.sl 0 (aK []),.v (.int .i64 i)]=some y∧aB Tryz.prog 145 [.v (.slice none 0 0),.v (.int .i64 i)]=some y:=by
  refine⟨.v (.int .i64 (IntKind.i64.wrap ((BitVec.ofInt IntKind.i64.bits i &&& BitVec.ofInt IntKind.i64.bits 65535).toNat:Int))), ?_, ?_⟩
  ·rw[cL Tryz.func145 rfl Q3 rfl];refine gX ?_
   simp only[Z8,seval,LV];exact⟨_,bQ rfl (by simp only[E8,seval]<;>rfl) (by first|exact .v _|simp only[dU]),rfl⟩
  ·rw[cL Tryz.func145 rfl Q3 rfl];refine gX ?_
   simp only[Z8,seval,LV];exact⟨_,bQ rfl (by simp only[E8,seval]<;>rfl) (by first|exact .v _|simp only[dU]),rfl⟩
 obtain⟨y,h1,h2⟩:=e1
 have h3:=(Hf [] (by decide) i i0 i1).1
 have h4:aB Tryz.prog 145 [.sl 0 (aK []),.v (.int .i64 i)]=some (.v (.int .i64 (Kd [] i))):=h3
 rw[h1] at h4;rw[h2,h4]
theorem Hz (i:Int) (i0:0≤i) (i1:i<1000000) (st:St) (d:Option Nat):aM (aB Tryz.prog) 145 [.v (.slice none 0 0),.v (.int .i64 i)] st d=some { dst:=d,val:=.v (.int .i64 (Kd [] i))}:=bC (bE (.v _) (.v _)) (aNP i i0 i1) (.v _)
theorem aNQ:∃x,aB Tryz.prog 101 [.v (.slice none 0 0)]=some x∧∃(c:Config) (b:List Int),x=.agg (bW c)∧Ht c b:=by
 have hc:=fun (i:Int) (h:0≤i∧i<1000000)=>(Hf [] (by decide) i h.1 h.2).2.1
 have k0:=Hz 0 (by omega) (by omega)
 obtain⟨a0,b0⟩:=cK (n:=8) (hc 0 (by omega)) (by omega)
 obtain⟨x0,h0⟩:∃x,(Kd [] 0).tmod 8=x:=⟨_,rfl⟩
 rw[h0] at a0 b0;have k1:=Hz 1 (by omega) (by omega)
 obtain⟨a1,b1⟩:=cK (n:=4) (hc 1 (by omega)) (by omega)
 obtain⟨x1,h1⟩:∃x,(Kd [] 1).tmod 4=x:=⟨_,rfl⟩
 rw[h1] at a1 b1;have k2:=Hz 2 (by omega) (by omega)
 obtain⟨a2,b2⟩:=cK (n:=4) (hc 2 (by omega)) (by omega)
 obtain⟨x2,h2⟩:∃x,(Kd [] 2).tmod 4=x:=⟨_,rfl⟩
 rw[h2] at a2 b2;have k3:=Hz 3 (by omega) (by omega)
 obtain⟨a3,b3⟩:=cK (n:=4) (hc 3 (by omega)) (by omega)
 obtain⟨x3,h3⟩:∃x,(Kd [] 3).tmod 4=x:=⟨_,rfl⟩
 rw[h3] at a3 b3;have k4:=Hz 4 (by omega) (by omega)
 obtain⟨a4,b4⟩:=cK (n:=4) (hc 4 (by omega)) (by omega)
 obtain⟨x4,h4⟩:∃x,(Kd [] 4).tmod 4=x:=⟨_,rfl⟩
 rw[h4] at a4 b4;have k5:=Hz 5 (by omega) (by omega)
 obtain⟨a5,b5⟩:=cK (n:=5) (hc 5 (by omega)) (by omega)
 obtain⟨x5,h5⟩:∃x,(Kd [] 5).tmod 5=x:=⟨_,rfl⟩
 rw[h5] at a5 b5;have k6:=Hz 6 (by omega) (by omega)
 obtain⟨a6,b6⟩:=cK (n:=4) (hc 6 (by omega)) (by omega)
 obtain⟨x6,h6⟩:∃x,(Kd [] 6).tmod 4=x:=⟨_,rfl⟩
 rw[h6] at a6 b6;have k7:=Hz 7 (by omega) (by omega)
 obtain⟨a7,b7⟩:=cK (n:=3) (hc 7 (by omega)) (by omega)
 obtain⟨x7,h7⟩:∃x,(Kd [] 7).tmod 3=x:=⟨_,rfl⟩
 rw[h7] at a7 b7;have k8:=Hz 8 (by omega) (by omega)
 obtain⟨a8,b8⟩:=cK (n:=2) (hc 8 (by omega)) (by omega)
 obtain⟨x8,h8⟩:∃x,(Kd [] 8).tmod 2=x:=⟨_,rfl⟩
 rw[h8] at a8 b8;have k9:=Hz 9 (by omega) (by omega)
 obtain⟨a9,b9⟩:=cK (n:=5) (hc 9 (by omega)) (by omega)
 obtain⟨x9,h9⟩:∃x,(Kd [] 9).tmod 5=x:=⟨_,rfl⟩
 rw[h9] at a9 b9;have w0:IntKind.i64.wrap (6+x0)=6+x0:=mT _ (by omega) (by omega)
 have w3:IntKind.i64.wrap (1+x3)=1+x3:=mT _ (by omega) (by omega)
 have w5:IntKind.i64.wrap (1+x5)=1+x5:=mT _ (by omega) (by omega)
 have w5':IntKind.u64.wrap (1+x5)=1+x5:=wrap_u64 _ (by omega) (by omega)
 have w6:IntKind.i64.wrap (1+x6)=1+x6:=mT _ (by omega) (by omega)
 have w6':IntKind.u64.wrap (1+x6)=1+x6:=wrap_u64 _ (by omega) (by omega)
 have w9:IntKind.i64.wrap (2+x9)=2+x9:=mT _ (by omega) (by omega)
 have g7:=nX (l:=[0,40,100]) a7 (by show x7<((3:Nat):Int);omega)
 obtain⟨bp,hbp⟩:∃y,it [0,40,100] x7=y:=⟨_,rfl⟩
 have hbp1:0≤bp∧bp≤100:=by
  rcases (by omega:x7=0∨x7=1∨x7=2) with e|e|e<;>(rw[e] at hbp;rw[← hbp];decide)
 have w7:IntKind.u64.wrap bp=bp:=wrap_u64 _ (by omega) (by omega)
 rw[cL Tryz.func101 rfl aFS rfl];simp only[Z8,seval,lD,lE,k0,k1,k2,k3,k4,k5,k6,k7,k8,h0,h1,h2,h3,h4,h5,h6,h7,h8,w0,w3,w5,w5',w6,w6',a7,b7,g7,hbp,w7,pL,Nat.reduceLT,Ra];have n9:(2+x9).toNat≤6:=by omega
 refine cC (fun m st=>∃(j:Nat) (lK:lH) (sp bq:Int) (tt:qE) (X:AV) (b:List Int),(st.env 0=.v (.slice none 0 0)∧st.env 2=.ptr 2 0 0∧st.heap 2 0=some (.cells (bW mQ))∧st.env 3=.ptr 3 0 0∧st.heap 3 0=some (.cells (bW ⟨lK,sp,bq,tt,mkRoot 1,X⟩))∧st.env 4=.v (.int .i64 j))∧(lK=⟨6+x0,x1,x2,1+x3,x4,1+x5⟩∧sp=1+x6∧bq=bp)∧((X=.v (.slice none 0 0)∧b=[])∨∃g,X=.own 64 g∧g<st.aT 64∧st.heap 64 g=some (.row 23 1 b.length (bK b)))∧(∀y∈b,0≤y∧y≤1000)∧b.length=j∧j≤(2+x9).toNat∧m=(2+x9).toNat-j)
  (fun e st=>e=.exit 0∧∃(lK:lH) (sp bq:Int) (tt:qE) (g:Nat) (b:List Int),(st.env 2=.ptr 2 0 0∧st.heap 2 0=some (.cells (bW mQ))∧st.env 3=.ptr 3 0 0∧st.heap 3 0=some (.cells (bW ⟨lK,sp,bq,tt,mkRoot 1,.own 64 g⟩))∧st.heap 64 g=some (.row 23 1 b.length (bK b)))∧(lK=⟨6+x0,x1,x2,1+x3,x4,1+x5⟩∧sp=1+x6∧bq=bp)∧(∀y∈b,0≤y∧y≤1000)∧1≤b.length∧b.length≤6) (2+x9).toNat ?step ?start ?rest
 case step =>
  rintro m st ⟨j,lK,sp,bq,tt,X,b,hI,hC,hX,hb,hj,hjn,hm⟩
  by_cases aY:(j:Int)<2+x9
  ·have q0:(0:Int)≤j:=by omega
   have hw:IntKind.i64.wrap ((j:Int)+1)=((j+1:Nat):Int):=by rw[mT _ (by omega) (by omega)];omega
   obtain⟨jj,hjj⟩:∃jj:Int,jj=10+(j:Int):=⟨_,rfl⟩
   have ZW:IntKind.i64.wrap (10+(j:Int))=jj:=by rw[mT _ (by omega) (by omega),hjj]
   have kj:=Hz jj (by omega) (by omega)
   obtain⟨aj,bj⟩:=cK (n:=40) (Hf [] (by decide) jj (by omega) (by omega)).2.1 (by omega)
   obtain⟨y,hy⟩:∃y,(Kd [] jj).tmod 40=y:=⟨_,rfl⟩
   rw[hy] at aj bj;have wy:IntKind.u64.wrap y=y:=wrap_u64 _ (by omega) (by omega)
   have nL:(b.length:Int)<1000000:=by omega
   have Tu:∀z∈b++[y],0≤z∧z≤1000:=fun z hz=>(List.mem_append.1 hz).elim (hb z) fun e=>by rw[List.mem_singleton] at e;rw[e];omega
   have yF:(b++[y]).length=j+1:=by rw[List.length_append,List.length_cons,List.length_nil];omega
   rcases hX with ⟨rfl,rfl⟩|⟨g,rfl,hg,hh⟩
   ·apply oN ((2+x9).toNat-(j+1))
    ·simp only[Z8,seval,hI,k9,h9,w9,aY,ZW,kj,hy,wy,hw];rfl
    ·exact⟨j+1,_,_,_,_,_,[]++[y],⟨by simp only[E8,seval,hI],by simp only[E8,seval,hI],by simp only[E8,seval,hI],by simp only[E8,seval,hI],by simp only[E8,seval,hI]<;>rfl,by simp only[E8,seval]⟩,hC,.inr ⟨_,rfl,by simp only[E8,seval]<;>omega,by simp only[E8,seval]<;>rfl⟩,Tu,yF,by omega,rfl⟩
   ·have vC:(g=st.aT 64)=False:=eq_false (by omega)
    apply oN ((2+x9).toNat-(j+1))
    ·simp only[Z8,seval,hI,hh,vC,k9,h9,w9,aY,ZW,kj,hy,wy,hw,wK _ _ _ _ nL];rfl
    ·exact⟨j+1,_,_,_,_,_,b++[y],⟨by simp only[E8,seval,hI],by simp only[E8,seval,hI],by simp only[E8,seval,hI],by simp only[E8,seval,hI],by simp only[E8,seval,hI]<;>rfl,by simp only[E8,seval]⟩,hC,.inr ⟨_,rfl,by simp only[E8,seval]<;>omega,by simp only[E8,seval]<;>rfl⟩,Tu,yF,by omega,rfl⟩
  ·rcases hX with ⟨rfl,rfl⟩|⟨g,rfl,hg,hh⟩
   ·simp at hj;omega
   ·apply oT (.exit 0)
    ·simp only[Z8,seval,hI,k9,h9,w9,aY];rfl
    ·exact⟨rfl,_,_,_,_,g,b,⟨by simp only[E8,seval,hI],by simp only[E8,seval,hI],by simp only[E8,seval,hI],by simp only[E8,seval,hI]<;>rfl,by simp only[E8,seval,hh]⟩,hC,hb,by omega,by omega⟩
 case start=>exact⟨0,_,_,_,_,_,[],by and_intros<;>(simp only[E8,seval]<;>rfl),⟨rfl,rfl,rfl⟩,.inl ⟨rfl,rfl⟩,by simp,rfl,by omega,by omega⟩
 case rest =>
  rintro e st ⟨rfl,lK,sp,bq,tt,g,b,hI,⟨rfl,rfl,rfl⟩,hb,yF,Uu⟩
  simp only[Z8,seval,hI];exact⟨_,by apply eH;rfl;all_goals simp only[aH,Z8,seval,hI,bS,Mf,bP,uN,dU]<;>rfl,⟨⟨6+x0,x1,x2,1+x3,x4,1+x5⟩,1+x6,bq,tt,mkRoot 1,ov bK (some b)⟩,b,rfl,⟨rfl,by omega,hb,by dsimp only;omega,by dsimp only;omega,by dsimp only;omega,by dsimp only;omega,by dsimp only;omega,by dsimp only;omega,by dsimp only;omega,by dsimp only;omega,rfl,by dsimp only;omega⟩⟩
theorem aHz {c:Config} {b:List Int} (h:Ht c b):¬jZ (yI c b) (Av c b) ⟨0,c.cX⟩ ⟨0,c.cX⟩:=by
 have g:=(OM h).1
 have hs:1≤(yI c b).cFg.jL∧(yI c b).cFg.jL≤64:=h.jL
 have s0:=VS (s:=yI c b) hs (e:=0) (x:=0) (by omega) (hU _).1 ⟨by omega,by omega⟩
 have Ox:(sH (yI c b) 0).1=0:=by rw[s0.1];show (0:Int) * _=0;rw[Int.zero_mul]
 have nd0:nd (Av c b).ns 0=⟨NO c,-1,1⟩:=rfl
 have he:HH (yI c b) (Av c b).ns 0 0:=.inr (by rw[Ox,nd0];exact Int.le_refl 0)
 have ha:tV (Av c b).ns 0 0=true:=Nx (GI.new h).up (by omega) (by show (0:Int)<((1:Nat):Int);omega)
 have ht:Jn (ol (Av c b).T) ⟨0,c.cX⟩=0:=by
  show uL (fun k=>(gx dZ [(⟨⟨0,c.cX⟩,ov bK (some b)⟩:Table)] k).ck=⟨0,c.cX⟩) 1=0
  exact Bk (p:=fun k=>(gx dZ [(⟨⟨0,c.cX⟩,ov bK (some b)⟩:Table)] k).ck=⟨0,c.cX⟩) (k:=0) rfl (fun j hj=>by omega) 1 (by omega)
 unfold jZ;rw[show (⟨0,c.cX⟩:dP).root=c.cX from rfl,g,nd0,ht,ha];rintro (h1|h1|h1|h1|h1|h1|h1|h1|h1|h1)
 ·omega
 ·omega
 ·exact absurd h1 (by show ¬(1:Int)=2;omega)
 ·exact absurd h1 (by show ¬(1:Int)=2;omega)
 ·exact h1 he
 ·exact h1 he
 ·cases h1
 ·exact absurd h1 (Int.lt_irrefl _)
 ·exact absurd h1 (by have:=(hU ((yI c b).now.tdiv (yI c b).cFg.jL)).1;unfold wH;show ¬_<(0:Int);omega)
 ·omega
theorem c62:aB Tryz.prog 62 []=some (.v (.bool true)):=by
 obtain⟨y,hy,c,b,rfl,hc⟩:=aNQ
 have fc:Flat (.agg (bW c)):=(yU c).2 (by rw[hc.iP];exact dY _)
 have aDg:∀(st:St) (d:Option Nat),fG (aB Tryz.prog) 101 [.v (.slice none 0 0)] st d=some { dst:=d,val:=.agg (bW c)}:=fun st d=>kx hy (cU (.v _)) fc st d
 have g0:=GI.new hc
 have r0:=RG.new hc
 have fs:=g0.sd.flat
 have aHl:=kx (aMj hc) (cU fc) (.eG _ (bE fs (.v _)))
 have ef:(yI c b).aU.fin=⟨0,c.cX⟩:=rfl
 have ej:(yI c b).aU.gD=⟨0,c.cX⟩:=rfl
 have R0:Rg (0:Int):=⟨by omega,by omega⟩
 have R1:Rg (1:Int):=⟨by omega,by omega⟩
 have oZ:=aHz hc
 have cj:rP (yI c b) ⟨0,c.cX⟩=⟨0,c.cX⟩:=if_neg (Int.lt_irrefl _)
 have cf:tW (yI c b) ⟨0,c.cX⟩=⟨0,c.cX⟩:=if_neg (Int.lt_irrefl _)
 have ka:=k58 g0.sd g0.up hc.jL R0 R0 R0 ⟨1,mkRoot 9⟩ ⟨0,c.cX⟩ R1 R0
 have kb:=k58 g0.sd g0.up hc.jL R0 R0 R0 ⟨0,c.cX⟩ ⟨0,c.cX⟩ R0 R0
 have bad:Ke (yI c b) (Av c b) ⟨1,mkRoot 9⟩ ⟨0,c.cX⟩=.eG [.agg (aW fV),.agg (aW fV),.v (.bool false)]:=if_pos (.inl (by
  rw[show rP (yI c b) ⟨1,mkRoot 9⟩=⟨1,mkRoot 9⟩ from if_pos (by show (0:Int)<1;omega)]
  show aN (Av c b).ns (mkRoot 9)<0
  rw[(OM hc).2];omega))
 have aDo:Ke (yI c b) (Av c b) ⟨0,c.cX⟩ ⟨0,c.cX⟩=.eG [.agg (aW ⟨0,c.cX⟩),.agg (aW ⟨0,c.cX⟩),.v (.bool true)]:=by
  unfold Ke;rw[cj,cf,if_neg oZ]
 rw[bad] at ka;rw[aDo] at kb;have up:CR (yI c b) (Av c b) ⟨0,c.cX⟩ ⟨0,c.cX⟩=yI c b:=by
  unfold CR;rw[cj,cf,if_neg oZ,if_pos ef.symm];rfl
 have hB:(Av c b).B≠some []:=fun e=>by have:=hc.nb.1;rw[show b=[] from Option.some.inj e] at this;simp at this
 have hL:(Av c b).L≠some []:=fun e=>by
  have h2:=congrArg List.length (Option.some.inj e)
  rw[List.length_replicate,List.length_nil] at h2;have:=hc.nb;omega
 have h60:=c60 g0.sd g0.up (by rw[g0.Xi];omega) hc.jL R0 R0 R0 r0.ne hB hL g0.pos ⟨0,c.cX⟩ ⟨0,c.cX⟩ R0 R0
 rw[up] at h60;have k60:=kx h60 (lM fs (.agg _ (bM _)) (.agg _ (bM _))) fs
 have ke:=k42 g0.sd
 have et:(yI c b).tree=⟨.sl (Av c b).ns.length (bZ (Av c b).ns)⟩:=rfl
 have el:(Av c b).ns.length=1:=rfl
 rw[cL Tryz.func62 rfl aTi rfl];refine gX ?_
 simp only[Z8,seval,aDg,aHl,dE,ef,ej,Ra,ka,kb,k60,ke,et,el,LU,LV,beB,beq_self_eq_true,decide_true,lD,lE];exact⟨_,bQ rfl (by simp only[E8,seval]<;>rfl) (by first|exact .v _|simp only[dU]),rfl⟩
theorem k62 (st:St) (d:Option Nat):aM (aB Tryz.prog) 62 [] st d=some { dst:=d,val:=.v (.bool true)}:=bC (fun x h=>by cases h) c62 (.v _)
theorem Wh {a:Bool} {x p:dP} {e:Int} (h:(a=true∧e≤x.aE)∨e=p.aE):e≤(if a=false∨x.aE<p.aE then p else x).aE:=by
 split<;>rename_i hh
 ·rcases h with ⟨h1,h2⟩|h
  ·rcases hh with hh|hh
   ·rw[h1] at hh;cases hh
   ·omega
  ·omega
 ·simp only[not_or,Int.not_lt] at hh;rcases h with h|h<;>omega
theorem w8 (ns:List Node):∀k:Nat,k≤ns.length→(∀j:Nat,j<k→(nd ns j).status≠2→(CK (ns.take k)).1=true∧(nd ns j).block.cV.pj.aE≤(CK (ns.take k)).2.1.aE∧(nd ns j).block.cV.pf.aE≤(CK (ns.take k)).2.2.aE)
 | 0,_=>fun j h=>by omega
 | k+1,hk=>by
   have ih:=w8 ns k (by omega)
   intro j hj hs;rw[Ri ns k (by omega)]
   unfold CJ;rcases Nat.lt_or_ge j k with h|h
   ·obtain⟨i1,i2,i3⟩:=ih j h hs
    by_cases h2:(nd ns k).status=2
    ·rw[if_pos h2];exact⟨i1,i2,i3⟩
    ·rw[if_neg h2];exact⟨rfl,Wh (.inl ⟨i1,i2⟩),Wh (.inl ⟨i1,i3⟩)⟩
   ·obtain rfl:j=k:=by omega
    rw[if_neg hs];exact⟨rfl,Wh (.inr rfl),Wh (.inr rfl)⟩
theorem c19 (l:List Int) (hl:(l.length:Int)≤9223372036854775807):aB Tryz.prog 19 [.sl l.length (aK l)]=some (.v (.bool true)):=by
 obtain⟨t,v,Q,R,hy,T⟩:=x24 l hl
 have k24:=kx hy (cU (Eo l)) T.td.flat
 have hs:=T.gi.sd
 have hn:=hs.nn
 have ka:=k66 hs
 have kb:=k67 hs
 have hmax:∀j:Nat,j<v.ns.length→(nd v.ns j).status≠2→(nd v.ns j).block.cV.pj.aE≤(zT v.ns).pj.aE∧(nd v.ns j).block.cV.pf.aE≤(zT v.ns).pf.aE:=fun j hj h2=>by
  have:=w8 v.ns v.ns.length (Nat.le_refl _) j hj h2
  rw[List.take_length] at this;exact this.2
 obtain⟨P,hP⟩:∃P,zT v.ns=P:=⟨_,rfl⟩
 rw[hP] at ka kb hmax;have ht:=hs.tree
 rw[cL Tryz.func19 rfl aTj rfl];refine gX ?_
 simp only[Z8,seval,k24,ka,kb,LU,LV,beB,bnB,bne_self_eq_false,beq_self_eq_true,decide_true,lD,lE];refine cC (fun m st=>∃k:Nat,(st.env 3=.ptr 3 0 0∧st.heap 3 0=some (.cells (aA t.store))∧st.env 4=.ptr 4 0 0∧st.heap 4 0=some (.cells (dM P))∧st.env 5=.v (.int .i64 k))∧k≤v.ns.length∧m=v.ns.length-k) (fun e st=>e=.exit 0) v.ns.length ?step ?start ?rest
 case step =>
  rintro m st ⟨k,hI,hk,hm⟩
  by_cases aY:(k:Int)<v.ns.length
  ·have q0:(0:Int)≤k:=by omega
   have hw:IntKind.i64.wrap ((k:Int)+1)=((k+1:Nat):Int):=by rw[mT _ (by omega) (by omega)];omega
   by_cases h2:(nd v.ns k).status=2
   ·apply oN (v.ns.length-(k+1))
    ·simp only[Z8,seval,hI,aY,q0,ht,bt h2,hw];rfl
    ·exact⟨k+1,by simp only[E8,seval,hI],by omega,rfl⟩
   ·obtain⟨a1,a2⟩:=hmax k (by omega) h2
    have d1:¬P.pj.aE<(nd v.ns k).block.cV.pj.aE:=by omega
    have d2:¬P.pf.aE<(nd v.ns k).block.cV.pf.aE:=by omega
    apply oN (v.ns.length-(k+1))
    ·simp only[Z8,seval,hI,aY,q0,ht,bf h2,d1,d2,hw];rfl
    ·exact⟨k+1,by simp only[E8,seval,hI],by omega,rfl⟩
  ·apply oT (.exit 0)
   ·simp only[Z8,seval,hI,aY,ht];rfl
   ·rfl
 case start=>exact⟨0,by simp only[E8,seval]<;>rfl,by omega,by omega⟩
 case rest =>
  rintro e st rfl
  simp only[Z8,seval,k62];exact⟨_,bQ rfl (by simp only[E8,seval]<;>rfl) (by first|exact .v _|simp only[dU]),rfl⟩
theorem c20 (l:List Int) (b:Block) (k:Int) (hl:(l.length:Int)≤9223372036854775807) (rb:RB b):aB Tryz.prog 20 [.sl l.length (aK l),.agg (aP b),.v (.int .i64 k)]=some (.v (.bool true)):=by
 obtain⟨t,v,Q,R,hy,T⟩:=x24 l hl
 have k24:=kx hy (cU (Eo l)) T.td.flat
 have yE:(0:Int)<(v.ns.length:Int):=by have:=T.gi.pos;omega
 have gP:¬((v.ns.length:Int)=0):=by omega
 obtain⟨b0,b1⟩:=yS k 16777215 (by decide)
 obtain⟨kk,U8⟩:∃kk,IntKind.i64.wrap ((BitVec.ofInt IntKind.i64.bits k &&& BitVec.ofInt IntKind.i64.bits 16777215).toNat:Int)=kk:=⟨_,rfl⟩
 rw[U8] at b0;obtain⟨m1,m2⟩:=cK (n:=(v.ns.length:Int)) b0 yE
 obtain⟨p,hp⟩:∃p,kk.tmod (v.ns.length:Int)=p:=⟨_,rfl⟩
 rw[hp] at m1 m2;obtain⟨y,hy2,b',rfl,rb'⟩:=x50 T.gi T.rg 99 kk b0
 have k50:=kx hy2 (lM T.gi.sd.flat (.v _) (.v _)) (qL b')
 have s1:=rb.sl
 have s2:=rb'.sl
 have ka:∀b':Block,Rg b'.slot→∀(st:St) (d:Option Nat),aM (aB Tryz.prog) 68 [.agg (aA t.store),.agg (aP b')] st d=_:=fun b' hb=>k68 T.gi T.rg b' hb
 have kb:=O8 T.gi.sd T.gi.up T.gi.sp
 have ht:=T.gi.sd.tree
 rw[cL Tryz.func20 rfl aTk rfl];refine gX ?_
 by_cases g:(0:Int)<IntKind.u64.wrap ((BitVec.ofInt IntKind.u64.bits b.slot &&& BitVec.ofInt IntKind.u64.bits 3).toNat:Int)
 ·simp only[Z8,seval,k24,U8,k50,g,hp,gP,m1,m2,ht,ka,kb,s1,s2,hU,LV,beB,beq_self_eq_true,k62,lD,lE];exact⟨_,bQ rfl (by simp only[E8,seval]<;>rfl) (by first|exact .v _|simp only[dU]),rfl⟩
 ·simp only[Z8,seval,k24,U8,k50,g,ka,kb,s1,s2,hU,LV,beB,beq_self_eq_true,k62,lD,lE];exact⟨_,bQ rfl (by simp only[E8,seval]<;>rfl) (by first|exact .v _|simp only[dU]),rfl⟩
end Go.Ab.Tryz
