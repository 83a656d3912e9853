/-
  Part 11 of the proof: an evaluator of programs, its soundness, and what functions of this program compute.
-/
import Derived.Test.YtmcjkemalibacaaGreatK10
import Derived.Test.YtmcjkemalibacaaGreatK7
import Derived.Test.YtmcjkemalibacaaGreatK9
set_option linter.all false
set_option maxRecDepth 20000
set_option maxHeartbeats 40000000
namespace Go.Ab.Tryz
open Classical Go.Proofs Go.Ab
theorem c64 (ns:List Node) (hu:gK ns) (hn:(ns.length:Int)<1000000) (i:Int):aB Tryz.prog 64 [.agg (cO ⟨ns⟩),.v (.int .i64 i)]=some (if Hk ns i ns.length=[] then .v (.slice none 0 0) else .uniq 3 1 (Hk ns i ns.length).length (aK (Hk ns i ns.length))):=by
 rw[cL Tryz.func64 rfl aPS rfl];have h41:=Pq ns hu hn
 simp only[ZZ,seval];refine kJ (fun n st=>∃k:Nat,st.env 1=.v (.int .i64 i)∧st.env 2=.ptr 2 0 0∧st.heap 2 0=some (.cells (cO ⟨ns⟩))∧st.env 6=.v (.int .i64 k) ∧
  ((Hk ns i k=[]∧st.env 5=.v (.slice none 0 0))∨(Hk ns i k≠[]∧∃g,st.env 5=.own 21 g∧g<st.aU 21∧st.heap 21 g=some (.row 3 1 (Hk ns i k).length (aK (Hk ns i k)))))∧k≤ns.length∧n=ns.length-k)
  (fun e st=>e=.exit 0∧((Hk ns i ns.length=[]∧st.env 5=.v (.slice none 0 0))∨(Hk ns i ns.length≠[]∧∃g,st.env 5=.own 21 g∧g<st.aU 21∧st.heap 21 g=some (.row 3 1 (Hk ns i ns.length).length (aK (Hk ns i ns.length)))))) ns.length ?step ?start ?rest
 case step =>
  rintro n st ⟨k,h1,h2,uZ,h6,h5,hk,Hu⟩
  have hdl:=Xr ns i k
  have hdl':((Hk ns i k).length:Int)<1000000:=by omega
  by_cases bA:(k:Int)<ns.length
  ·have hw:IntKind.i64.wrap ((k:Int)+1)=((k+1:Nat):Int):=by rw[Hi _ (by omega) (by omega)];omega
   cases ha:tW ns i k
   ·have hs:Hk ns i (k+1)=Hk ns i k:=by simp only[Hk,ha,Bool.false_eq_true,if_false]
    rcases h5 with ⟨hy,h5⟩|⟨hy,g,h5,hg,Bh⟩
    ·apply oN (ns.length-(k+1))
     ·simp only[ZZ,seval,h1,h2,uZ,h6,h5,bA,hw,h41,ha];rfl
     ·exact⟨k+1,by simp only[EV,seval,h1],by simp only[EV,seval,h2],by simp only[EV,seval,uZ],(by simp only[EV,seval]),.inl ⟨by rw[hs];exact hy,by simp only[EV,seval,h5]⟩,by omega,rfl⟩
    ·apply oN (ns.length-(k+1))
     ·simp only[ZZ,seval,h1,h2,uZ,h6,h5,Bh,bA,hw,h41,ha];rfl
     ·exact⟨k+1,by simp only[EV,seval,h1],by simp only[EV,seval,h2],by simp only[EV,seval,uZ],(by simp only[EV,seval]),.inr ⟨by rw[hs];exact hy,g,by simp only[EV,seval,h5],(by simp only[EV,seval]<;>omega),(by rw[hs];simp only[EV,seval,Bh])⟩,by omega,rfl⟩
   ·have hs:Hk ns i (k+1)=Hk ns i k++[(k:Int)]:=by simp only[Hk,ha,if_true]
    rcases h5 with ⟨hy,h5⟩|⟨hy,g,h5,hg,Bh⟩
    ·rw[hy] at hs;apply oN (ns.length-(k+1))
     ·simp only[ZZ,seval,h1,h2,uZ,h6,h5,bA,hw,h41,ha];rfl
     ·exact⟨k+1,by simp only[EV,seval,h1],by simp only[EV,seval,h2],by simp only[EV,seval,uZ],(by simp only[EV,seval]),.inr ⟨by rw[hs];simp,_,by simp only[EV,seval]<;>rfl,(by simp only[EV,seval]<;>omega),(by rw[hs];simp only[EV,seval]<;>rfl)⟩,by omega,rfl⟩
    ·apply oN (ns.length-(k+1))
     ·simp only[ZZ,seval,h1,h2,uZ,h6,h5,Bh,hdl',bA,hw,h41,ha];rfl
     ·exact⟨k+1,by simp only[EV,seval,h1],by simp only[EV,seval,h2],by simp only[EV,seval,uZ],(by simp only[EV,seval]),.inr ⟨by rw[hs];simp,_,by simp only[EV,seval]<;>rfl,(by simp only[EV,seval]<;>omega),(by rw[hs];simp only[EV,seval]<;>rfl)⟩,by omega,rfl⟩
  ·obtain rfl:k=ns.length:=by omega
   apply oT (.exit 0)
   ·simp only[ZZ,seval,h2,uZ,h6,bA];rfl
   ·exact⟨rfl,by simpa only[EV,seval] using h5⟩
 case start=>exact⟨0,(by simp only[EV,seval]),(by simp only[EV,seval]),(by simp only[EV,seval]),(by simp only[EV,seval]),.inl ⟨rfl,(by simp only[EV,seval])⟩,by omega,rfl⟩
 case rest =>
  rintro e st ⟨rfl,⟨hy,h5⟩|⟨hy,g,h5,hg,Bh⟩⟩
  ·rw[if_pos hy];simp only[ZZ,seval,h5];exact bZ rfl (by simp only[EV,seval]) (.v _)
  ·rw[if_neg hy];simp only[ZZ,seval,h5,Bh];exact tV rfl (by simp only[EV,seval];rfl) (by simp only[EV,seval,Bh]) (fV _)
theorem k64 (ns:List Node) (hu:gK ns) (hn:(ns.length:Int)<1000000) (i:Int) (h:Hk ns i ns.length≠[]) (st:St) (d:Nat):aO (aB Tryz.prog) 64 [.agg (cO ⟨ns⟩),.v (.int .i64 i)] st (some d)=some { dst:=some d,val:=.own d (st.aU d),new:=some (d,[.row 3 1 (Hk ns i ns.length).length (aK (Hk ns i ns.length))])}:=by
 have hc:=c64 ns hu hn i
 rw[if_neg h] at hc;exact jG (bF (mD _) (.v _)) hc
end Go.Ab.Tryz
namespace Go.Ab.Tryz
open Classical Go.Proofs Go.Ab
end Go.Ab.Tryz
namespace Go.Ab.Tryz
open Classical Go.Proofs Go.Ab
theorem aCH (args:List AV) (st:St) (d:Option Nat):aO (aB Tryz.prog) 247 args st d=uF (aB Tryz.prog) 247 (cM (args.map (fP st))) (decide (∀x∈args,Flat x)) st d:=jV _ _ _ _ _
theorem G3:Flat (.agg [.v (.slice none 0 0)]):=.agg _ (cV (.v _))
theorem vO (e:Int):Flat (DU e):=.eG _ (bF G3 (.v _))
def stA (o:Option (List Node)):AV :=
 match o with
 | none=>DU 21
 | some r=>.eG [.agg (cO ⟨r⟩),.v (.int .i64 0)]
theorem NY (o:Option (List Node)):Flat (stA o):=by
 cases o with
 | none=>exact vO _
 | some r=>exact .eG _ (bF (mD _) (.v _))
noncomputable def raO (ns:List Node) (i:Int):Option (List Node):=GR 1 2 (path ns i) ns
noncomputable def coO (ns:List Node) (i:Int):Option (List Node):=GR 2 1 (Hk ns i ns.length) ns
noncomputable def P8 (ns:List Node) (i:Int):AV:=if 0≤i∧i<ns.length then stA (raO ns i) else DU 10
noncomputable def P9 (ns:List Node) (i:Int):AV:=if 0≤i∧i<ns.length then stA (coO ns i) else DU 10
theorem Xu {ns:List Node} (hu:gK ns) {i:Int}:∀x∈path ns i,0≤x∧x<ns.length:=fun x hx=>vL hu hx
theorem p8 (ns:List Node) (i:Int):∀x∈Hk ns i ns.length,0≤x∧x<ns.length:=fun x hx=>((o6 ns i x _).1 hx).1
theorem aPV (ns:List Node) (hu:gK ns) (hn:(ns.length:Int)<1000000) (i:Int):aB Tryz.prog 236 [.agg (cO ⟨ns⟩),.v (.int .i64 i)]=some (P8 ns i):=by
 rw[cL Tryz.func236 rfl aKv rfl];unfold P8;by_cases hm:0≤i∧i<ns.length
 ·rw[if_pos hm];have hd:(decide (0≤i) && decide (i<ns.length))=true:=by simp[hm.1,hm.2]
  have h45:=k76 ns hu hn i hm.1 hm.2
  have hpl:=Bs hu i
  have hc:=aKt ns (by omega) hn (path ns i) (by omega) (Xu hu) 1 2
  unfold raO;cases ho:GR 1 2 (path ns i) ns with
  | none =>
    rw[ho] at hc;have hK:=fun (fl:Bool) (st:St) (d:Option Nat)=>aKn (fl:=fl) (st:=st) (d:=d) hc
    simp only[ZZ,seval,US,hd,h45,aCH,hK,dN];exact dK rfl (by simp only[bY,ZZ,seval];rfl) (by simp only[bY,EV,seval]<;>rfl) (by simp only[EV,seval]<;>rfl) (by simp only[EV,seval]<;>rfl)
  | some r =>
    rw[ho] at hc;have hK:=fun (fl:Bool) (st:St) (d:Nat)=>aKm (fl:=fl) (st:=st) (d:=d) hc (Zd r)
    simp only[ZZ,seval,US,hd,h45,aCH,hK,dN];exact dK rfl (by simp only[bY,ZZ,seval];rfl) (by simp only[bY,EV,seval]<;>rfl) (by simp only[EV,seval]<;>rfl) (by simp only[EV,seval]<;>rfl)
 ·rw[if_neg hm];have hd:(decide (0≤i) && decide (i<ns.length))=false:=by rw[← Bool.not_eq_true];simpa using hm
  simp only[ZZ,seval,US,hd];exact dK rfl (by simp only[bY,ZZ,seval];rfl) (by simp only[bY,EV,seval]<;>rfl) (by simp only[EV,seval]<;>rfl) (by simp only[EV,seval]<;>rfl)
theorem aPW (ns:List Node) (hu:gK ns) (hn:(ns.length:Int)<1000000) (i:Int):aB Tryz.prog 238 [.agg (cO ⟨ns⟩),.v (.int .i64 i)]=some (P9 ns i):=by
 rw[cL Tryz.func238 rfl aKw rfl];unfold P9;by_cases hm:0≤i∧i<ns.length
 ·rw[if_pos hm];have hd:(decide (0≤i) && decide (i<ns.length))=true:=by simp[hm.1,hm.2]
  have h36:=k64 ns hu hn i (VO hu hm.1 hm.2 _ hm.2)
  have hdl:=Xr ns i ns.length
  have hc:=aKt ns (by omega) hn (Hk ns i ns.length) (by omega) (p8 ns i) 2 1
  unfold coO;cases ho:GR 2 1 (Hk ns i ns.length) ns with
  | none =>
    rw[ho] at hc;have hK:=fun (fl:Bool) (st:St) (d:Option Nat)=>aKn (fl:=fl) (st:=st) (d:=d) hc
    simp only[ZZ,seval,US,hd,h36,aCH,hK,dN];exact dK rfl (by simp only[bY,ZZ,seval];rfl) (by simp only[bY,EV,seval]<;>rfl) (by simp only[EV,seval]<;>rfl) (by simp only[EV,seval]<;>rfl)
  | some r =>
    rw[ho] at hc;have hK:=fun (fl:Bool) (st:St) (d:Nat)=>aKm (fl:=fl) (st:=st) (d:=d) hc (Zd r)
    simp only[ZZ,seval,US,hd,h36,aCH,hK,dN];exact dK rfl (by simp only[bY,ZZ,seval];rfl) (by simp only[bY,EV,seval]<;>rfl) (by simp only[EV,seval]<;>rfl) (by simp only[EV,seval]<;>rfl)
 ·rw[if_neg hm];have hd:(decide (0≤i) && decide (i<ns.length))=false:=by rw[← Bool.not_eq_true];simpa using hm
  simp only[ZZ,seval,US,hd];exact dK rfl (by simp only[bY,ZZ,seval];rfl) (by simp only[bY,EV,seval]<;>rfl) (by simp only[EV,seval]<;>rfl) (by simp only[EV,seval]<;>rfl)
theorem NZ (ns:List Node) (i:Int):Flat (P8 ns i):=by unfold P8;split;exact NY _;exact vO _
theorem Zg (ns:List Node) (i:Int):Flat (P9 ns i):=by unfold P9;split;exact NY _;exact vO _
theorem aKx (ns:List Node) (hu:gK ns) (hn:(ns.length:Int)<1000000) (i:Int) (st:St) (d:Option Nat):aO (aB Tryz.prog) 236 [.agg (cO ⟨ns⟩),.v (.int .i64 i)] st d=some { dst:=d,val:=P8 ns i }:=bG (bF (mD _) (.v _)) (aPV ns hu hn i) (NZ ns i)
theorem aKy (ns:List Node) (hu:gK ns) (hn:(ns.length:Int)<1000000) (i:Int) (st:St) (d:Option Nat):aO (aB Tryz.prog) 238 [.agg (cO ⟨ns⟩),.v (.int .i64 i)] st d=some { dst:=d,val:=P9 ns i }:=bG (bF (mD _) (.v _)) (aPW ns hu hn i) (Zg ns i)
end Go.Ab.Tryz
namespace Go.Ab.Tryz
open Classical Go.Proofs Go.Ab
end Go.Ab.Tryz
namespace Go.Ab.Tryz
open Classical Go.Proofs Go.Ab
theorem G4 (ns:List Node) (hn:(ns.length:Int)<1000000) (i:Int):(∃e,P8 ns i=.eG [.agg [.v (.slice none 0 0)],.v (.int .i64 e)])∨∃r:List Node,P8 ns i=.eG [.agg (cO ⟨r⟩),.v (.int .i64 0)]∧(r.length:Int)<1000000:=by
 unfold P8;split
 ·cases h:raO ns i with
  | none=>exact .inl ⟨21,rfl⟩
  | some r=>exact .inr ⟨r,rfl,by rw[IX _ _ _ h];exact hn⟩
 ·exact .inl ⟨10,rfl⟩
theorem GS (ns:List Node) (hn:(ns.length:Int)<1000000) (i:Int):(∃e,P9 ns i=.eG [.agg [.v (.slice none 0 0)],.v (.int .i64 e)])∨∃r:List Node,P9 ns i=.eG [.agg (cO ⟨r⟩),.v (.int .i64 0)]∧(r.length:Int)<1000000:=by
 unfold P9;split
 ·cases h:coO ns i with
  | none=>exact .inl ⟨21,rfl⟩
  | some r=>exact .inr ⟨r,rfl,by rw[IX _ _ _ h];exact hn⟩
 ·exact .inl ⟨10,rfl⟩
def pay (ns:List Node) (x:Int):cN:=(nd ns x).block.jL
noncomputable def Ad (ns:List Node) (p:List Int):Nat→Option Nat
 | 0=>none
 | n+1=>if pay ns (it p ((p.length-(n+1):Nat):Int))=dR then Ad ns p n else some (p.length-(n+1))
noncomputable def Ik (ns:List Node) (p:List Int) (h:cN):Nat→Option Nat
 | 0=>none
 | n+1=>if pay ns (it p (n:Int))=h then some n else Ik ns p h n
noncomputable def pB (ns:List Node) (i:Int) (h:cN):Int × Int :=
 if path ns i=[] then (-1,-1)
 else if h=dR then
  match Ad ns (path ns i) (path ns i).length with
  | none=>(-1,i)
  | some k=>(if k=0 then -1 else it (path ns i) ((k:Int)-1),it (path ns i) k)
 else
  match Ik ns (path ns i) h ((path ns i).length-1) with
  | none=>(-1,i)
  | some k=>(it (path ns i) k,it (path ns i) ((k:Int)+1))
noncomputable def reA (ns:List Node) (i:Int) (h:cN):AV:=.eG [.v (.int .i64 (pB ns i h).1),.v (.int .i64 (pB ns i h).2)]
theorem GU {ns:List Node} {p:List Int}:∀(n k:Nat),n≤p.length→Ad ns p n=some k→k<p.length
 | 0,k,_,h=>by simp[Ad] at h
 | n+1,k,hn,h=>by
   simp only[Ad] at h;split at h
   ·exact GU n k (by omega) h
   ·simp at h;omega
theorem OA {ns:List Node} {p:List Int} {h:cN}:∀(n k:Nat),Ik ns p h n=some k→k<n
 | 0,k,hk=>by simp[Ik] at hk
 | n+1,k,hk=>by
   simp only[Ik] at hk;split at hk
   ·simp at hk;omega
   ·have:=OA n k hk;omega
theorem VU {ns:List Node} {i:Int} {h:cN} (hp:path ns i=[]):pB ns i h=(-1,-1):=if_pos hp
theorem aGh {ns:List Node} {i j:Int} (i0:0≤i) (i1:i<ns.length) (j0:0≤j) (y:Node):nd (ns.set i.toNat y) j=if j=i then y else nd ns j:=by
 unfold nd;rw[List.getD_eq_getElem?_getD,List.getD_eq_getElem?_getD];by_cases h:j=i
 ·subst h;have:j.toNat<ns.length:=by omega
  simp[this]
 ·rw[if_neg h,List.getElem?_set_ne (by omega)]
theorem OB {to never:Int} (fQ:to≠never):∀(l:List Int) (ns r:List Node),(∀x∈l,0≤x∧x<ns.length)→GR to never l ns=some r →
 (∀x∈l,(nd ns x).status≠never)∧r.length=ns.length∧∀j:Int,0≤j→j<ns.length→nd r j=if j∈l then Zf (nd ns j) to else nd ns j
 | [],ns,r,_,h=>by
   simp only[GR,Option.some.injEq] at h;subst h;exact⟨by simp,rfl,by simp⟩
 | i :: l,ns,r,hl,h=>by
   simp only[GR] at h;split at h
   ·cases h
   ·rename_i hs;obtain⟨i0,i1⟩:=hl i (by simp)
    obtain⟨h1,h2,h3⟩:=OB fQ l (setAt ns i to) r (fun x hx=>by rw[Dt];exact hl x (by simp[hx])) h
    rw[Dt] at h2 h3;have hnd:∀j:Int,0≤j→nd (setAt ns i to) j=if j=i then Zf (nd ns i) to else nd ns j:=fun j j0=>aGh i0 i1 j0 _
    refine⟨fun x hx=>?_,h2,fun j j0 j1=>?_⟩
    ·rcases List.mem_cons.1 hx with rfl|hx
     ·exact hs
     ·by_cases hxi:x=i
      ·subst hxi;exact hs
      ·have:=h1 x hx
       rw[hnd x (hl x (by simp[hx])).1,if_neg hxi] at this
       exact this
    ·rw[h3 j j0 j1,hnd j j0];by_cases hji:j=i
     ·subst hji;simp only[if_true,List.mem_cons,true_or];split<;>rfl
     ·simp[hji]
structure VV (a b:List Node):Prop where
 len:a.length=b.length
 up:∀j:Int,0≤j→j<a.length→(nd a j).up=(nd b j).up
theorem VV.aPZ {a b:List Node} (h:VV a b) (hu:gK a):gK b:=fun i i0 i1=>by rw[← h.up i (by omega) (by rw[h.len];exact i1)];exact hu i i0 (by rw[h.len];exact i1)
structure Chd (ns r:List Node) (l:List Int) (to:Int):Prop where
 len:r.length=ns.length
 at_:∀j:Int,0≤j→j<ns.length→nd r j=if j∈l then Zf (nd ns j) to else nd ns j
theorem Chd.su {ns r:List Node} {l:List Int} {to:Int} (h:Chd ns r l to):VV ns r where
 len:=h.len.symm
 up:=fun j j0 j1=>by rw[h.at_ j j0 j1];split<;>rfl
theorem Chd.block {ns r:List Node} {l:List Int} {to:Int} (h:Chd ns r l to) {j:Int} (j0:0≤j) (j1:j<ns.length):(nd r j).block=(nd ns j).block:=by
 rw[h.at_ j j0 j1];split<;>rfl
theorem Chd.upE {ns r:List Node} {l:List Int} {to:Int} (h:Chd ns r l to) {j:Int} (j0:0≤j) (j1:j<ns.length):(nd r j).up=(nd ns j).up:=by
 rw[h.at_ j j0 j1];split<;>rfl
theorem Chd.st {ns r:List Node} {l:List Int} {to:Int} (h:Chd ns r l to) {j:Int} (j0:0≤j) (j1:j<ns.length):(nd r j).status=if j∈l then to else (nd ns j).status:=by
 rw[h.at_ j j0 j1];split<;>rfl
structure aGi (ns r:List Node) (i:Int):Prop where
 c:Chd ns r (path ns i) 1
 ok:∀x∈path ns i,(nd ns x).status≠2
theorem G5 {ns r:List Node} (hu:gK ns) {i:Int} (h:raO ns i=some r):aGi ns r i:=by
 obtain⟨h1,h2,h3⟩:=OB (by decide) _ _ _ (Xu hu) h
 exact⟨⟨h2,h3⟩,h1⟩
structure aJn (ns r:List Node) (i:Int):Prop where
 c:Chd ns r (Hk ns i ns.length) 2
 ok:∀x∈Hk ns i ns.length,(nd ns x).status≠1
theorem GV {ns:List Node} (hu:gK ns):∀(n:Nat) (c:Int),c.toNat=n→0≤c→c<ns.length→∀k:Int,1≤k→k<(path ns c).length→(nd ns (it (path ns c) k)).up=it (path ns c) (k-1):=by
 intro n;induction n using Nat.strongRecOn with
 | _ n ih =>
   intro c hc c0 c1 k k0 k1;by_cases h:c=0
   ·subst h;rw[rH (by omega)] at k1
    simp at k1
    omega
   ·obtain⟨u0,u1⟩:=hu c (by omega) c1
    rw[pW hu (by omega) c1] at k1 ⊢
    simp at k1
    by_cases hk:k=(path ns (nd ns c).up).length
    ·rw[vM hk,kN (by omega) (by omega),hk,G1 hu u0 (by omega)]
    ·rw[kN (by omega) (by omega),kN (by omega) (by omega)]
     exact ih (nd ns c).up.toNat (by omega) _ rfl u0 (by omega) k k0 (by omega)
theorem T8 {ns:List Node} (hu:gK ns):∀(n:Nat) (c:Int),c.toNat=n→0≤c→c<ns.length→it (path ns c) 0=0:=by
 intro n;induction n using Nat.strongRecOn with
 | _ n ih =>
   intro c hc c0 c1;by_cases h:c=0
   ·subst h;rw[rH (by omega)];rfl
   ·obtain⟨u0,u1⟩:=hu c (by omega) c1
    have:=IY hu u0 (by omega)
    rw[pW hu (by omega) c1,kN (Int.le_refl _) (by omega)]
    exact ih _ (by omega) _ rfl u0 (by omega)
theorem aP1 (ns:List Node) (hu:gK ns) (hr:(nd ns 0).up=-1) (hn:(ns.length:Int)<1000000) (i:Int) (h:cN):aB Tryz.prog 237 [.agg (cO ⟨ns⟩),.v (.int .i64 i),.agg (bD h)]=some (reA ns i h):=by
 rw[cL Tryz.func237 rfl aKz rfl];unfold reA;by_cases hm:0≤i∧i<ns.length
 ·have h45:=k76 ns hu hn i hm.1 hm.2
  have hpl:=Bs hu i
  have hp0:=IY hu hm.1 hm.2
  have hin:=Xu hu (i:=i)
  have hpe:path ns i≠[]:=by intro h;rw[h] at hp0;simp at hp0
  have hq:(((path ns i).length:Int) == 0)=false:=by simp[hpe]
  have Pb:=fun k h h'=>GV hu _ i rfl hm.1 hm.2 k h h'
  have hi0:=T8 hu _ i rfl hm.1 hm.2
  unfold pB;rw[if_neg hpe];generalize path ns i=p at h45 hpl hp0 hin hq Pb hi0
  by_cases hz:h=dR
  ·have hd:decide (h=dR)=true:=decide_eq_true hz
   rw[if_pos hz];simp only[ZZ,seval,h45,hq,hd];refine kJ (fun n st=>∃k:Nat,(st.env 1=.v (.int .i64 i)∧st.env 3=.ptr 3 0 0∧st.heap 3 0=some (.cells (cO ⟨ns⟩))∧st.env 8=.own 13 0∧st.heap 13 0=some (.row 3 1 p.length (aK p))∧st.env 9=.v (.int .i64 k))∧Ad ns p p.length=Ad ns p (p.length-k)∧k≤p.length∧n=p.length-k)
    (fun e st=>(e=.ret∧∃k,Ad ns p p.length=some k∧st.env 6=.v (.int .i64 (if k=0 then -1 else it p ((k:Int)-1)))∧st.env 7=.v (.int .i64 (it p k)))∨(e=.exit 0∧Ad ns p p.length=none∧st.env 1=.v (.int .i64 i))) p.length ?step ?start ?rest
   case step =>
    rintro n st ⟨k,hI,hf,hk,Hu⟩
    by_cases bA:(k:Int)<p.length
    ·have q0:(0:Int)≤k:=by omega
     have hw:IntKind.i64.wrap ((k:Int)+1)=((k+1:Nat):Int):=by rw[Hi _ (by omega) (by omega)];omega
     obtain⟨x0,x1⟩:=hin _ (Fw q0 bA)
     obtain⟨m,hm'⟩:∃m,p.length-k=m+1:=⟨p.length-k-1,by omega⟩
     rw[hm'] at hf;simp only[Ad] at hf;rw[show p.length-(m+1)=k by omega] at hf
     by_cases hpz:pay ns (it p k)=dR
     ·rw[if_pos hpz] at hf;have hd2:decide ((nd ns (it p k)).block.jL=dR)=true:=decide_eq_true hpz
      apply oN (p.length-(k+1))
      ·simp only[ZZ,seval,hI,bA,q0,x0,x1,hd2,hw];rfl
      ·exact⟨k+1,by simp only[EV,seval,hI],by rw[hf,show p.length-(k+1)=m by omega],by omega,rfl⟩
     ·rw[if_neg hpz] at hf;have hd2:decide ((nd ns (it p k)).block.jL=dR)=false:=decide_eq_false hpz
      have hupk:(nd ns (it p k)).up=if k=0 then -1 else it p ((k:Int)-1):=by
       by_cases rG:k=0
       ·rw[if_pos rG,show ((k:Int))=0 by omega,hi0,hr]
       ·rw[if_neg rG,Pb k (by omega) bA]
      apply oT (.ret)
      ·simp only[ZZ,seval,hI,bA,q0,x0,x1,hd2];rfl
      ·exact .inl ⟨rfl,k,hf,by rw[← hupk];simp only[EV,seval],by simp only[EV,seval]⟩
    ·obtain rfl:k=p.length:=by omega
     rw[Nat.sub_self] at hf;apply oT (.exit 0)
     ·simp only[ZZ,seval,hI,bA];rfl
     ·exact .inr ⟨rfl,hf,by simp only[EV,seval,hI]⟩
   case start=>exact⟨0,by simp only[EV,seval]<;>rfl,rfl,by omega,rfl⟩
   case rest =>
    rintro e st (⟨rfl,k,hf,h6,h7⟩|⟨rfl,hf,h1⟩)
    ·rw[hf];simp only[ZZ,seval];exact dK rfl (by simp only[bY,EV,seval,h6]<;>rfl) (by simp only[bY,EV,seval,h7]<;>rfl) (by simp only[EV,seval]<;>rfl) (by simp only[EV,seval]<;>rfl)
    ·rw[hf];simp only[ZZ,seval,h1];exact dK rfl (by simp only[bY,EV,seval]<;>rfl) (by simp only[bY,EV,seval]<;>rfl) (by simp only[EV,seval]<;>rfl) (by simp only[EV,seval]<;>rfl)
  ·have hd:decide (h=dR)=false:=decide_eq_false hz
   have hw0:IntKind.i64.wrap ((p.length:Int)-2)=(p.length:Int)-2:=Hi _ (by omega) (by omega)
   rw[if_neg hz];simp only[ZZ,seval,h45,hq,hd,hw0];refine kJ (fun n st=>∃m:Nat,(st.env 1=.v (.int .i64 i)∧st.env 3=.ptr 3 0 0∧st.heap 3 0=some (.cells (cO ⟨ns⟩))∧st.env 5=.ptr 5 0 0∧st.heap 5 0=some (.cells (bD h))∧st.env 8=.own 13 0∧st.heap 13 0=some (.row 3 1 p.length (aK p))∧st.env 10=.v (.int .i64 ((m:Int)-1)))∧Ik ns p h (p.length-1)=Ik ns p h m∧m≤p.length-1∧n=m)
    (fun e st=>(e=.ret∧∃k,Ik ns p h (p.length-1)=some k∧st.env 6=.v (.int .i64 (it p k))∧st.env 7=.v (.int .i64 (it p ((k:Int)+1))))∨(e=.exit 2∧Ik ns p h (p.length-1)=none∧st.env 1=.v (.int .i64 i))) (p.length-1) ?step ?start ?rest
   case step =>
    rintro n st ⟨m,hI,hf,hm',Hu⟩
    by_cases bA:(0:Int)≤(m:Int)-1
    ·obtain⟨k,rfl⟩:∃k,m=k+1:=⟨m-1,by omega⟩
     have e1:((k+1:Nat):Int)-1=k:=by omega
     rw[e1] at hI bA;have k1:(k:Int)<p.length:=by omega
     have hw:IntKind.i64.wrap ((k:Int)-1)=(k:Int)-1:=Hi _ (by omega) (by omega)
     obtain⟨x0,x1⟩:=hin _ (Fw bA k1)
     simp only[Ik] at hf;by_cases hpz:pay ns (it p k)=h
     ·rw[if_pos hpz] at hf;have hd2:decide ((nd ns (it p k)).block.jL=h)=true:=decide_eq_true hpz
      have p9:IntKind.i64.wrap ((k:Int)+1)=(k:Int)+1:=Hi _ (by omega) (by omega)
      have r0:(0:Int)≤(k:Int)+1:=by omega
      have r1:(k:Int)+1<p.length:=by omega
      apply oT (.ret)
      ·simp only[ZZ,seval,hI,bA,k1,x0,x1,hd2,p9,r0,r1];rfl
      ·exact .inl ⟨rfl,k,hf,by simp only[EV,seval],by simp only[EV,seval]⟩
     ·rw[if_neg hpz] at hf;have hd2:decide ((nd ns (it p k)).block.jL=h)=false:=decide_eq_false hpz
      apply oN (k)
      ·simp only[ZZ,seval,hI,bA,k1,x0,x1,hd2,hw];rfl
      ·exact⟨k,by simp only[EV,seval,hI],hf,by omega,rfl⟩
    ·obtain rfl:m=0:=by omega
     apply oT (.exit 2)
     ·simp only[ZZ,seval,hI,bA];rfl
     ·exact .inr ⟨rfl,hf,by simp only[EV,seval,hI]⟩
   case start =>
    have hs:(p.length:Int)-2=((p.length-1:Nat):Int)-1:=by omega
    exact⟨p.length-1,by simp only[EV,seval,hs],rfl,by omega,rfl⟩
   case rest =>
    rintro e st (⟨rfl,k,hf,h6,h7⟩|⟨rfl,hf,h1⟩)
    ·rw[hf];simp only[ZZ,seval];exact dK rfl (by simp only[bY,EV,seval,h6]<;>rfl) (by simp only[bY,EV,seval,h7]<;>rfl) (by simp only[EV,seval]<;>rfl) (by simp only[EV,seval]<;>rfl)
    ·rw[hf];simp only[ZZ,seval,h1];exact dK rfl (by simp only[bY,EV,seval]<;>rfl) (by simp only[bY,EV,seval]<;>rfl) (by simp only[EV,seval]<;>rfl) (by simp only[EV,seval]<;>rfl)
 ·rw[VU (zG hm)];have h45:=E4 ns i hm
  simp only[ZZ,seval,h45];exact dK rfl (by simp only[bY,EV,seval]<;>rfl) (by simp only[bY,EV,seval]<;>rfl) (by simp only[EV,seval]<;>rfl) (by simp only[EV,seval]<;>rfl)
theorem T9 (ns:List Node) (i:Int) (h:cN):Flat (reA ns i h):=.eG _ (bF (.v _) (.v _))
theorem aP2 (ns:List Node) (hu:gK ns) (hr:(nd ns 0).up=-1) (hn:(ns.length:Int)<1000000) (i:Int) (h:cN) (st:St) (d:Option Nat):aO (aB Tryz.prog) 237 [.agg (cO ⟨ns⟩),.v (.int .i64 i),.agg (bD h)] st d=some { dst:=d,val:=.eG [.v (.int .i64 (pB ns i h).1),.v (.int .i64 (pB ns i h).2)]}:=bG (mE (mD _) (.v _) (qQ _)) (aP1 ns hu hr hn i h) (T9 ns i h)
theorem VW {ns:List Node} (hu:gK ns) (hr:(nd ns 0).up=-1) {i:Int} (i0:0≤i) (i1:i<ns.length) (h:cN):(pB ns i h).2∈path ns i∧((pB ns i h).1<0∨((pB ns i h).1∈path ns i∧(nd ns (pB ns i h).2).up=(pB ns i h).1)):=by
 have hp0:=IY hu i0 i1
 have hpe:path ns i≠[]:=by intro h;rw[h] at hp0;simp at hp0
 have Vn:=vK hu i0 i1
 have Pb:=fun k h h'=>GV hu _ i rfl i0 i1 k h h'
 unfold pB;rw[if_neg hpe];by_cases hz:h=dR
 ·rw[if_pos hz];cases hf:Ad ns (path ns i) (path ns i).length with
  | none=>exact⟨Vn,.inl (by simp)⟩
  | some k =>
    have hk:=GU _ _ (Nat.le_refl _) hf
    simp only
    refine⟨Fw (by omega) (by omega), ?_⟩
    by_cases rG:k=0
    ·rw[if_pos rG];exact .inl (by omega)
    ·rw[if_neg rG];exact .inr ⟨Fw (by omega) (by omega),Pb k (by omega) (by omega)⟩
 ·rw[if_neg hz];cases hf:Ik ns (path ns i) h ((path ns i).length-1) with
  | none=>exact⟨Vn,.inl (by simp)⟩
  | some k =>
    have hk:=OA _ _ hf
    simp only
    refine⟨Fw (by omega) (by omega),.inr ⟨Fw (by omega) (by omega), ?_⟩⟩
    have:=Pb ((k:Int)+1) (by omega) (by omega)
    rw[this];congr 1
    omega
def Zh (kv:AV) (l:List Int):Prop:=kv=.sl l.length (aK l)∨(l=[]∧kv=.v (.slice none 0 0))
theorem Zh.view {kv:AV} {l:List Int} (h:Zh kv l) (st:St):aX st kv=some (l.length,aK l):=by
 rcases h with rfl|⟨rfl,rfl⟩<;>rfl
theorem Zh.idx {kv:AV} {l:List Int} (h:Zh kv l) (st:St) {k:IntKind} {i:Int} (h0:0≤i) (h1:i<l.length):bH Tryz.prog st 22 kv (.v (.int k i))=some (.ip (qR (it l i)) 0):=by
 rcases h with rfl|⟨rfl,rfl⟩
 ·exact aE7 st h0 h1
 ·simp at h1;omega
theorem Zh.flat {kv:AV} {l:List Int} (h:Zh kv l):Flat kv:=by
 rcases h with rfl|⟨rfl,rfl⟩
 ·exact Sw l
 ·exact .v _
def r7 (ns:List Node) (c:Int) (l:List Int):Prop:=∃k∈l,tW ns c k=true
noncomputable def U0 (ns:List Node) (i:Int) (h:cN) (l:List Int):AV :=
 if r7 ns (pB ns i h).2 l then DU 21
 else if 0≤(pB ns i h).1 then
  match raO ns (pB ns i h).1 with
  | none=>DU 21
  | some r=>P9 r (pB ns i h).2
 else P9 ns (pB ns i h).2
noncomputable def VX (ns:List Node) (i:Int) (v:gW) (l:List Int):AV :=
 if ¬(0≤i∧i<ns.length) then DU 10
 else if v.kind=1 then P8 ns i
 else if v.kind=2 then U0 ns i v.dU l
 else if v.kind=3∨v.kind=4 then .eG [.agg (cO ⟨ns⟩),.v (.int .i64 0)]
 else DU 2
theorem G6 (ns:List Node) (i:Int) (h:cN) (l:List Int):Flat (U0 ns i h l):=by
 unfold U0;split
 ·exact vO _
 ·split
  ·split
   ·exact vO _
   ·exact Zg _ _
  ·exact Zg _ _
theorem G7 (ns:List Node) (i:Int) (v:gW) (l:List Int):Flat (VX ns i v l):=by
 unfold VX;split
 ·exact vO _
 ·split
  ·exact NZ _ _
  ·split
   ·exact G6 _ _ _ _
   ·split
    ·exact .eG _ (bF (mD _) (.v _))
    ·exact vO _
theorem aP3 (ns:List Node) (hu:gK ns) (hr:(nd ns 0).up=-1) (hn:(ns.length:Int)<1000000) (i:Int) (v:gW) (l:List Int) (hl:(l.length:Int)<1000000) {kv:AV} (hkv:Zh kv l) :
 aB Tryz.prog 222 [.agg (cO ⟨ns⟩),.v (.int .i64 i),.agg (dJ v),kv]=some (VX ns i v l):=by
 rw[cL Tryz.func222 rfl aKA (by rcases hkv with rfl|⟨rfl,rfl⟩<;>rfl)]
 have h86:=US ns i
 unfold VX;by_cases hm:0≤i∧i<ns.length
 ·obtain⟨i0,i1⟩:=hm
  have hd:(decide (0≤i) && decide (i<(ns.length:Int)))=true:=by simp[i0,i1]
  rw[hd] at h86;rw[if_neg (by simp[i0,i1])]
  by_cases h1:v.kind=1
  ·rw[if_pos h1];have b1:(v.kind == 1)=true:=by simp[h1]
   have h96:=aKx ns hu hn i
   rcases G4 ns hn i with ⟨e,he⟩|⟨q,he,_⟩
   all_goals
    rw[he] at h96;rw[he];simp only[ZZ,seval,h86,b1,h96,dN];exact dK rfl (by simp only[bY,ZZ,seval];rfl) (by simp only[bY,EV,seval]<;>rfl) (by simp only[EV,seval]<;>rfl) (by simp only[EV,seval]<;>rfl)
  ·rw[if_neg h1];have b1:(v.kind == 1)=false:=by simp[h1]
   by_cases h2:v.kind=2
   ·rw[if_pos h2];have b2:(v.kind == 2)=true:=by simp[h2]
    have b3:(v.kind == 3)=false:=by simp[h2]
    have b4:(v.kind == 4)=false:=by simp[h2]
    have hRe:=aP2 ns hu hr hn i v.dU
    have hfact:=VW hu hr i0 i1 v.dU
    have hv:=hkv.view
    have r9:=fun st (k:IntKind) (i:Int) h0 h1=>hkv.idx st (k:=k) (i:=i) h0 h1
    have h46:=Pq ns hu hn
    unfold U0;obtain⟨a,ha⟩:∃a,(pB ns i v.dU).1=a:=⟨_,rfl⟩
    obtain⟨c,hc⟩:∃c,(pB ns i v.dU).2=c:=⟨_,rfl⟩
    rw[ha,hc] at hRe hfact;rw[ha,hc];simp only[ZZ,seval,h86,b1,b2,b3,b4,hRe,dN];refine kJ (fun n st=>∃k:Nat,(st.env 3=kv∧st.env 4=.ptr 4 0 0∧st.heap 4 0=some (.cells (cO ⟨ns⟩))∧st.env 8=.ptr 8 0 0∧st.heap 8 0=some (.cells [.v (.slice none 0 0)])∧st.env 10=.v (.int .i64 a)∧st.env 11=.v (.int .i64 c)∧st.env 12=.v (.int .i64 k))∧(∀j:Int,0≤j→j<k→tW ns c (it l j)=false)∧k≤l.length∧n=l.length-k)
     (fun e st=>(e=.ret∧r7 ns c l∧st.env 8=.ptr 8 0 0∧st.heap 8 0=some (.cells [.v (.slice none 0 0)])∧st.env 9=.v (.int .i64 21))∨(e=.exit 1∧¬r7 ns c l∧st.env 4=.ptr 4 0 0∧st.heap 4 0=some (.cells (cO ⟨ns⟩))∧st.env 8=.ptr 8 0 0∧st.heap 8 0=some (.cells [.v (.slice none 0 0)])∧st.env 10=.v (.int .i64 a)∧st.env 11=.v (.int .i64 c))) l.length ?step ?start ?rest
    case step =>
     rintro n st ⟨k,hI,hj,hk,Hu⟩
     by_cases bA:(k:Int)<l.length
     ·have q0:(0:Int)≤k:=by omega
      have hw:IntKind.i64.wrap ((k:Int)+1)=((k+1:Nat):Int):=by rw[Hi _ (by omega) (by omega)];omega
      cases hA:tW ns c (it l k)
      ·apply oN (l.length-(k+1))
       ·simp only[ZZ,seval,hI,bA,q0,hv,r9,h46,hA,hw];rfl
       ·exact⟨k+1,by simp only[EV,seval,hI],fun j j0 j1=>by
        by_cases hjk:j<k
        ·exact hj j j0 hjk
        ·rw[show j=(k:Int) by omega];exact hA,by omega,rfl⟩
      ·apply oT (.ret)
       ·simp only[ZZ,seval,hI,bA,q0,hv,r9,h46,hA];rfl
       ·exact .inl ⟨rfl,⟨_,Fw q0 bA,hA⟩,by simp only[EV,seval,hI],by simp only[EV,seval,hI],by simp only[EV,seval,hI]⟩
     ·obtain rfl:k=l.length:=by omega
      have hno:¬r7 ns c l:=by
       rintro⟨x,hx,hxa⟩
       obtain⟨j,hj',rfl⟩:=List.getElem_of_mem hx
       have:=hj j (by omega) (by omega)
       rw[show it l (j:Int)=l[j] by simp[it,hj']] at this
       rw[this] at hxa;cases hxa
      apply oT (.exit 1)
      ·simp only[ZZ,seval,hI,hv,bA];rfl
      ·exact .inr ⟨rfl,hno,by simp only[EV,seval,hI]⟩
    case start=>exact⟨0,by simp only[EV,seval],fun j _ _=>by omega,by omega,by omega⟩
    case rest =>
     rintro e st (⟨rfl,hk,hI⟩|⟨rfl,hk,hI⟩)
     ·rw[if_pos hk];simp only[ZZ,seval];exact dK rfl (by simp only[bY,ZZ,seval,hI];rfl) (by simp only[bY,EV,seval,hI]<;>rfl) (by simp only[EV,seval]<;>rfl) (by simp only[EV,seval]<;>rfl)
     ·rw[if_neg hk];by_cases h0:0≤a
      ·rw[if_pos h0];have nH:a∈path ns i:=by
        rcases hfact.2 with h|h
        ·omega
        ·exact h.1
       obtain⟨_,a1⟩:=Xu hu a nH
       have h96:=aKx ns hu hn a
       rw[show P8 ns a=stA (raO ns a) from if_pos ⟨h0,a1⟩] at h96;cases ho:raO ns a with
       | none =>
         rw[ho] at h96;simp only[stA,DU] at h96;simp only[ZZ,seval,hI,h0,h96,dN];exact dK rfl (by simp only[bY,ZZ,seval,hI];rfl) (by simp only[bY,EV,seval,hI]<;>rfl) (by simp only[EV,seval]<;>rfl) (by simp only[EV,seval]<;>rfl)
       | some r =>
         rw[ho] at h96;simp only[stA] at h96;have hR:=G5 hu ho
         have hu2:=hR.c.su.aPZ hu
         have h97:=aKy r hu2 (by rw[hR.c.len];exact hn) c
         rcases GS r (by rw[hR.c.len];exact hn) c with ⟨e,he⟩|⟨q,he,_⟩
         all_goals
          rw[he] at h97;simp only[he];simp only[ZZ,seval,hI,h0,h96,h97,dN];exact dK rfl (by simp only[bY,ZZ,seval,hI];rfl) (by simp only[bY,EV,seval,hI]<;>rfl) (by simp only[EV,seval]<;>rfl) (by simp only[EV,seval]<;>rfl)
      ·rw[if_neg h0];have h97:=aKy ns hu hn c
       rcases GS ns hn c with ⟨e,he⟩|⟨q,he,_⟩
       all_goals
        rw[he] at h97;rw[he];simp only[ZZ,seval,hI,h0,h97,dN];exact dK rfl (by simp only[bY,ZZ,seval,hI];rfl) (by simp only[bY,EV,seval,hI]<;>rfl) (by simp only[EV,seval]<;>rfl) (by simp only[EV,seval]<;>rfl)
   ·rw[if_neg h2];have b2:(v.kind == 2)=false:=by simp[h2]
    by_cases h3:v.kind=3
    ·rw[if_pos (.inl h3)];have b3:(v.kind == 3)=true:=by simp[h3]
     simp only[ZZ,seval,h86,b1,b2,b3];exact dK rfl (by simp only[bY,ZZ,seval];rfl) (by simp only[bY,EV,seval]<;>rfl) (by simp only[EV,seval]<;>rfl) (by simp only[EV,seval]<;>rfl)
    ·have b3:(v.kind == 3)=false:=by simp[h3]
     by_cases h4:v.kind=4
     ·rw[if_pos (.inr h4)];have b4:(v.kind == 4)=true:=by simp[h4]
      simp only[ZZ,seval,h86,b1,b2,b3,b4];exact dK rfl (by simp only[bY,ZZ,seval];rfl) (by simp only[bY,EV,seval]<;>rfl) (by simp only[EV,seval]<;>rfl) (by simp only[EV,seval]<;>rfl)
     ·rw[if_neg (by omega)]
      have b4:(v.kind == 4)=false:=by simp[h4]
      simp only[ZZ,seval,h86,b1,b2,b3,b4];exact dK rfl (by simp only[bY,ZZ,seval];rfl) (by simp only[bY,EV,seval]<;>rfl) (by simp only[EV,seval]<;>rfl) (by simp only[EV,seval]<;>rfl)
 ·rw[if_pos hm];have hd:(decide (0≤i) && decide (i<(ns.length:Int)))=false:=by
   by_cases h0:0≤i
   ·have:¬i<ns.length:=fun h=>hm ⟨h0,h⟩
    simp[this]
   ·simp[h0]
  rw[hd] at h86;simp only[ZZ,seval,h86];exact dK rfl (by simp only[bY,ZZ,seval];rfl) (by simp only[bY,EV,seval]<;>rfl) (by simp only[EV,seval]<;>rfl) (by simp only[EV,seval]<;>rfl)
theorem zH (s:Config):Flat (.agg (bW s))↔Flat s.iP:=by
 constructor
 ·intro h;have h:∀x∈bW s,Flat x:=by cases h with|agg _ h=>exact h
  exact h _ (List.mem_of_getElem? (Ae s))
 ·intro h0;exact .agg _ (uG s h0)
theorem Px (s:vB):Flat (.agg (eZ s))↔Flat s.dU∧Flat s.gN:=by
 constructor
 ·intro h;have h:∀x∈eZ s,Flat x:=by cases h with|agg _ h=>exact h
  exact⟨h _ (List.mem_of_getElem? (vP s)),h _ (List.mem_of_getElem? (yB s))⟩
 ·rintro⟨h0,h1⟩
  exact .agg _ (qS s h0 h1)
theorem GW (s:Af):Flat (.agg (jM s))↔Flat s.early∧Flat s.bL:=by
 constructor
 ·intro h;have h:∀x∈jM s,Flat x:=by cases h with|agg _ h=>exact h
  exact⟨h _ (List.mem_of_getElem? (vQ s)),h _ (List.mem_of_getElem? (sX s))⟩
 ·rintro⟨h0,h1⟩
  exact .agg _ (Py s h0 h1)
theorem OC (s:Du):Flat (.agg (mL s))↔Flat s.nodes:=by
 constructor
 ·intro h;have h:∀x∈mL s,Flat x:=by cases h with|agg _ h=>exact h
  exact h _ (List.mem_of_getElem? (yC s))
 ·intro h0;exact .agg _ (xA s h0)
theorem Il (s:aM):Flat (.agg (aA s))↔Flat s.cFg.iP∧Flat s.gH.dU∧Flat s.gH.gN∧Flat s.cC.early∧Flat s.cC.bL∧Flat s.tree.nodes∧Flat s.tables:=by
 constructor
 ·intro h;have h:∀x∈aA s,Flat x:=by cases h with|agg _ h=>exact h
  exact⟨h _ (List.mem_of_getElem? (qT s)),h _ (List.mem_of_getElem? (pC s)),h _ (List.mem_of_getElem? (qB s)),h _ (List.mem_of_getElem? (pD s)),h _ (List.mem_of_getElem? (nI s)),h _ (List.mem_of_getElem? (qU s)),h _ (List.mem_of_getElem? (vR s))⟩
 ·rintro⟨h0,h1,h2,h3,h4,h5,h6⟩
  exact .agg _ (Vr s h0 h1 h2 h3 h4 h5 h6)
theorem uH (s:State):Flat (.agg (aT s))↔Flat s.store.cFg.iP∧Flat s.store.gH.dU∧Flat s.store.gH.gN∧Flat s.store.cC.early∧Flat s.store.cC.bL∧Flat s.store.tree.nodes∧Flat s.store.tables∧Flat s.iY∧Flat s.rK:=by
 constructor
 ·intro h;have h:∀x∈aT s,Flat x:=by cases h with|agg _ h=>exact h
  exact⟨h _ (List.mem_of_getElem? (qV s)),h _ (List.mem_of_getElem? (pO s)),h _ (List.mem_of_getElem? (qI s)),h _ (List.mem_of_getElem? (pP s)),h _ (List.mem_of_getElem? (oG s)),h _ (List.mem_of_getElem? (qW s)),h _ (List.mem_of_getElem? (uI s)),h _ (List.mem_of_getElem? (Ag s)),h _ (List.mem_of_getElem? (Bv s))⟩
 ·rintro⟨h0,h1,h2,h3,h4,h5,h6,h7,h8⟩
  exact .agg _ (OD s h0 h1 h2 h3 h4 h5 h6 h7 h8)
theorem Ah (s:sG):Flat (.agg (iC s))↔Flat s.fB:=by
 constructor
 ·intro h;have h:∀x∈iC s,Flat x:=by cases h with|agg _ h=>exact h
  exact h _ (List.mem_of_getElem? (Fy s))
 ·intro h0;exact .agg _ (Sy s h0)
theorem Ai (s:Claim):Flat (.agg (gV s))↔Flat s.fB:=by
 constructor
 ·intro h;have h:∀x∈gV s,Flat x:=by cases h with|agg _ h=>exact h
  exact h _ (List.mem_of_getElem? (uJ s))
 ·intro h0;exact .agg _ (Im s h0)
theorem nC (s:gB):Flat (.agg (cD s))↔Flat s.first.fB∧Flat s.second.fB:=by
 constructor
 ·intro h;have h:∀x∈cD s,Flat x:=by cases h with|agg _ h=>exact h
  exact⟨h _ (List.mem_of_getElem? (oH s)),h _ (List.mem_of_getElem? (nJ s))⟩
 ·rintro⟨h0,h1⟩
  exact .agg _ (Io s h0 h1)
theorem iE (s:Table):Flat (.agg (cA s))↔Flat s.iP:=by
 constructor
 ·intro h;have h:∀x∈cA s,Flat x:=by cases h with|agg _ h=>exact h
  exact h _ (List.mem_of_getElem? (Cw s))
 ·intro h0;exact .agg _ (Ip s h0)
theorem VY (s:xY):Flat (.agg (lB s))↔Flat s.Hl.fB∧Flat s.oV.first.fB∧Flat s.oV.second.fB∧Flat s.table.iP:=by
 constructor
 ·intro h;have h:∀x∈lB s,Flat x:=by cases h with|agg _ h=>exact h
  exact⟨h _ (List.mem_of_getElem? (Dv s)),h _ (List.mem_of_getElem? (sJ s)),h _ (List.mem_of_getElem? (rY s)),h _ (List.mem_of_getElem? (Bw s))⟩
 ·rintro⟨h0,h1,h2,h3⟩
  exact .agg _ (G8 s h0 h1 h2 h3)
theorem aGl (x:Value):Flat (.v x)=True:=eq_true (.v x)
theorem OE (o:Option (List Int)):Flat (ov bI o)=True:=eq_true (dV o)
theorem OF (o:Option (List Int)):Flat (ov aK o)=True:=eq_true (bX o)
theorem GX (o:Option (List kO)):Flat (ov cW o)=True:=eq_true (qX o)
theorem Zi (o:Option (List Block)):Flat (ov aF o)=True:=eq_true (Fz o)
theorem Pz (o:Option (List Request)):Flat (ov aE o)=True:=eq_true (iZ o)
theorem OG (n:Nat) (o:List Int):Flat (.sl n (bI o))=True:=eq_true (.sl _ _ (gZ o))
theorem OH (n:Nat) (o:List Int):Flat (.sl n (aK o))=True:=eq_true (.sl _ _ (fV o))
theorem GY (n:Nat) (o:List kO):Flat (.sl n (cW o))=True:=eq_true (.sl _ _ (mF o))
theorem Zj (n:Nat) (o:List Block):Flat (.sl n (aF o))=True:=eq_true (.sl _ _ (lC o))
theorem Qa (n:Nat) (o:List Request):Flat (.sl n (aE o))=True:=eq_true (.sl _ _ (uK o))
theorem GZ (n:Nat) (o:List Node):Flat (.sl n (bU o))=True:=eq_true (.sl _ _ (gX o))
theorem u7 (r:cN):Flat (.agg (bD r))=True:=eq_true (qQ r)
theorem OI (r:Block):Flat (.agg (aV r))=True:=eq_true (tJ r)
theorem u9 (r:qM):Flat (.agg (gJ r))=True:=eq_true (.agg _ (iF r))
theorem Bx (r:dQ):Flat (.agg (bB r))=True:=eq_true (.agg _ (bR r))
theorem U1 (r:Request):Flat (.agg (dD r))=True:=eq_true (.agg _ (jR r))
theorem Zk (r:gW):Flat (.agg (dJ r))=True:=eq_true (.agg _ (jS r))
theorem HA (r:pE):Flat (.agg (fM r))=True:=eq_true (.agg _ (Ga r))
theorem OJ (x:AV):Flat (.agg [x])↔Flat x:=by
 constructor
 ·intro h;cases h with|agg _ h=>exact h x (by simp)
 ·intro h;exact .agg _ (by simpa using h)
theorem eC:(type_of% aGl)∧(type_of% OE)∧(type_of% OF)∧(type_of% GX)∧(type_of% Zi)∧(type_of% Pz)∧(type_of% OG)∧(type_of% OH)∧(type_of% GY)∧(type_of% Zj)∧(type_of% Qa)∧(type_of% GZ)∧(type_of% u7)∧(type_of% OI)∧(type_of% u9)∧(type_of% Bx)∧(type_of% U1)∧(type_of% Zk)∧(type_of% HA)∧(type_of% OJ)∧(type_of% zH)∧(type_of% Px)∧(type_of% GW)∧(type_of% OC)∧(type_of% Il)∧(type_of% uH)∧(type_of% Ah)∧(type_of% Ai)∧(type_of% nC)∧(type_of% iE)∧(type_of% VY) :=
 ⟨aGl,OE,OF,GX,Zi,Pz,OG,OH,GY,Zj,Qa,GZ,u7,OI,u9,Bx,U1,Zk,HA,OJ,zH,Px,GW,OC,Il,uH,Ah,Ai,nC,iE,VY⟩
structure SV where
 B:Option (List Int)
 L:Option (List kO)
 Q:Option (List Int)
 E:Option (List sG)
 O:Option (List Block)
 T:Option (List Table)
 ns:List Node
def Dw (a:sG):Prop:=∃V:Option (List Int),a.fB=ov aK V∧((ol V).length:Int)<1000000
def rZ (t:Table):Prop:=∃b:Option (List Int),t.iP=ov bI b∧((ol b).length:Int)<1000000
structure SD (s:aM) (v:SV):Prop where
 iP:s.cFg.iP=ov bI v.B
 dU:s.gH.dU=ov cW v.L
 gN:s.gH.gN=ov aK v.Q
 early:s.cC.early=ov dM v.E
 bL:s.cC.bL=ov aF v.O
 tree:s.tree=⟨.sl v.ns.length (bU v.ns)⟩
 tables:s.tables=ov aI v.T
 eV:∀a∈ol v.E,Dw a
 tB:∀t∈ol v.T,rZ t
 nB:((ol v.B).length:Int)<1000000
 nL:((ol v.L).length:Int)<1000000
 nQ:((ol v.Q).length:Int)<1000000
 nE:((ol v.E).length:Int)<1000000
 nO:((ol v.O).length:Int)<1000000
 nT:((ol v.T).length:Int)<1000000
 nn:(v.ns.length:Int)<1000000
theorem Dw.fl {a:sG} (h:Dw a):Flat a.fB:=by obtain⟨V,h,_⟩:=h;rw[h];exact bX V
theorem rZ.fl {a:Table} (h:rZ a):Flat a.iP:=by obtain⟨V,h,_⟩:=h;rw[h];exact dV V
theorem SD.fE {s:aM} {v:SV} (h:SD s v):Flat (ov dM v.E):=Zl v.E fun a ha=>(h.eV a ha).fl
theorem SD.fT {s:aM} {v:SV} (h:SD s v):Flat (ov aI v.T):=jW v.T fun a ha=>(h.tB a ha).fl
theorem SD.flat {s:aM} {v:SV} (h:SD s v):Flat (.agg (aA s)):=by
 rw[Il,h.iP,h.dU,h.gN,h.early,h.bL,h.tree,h.tables];exact⟨dV _,qX _,bX _,h.fE,Fz _,.sl _ _ (gX _),h.fT⟩
theorem c97 {s:aM} {v:SV} (hs:SD s v):aB Tryz.prog 97 [.agg (aA s)]=some (.v (.int .i64 (ol v.B).length)):=by
 rw[cL Tryz.func97 rfl aP5 rfl];simp only[Z8,seval,hs.iP];exact bZ rfl (by simp only[E8,seval]<;>rfl) (.v _)
theorem Zm {s:aM} {v:SV} (hs:SD s v) (st:St) (d:Option Nat):aO (aB Tryz.prog) 97 [.agg (aA s)] st d=some { dst:=d,val:=.v (.int .i64 (ol v.B).length)}:=bG (cV hs.flat) (c97 hs) (.v _)
noncomputable def yD (s:aM) (x:Int):Int:=IntKind.u64.wrap (x.tdiv s.cFg.jH)
theorem c98 (s:aM) (h:s.cFg.jH≠0) (x:Int):aB Tryz.prog 98 [.agg (aA s),.v (.int .u64 x)]=some (.v (.int .u64 (yD s x))):=by
 rw[cL Tryz.func98 rfl aP6 rfl];have h0:(s.cFg.jH=0)=False:=eq_false h
 simp only[Z8,seval,h0];exact bZ rfl (by simp only[E8,seval,yD]<;>rfl) (.v _)
theorem Pc (s:aM) (h:s.cFg.jH≠0) (hf:Flat (.agg (aA s))) (x:Int) (st:St) (d:Option Nat):aO (aB Tryz.prog) 98 [.agg (aA s),.v (.int .u64 x)] st d=some { dst:=d,val:=.v (.int .u64 (yD s x))}:=bG (bF hf (.v _)) (c98 s h x) (.v _)
noncomputable def vC (s:aM) (e:Int):Int × Int:=Pt e s.cFg.jH
theorem c99 (s:aM) (x:Int):aB Tryz.prog 99 [.agg (aA s),.v (.int .u64 x)]=some (.eG [.v (.int .u64 (vC s x).1),.v (.bool ((vC s x).2 == 0))]):=by
 rw[cL Tryz.func99 rfl aP8 rfl];simp only[Z8,seval,aPu,dN];exact dK rfl rfl rfl (by simp only[E8,seval,vC]<;>rfl) (by simp only[E8,seval,vC]<;>rfl)
theorem Xv (s:aM) (hf:Flat (.agg (aA s))) (x:Int) (st:St) (d:Option Nat):aO (aB Tryz.prog) 99 [.agg (aA s),.v (.int .u64 x)] st d=some { dst:=d,val:=.eG [.v (.int .u64 (vC s x).1),.v (.bool ((vC s x).2 == 0))]}:=bG (bF hf (.v _)) (c99 s x) (.eG _ (bF (.v _) (.v _)))
theorem aP9 {s:aM} {v:SV} (hs:SD s v) (i:Int):aB Tryz.prog 251 [.agg (aA s),.v (.int .i64 i)]=some (.v (.bool (decide (0≤i) && decide (i<v.ns.length)))):=by
 rw[cL Tryz.func251 rfl aKC rfl];by_cases h:0≤i
 all_goals
  simp only[Z8,seval,h,hs.tree,decide_true,decide_false,Bool.true_and,Bool.false_and];exact bZ rfl (by simp only[E8,seval,h,decide_true,decide_false,Bool.true_and,Bool.false_and]<;>rfl) (.v _)
theorem Zn {s:aM} {v:SV} (hs:SD s v) (i:Int) (st:St) (d:Option Nat):aO (aB Tryz.prog) 251 [.agg (aA s),.v (.int .i64 i)] st d=some { dst:=d,val:=.v (.bool (decide (0≤i) && decide (i<v.ns.length)))}:=bG (bF hs.flat (.v _)) (aP9 hs i) (.v _)
def U2 (s:aM) (b:Block):Prop:=b.fin.aG≤b.gI.aG∧b.gI.aG≤b.dW.pj.aG∧b.fin.aG≤b.dW.pf.aG∧b.dW.pf.aG≤b.dW.pj.aG∧b.dW.pj.aG≤yD s b.slot
theorem aQa (s:aM) (h:s.cFg.jH≠0) (hf:Flat (.agg (aA s))) (b:Block):aB Tryz.prog 137 [.agg (aA s),.agg (aV b)]=some (.v (.bool (decide (U2 s b)))):=by
 rw[cL Tryz.func137 rfl aKD rfl];have h98:=Pc s h hf
 unfold U2;by_cases h1:b.fin.aG≤b.gI.aG
 ·by_cases h2:b.gI.aG≤b.dW.pj.aG
  ·by_cases h3:b.fin.aG≤b.dW.pf.aG
   ·by_cases h4:b.dW.pf.aG≤b.dW.pj.aG
    ·simp only[*,true_and,false_and,and_true,and_false,decide_true,decide_false];simp only[Z8,seval, *];exact bZ rfl (by simp only[E8,seval, *]<;>rfl) (.v _)
    ·simp only[*,true_and,false_and,and_true,and_false,decide_true,decide_false];simp only[Z8,seval, *];exact bZ rfl (by simp only[E8,seval, *]<;>rfl) (.v _)
   ·simp only[*,true_and,false_and,and_true,and_false,decide_true,decide_false];simp only[Z8,seval, *];exact bZ rfl (by simp only[E8,seval, *]<;>rfl) (.v _)
  ·simp only[*,true_and,false_and,and_true,and_false,decide_true,decide_false];simp only[Z8,seval, *];exact bZ rfl (by simp only[E8,seval, *]<;>rfl) (.v _)
 ·simp only[*,true_and,false_and,and_true,and_false,decide_true,decide_false];simp only[Z8,seval, *];exact bZ rfl (by simp only[E8,seval, *]<;>rfl) (.v _)
theorem aKE (s:aM) (h:s.cFg.jH≠0) (hf:Flat (.agg (aA s))) (b:Block) (st:St) (d:Option Nat):aO (aB Tryz.prog) 137 [.agg (aA s),.agg (aV b)] st d=some { dst:=d,val:=.v (.bool (decide (U2 s b)))}:=bG (bF hf (tJ _)) (aQa s h hf b) (.v _)
noncomputable def IZ (s:aM) (ns:List Node) (i e:Int):Prop:=(vC s e).2≠0∨(nd ns i).block.slot≤(vC s e).1
theorem aQb {s:aM} {v:SV} (hs:SD s v) (i e:Int) (i0:0≤i) (i1:i<v.ns.length):aB Tryz.prog 122 [.agg (aA s),.v (.int .i64 i),.v (.int .u64 e)]=some (.v (.bool (decide (IZ s v.ns i e)))):=by
 rw[cL Tryz.func122 rfl aKF rfl];unfold IZ;by_cases h:(vC s e).2=0
 ·have hq:((vC s e).2 == 0)=true:=by simp[h]
  simp only[h,ne_eq,not_true_eq_false,false_or];simp only[Z8,seval,Xv s hs.flat,dN,hq,hs.tree,i0,i1];exact bZ rfl (by simp only[E8,seval]<;>rfl) (.v _)
 ·have hq:((vC s e).2 == 0)=false:=by simp[h]
  simp only[h,ne_eq,not_false_eq_true,true_or,decide_true];simp only[Z8,seval,Xv s hs.flat,dN,hq,hs.tree,i0,i1];exact bZ rfl (by simp only[E8,seval]<;>rfl) (.v _)
theorem aKG {s:aM} {v:SV} (hs:SD s v) (i e:Int) (i0:0≤i) (i1:i<v.ns.length) (st:St) (d:Option Nat):aO (aB Tryz.prog) 122 [.agg (aA s),.v (.int .i64 i),.v (.int .u64 e)] st d=some { dst:=d,val:=.v (.bool (decide (IZ s v.ns i e)))}:=bG (mE hs.flat (.v _) (.v _)) (aQb hs i e i0 i1) (.v _)
theorem nU (x:Int) (h1:-9223372036854775808≤x) (h2:x≤9223372036854775807):IntKind.i64.wrap x=x:=wrap_i64 x h1 h2
theorem zI {α:Type} (z:α) (p:α→Bool) (l:List α) (k:Nat) (h:k<l.length):(l.take (k+1)).filter p=(l.take k).filter p++if p (gx z l k)=true then [gx z l k] else []:=by
 have hg:gx z l k=l[k]:=by simp[gx,h]
 rw[List.take_succ_eq_append_getElem h,List.filter_append,hg];congr 1
 by_cases hp:p l[k]=true<;>simp[hp]
noncomputable def uL (p:Nat→Prop):Nat→Int
 | 0=>-1
 | k+1=>if 0≤uL p k then uL p k else if p k then k else -1
theorem tK {p:Nat→Prop}:∀n:Nat,(∀j,j<n→¬p j)→uL p n=-1
 | 0,_=>rfl
 | n+1,h=>by
   simp only[uL];rw[tK n fun j hj=>h j (by omega),if_neg (by omega),if_neg (h n (by omega))]
theorem By {p:Nat→Prop} {k:Nat} (hk:p k) (hj:∀j,j<k→¬p j):∀n:Nat,k<n→uL p n=k
 | 0,h=>by omega
 | n+1,h=>by
   simp only[uL];by_cases Bu:k=n
   ·subst Bu;rw[tK k hj,if_neg (by omega),if_pos hk]
   ·rw[By hk hj n (by omega),if_pos (by omega)]
theorem sY (p:Nat→Prop) (n:Nat):(uL p n=-1∧∀j,j<n→¬p j)∨∃k:Nat,k<n∧p k∧(∀j,j<k→¬p j)∧uL p n=k:=by
 by_cases h:∃k,k<n∧p k
 ·obtain⟨k,⟨hk,hp⟩,hm⟩:=Gb h
  have hj:∀j,j<k→¬p j:=fun j hj hpj=>by have:=hm j ⟨by omega,hpj⟩;omega
  exact .inr ⟨k,hk,hp,hj,By hp hj n hk⟩
 ·have h':∀j,j<n→¬p j:=fun j hj hp=>h ⟨j,hj,hp⟩
  exact .inl ⟨tK n h',h'⟩
theorem VZ (p:Nat→Prop) (n:Nat):-1≤uL p n∧uL p n<n:=by
 rcases sY p n with ⟨h,_⟩|⟨k,hk,_,_,h⟩<;>rw[h]<;>omega
noncomputable def DV (l:List Table) (c:dQ):Int:=uL (fun k=>(gx eI l k).ck=c) l.length
theorem c65 (o:Option (List Table)) (hn:((ol o).length:Int)<1000000) (c:dQ):aB Tryz.prog 65 [ov aI o,.agg (bB c)]=some (.v (.int .i64 (DV (ol o) c))):=by
 rw[cL Tryz.func65 rfl aQc (by cases o<;>rfl)]
 simp only[Z8,seval];refine kJ (fun m st=>∃k:Nat,(st.env 0=ov aI o∧st.env 3=.ptr 3 0 0∧st.heap 3 0=some (.cells (bB c))∧st.env 5=.v (.int .i64 k))∧(∀j:Nat,j<k→¬((gx eI (ol o) (j:Int)).ck=c))∧k≤(ol o).length∧m=(ol o).length-k)
  (fun e st=>(e=.ret∧∃k:Nat,k<(ol o).length∧((gx eI (ol o) (k:Int)).ck=c)∧(∀j:Nat,j<k→¬((gx eI (ol o) (j:Int)).ck=c))∧st.env 4=.v (.int .i64 (k:Nat)))∨(e=.exit 0∧(∀j:Nat,j<(ol o).length→¬((gx eI (ol o) (j:Int)).ck=c))∧st.env 0=ov aI o∧st.env 3=.ptr 3 0 0∧st.heap 3 0=some (.cells (bB c)))) ((ol o).length) ?step ?start ?rest
 case step =>
  rintro m st ⟨k,hI,hj,hk,hm⟩
  by_cases bA:(k:Int)<(ol o).length
  ·have q0:(0:Int)≤k:=by omega
   have hw:IntKind.i64.wrap ((k:Int)+1)=((k+1:Nat):Int):=by rw[nU _ (by omega) (by omega)];omega
   by_cases hh:(gx eI (ol o) (k:Int)).ck=c
   ·apply oT (.ret)
    ·simp only[Z8,seval,hI,bA,q0,hh];rfl
    ·exact .inl ⟨rfl,k,by omega,hh,hj,by simp only[E8,seval]⟩
   ·apply oN ((ol o).length-(k+1))
    ·simp only[Z8,seval,hI,bA,q0,hh,hw];rfl
    ·exact⟨k+1,by simp only[E8,seval,hI],fun j h=>(Nat.lt_succ_iff_lt_or_eq.1 h).elim (hj j) fun e=>by subst e;exact hh,by omega,rfl⟩
  ·apply oT (.exit 0)
   ·simp only[Z8,seval,hI,bA];rfl
   ·exact .inr ⟨rfl,fun j h=>hj j (by omega),by simp only[E8,seval,hI]⟩
 case start=>exact⟨0,by simp only[E8,seval]<;>rfl,fun j h=>by omega,by omega,by omega⟩
 case rest =>
  rintro e st (⟨rfl,k,hk,hh,hj,h⟩|⟨rfl,hj,h⟩)
  ·have hv:DV (ol o) c=k:=By hh hj _ hk
   simp only[Z8,seval];exact bZ rfl (by simp only[E8,seval,h,hv]<;>rfl) (.v _)
  ·have hv:DV (ol o) c=-1:=tK _ hj
   simp only[Z8,seval];exact bZ rfl (by simp only[E8,seval,h,hv]<;>rfl) (.v _)
theorem v7 (o:Option (List Table)) (hn:((ol o).length:Int)<1000000) (hf:Flat (ov aI o)) (c:dQ) (st:St) (d:Option Nat):aO (aB Tryz.prog) 65 [ov aI o,.agg (bB c)] st d=some { dst:=d,val:=.v (.int .i64 (DV (ol o) c))}:=bG (bF hf (.agg _ (bR c))) (c65 o hn c) (.v _)
noncomputable def nz {α:Type} (l:List α):Option (List α):=if l=[] then none else some l
theorem oW {α:Type} (l:List α):ol (nz l)=l:=by unfold nz;split<;>simp[ol, *]
noncomputable def qN (l:List Table) (x:Int):List Table:=l.filter fun t=>decide (x≤t.ck.aG)
noncomputable def Qb (e sz:Nat) {α:Type} (c:List α→List AV) (l:List α):AV:=if l=[] then .v (.slice none 0 0) else .uniq e sz l.length (c l)
theorem aQd (o:Option (List Table)) (hn:((ol o).length:Int)<1000000) (ht:∀t∈ol o,Flat t.iP) (x:Int):aB Tryz.prog 128 [ov aI o,.v (.int .u64 x)]=some (Qb 118 34 aI (qN (ol o) x)):=by
 rw[cL Tryz.func128 rfl aKH (by cases o<;>rfl)]
 have UT:∀l:List Table,(∀t∈l,t∈ol o)→∀y∈aI l,Flat y:=fun l h=>iL l fun t m=>ht t (h t m)
 simp only[Z8,seval];refine kJ (fun m st=>∃k:Nat,(st.env 0=ov aI o∧st.env 1=.v (.int .u64 x)∧st.env 6=.v (.int .i64 k))∧(((((ol o).take k).filter (fun t=>decide (x≤t.ck.aG)))=[]∧st.env 5=.v (.slice none 0 0))∨((((ol o).take k).filter (fun t=>decide (x≤t.ck.aG)))≠[]∧∃g,st.env 5=.own 27 g∧g<st.aU 27∧st.heap 27 g=some (.row 118 34 (((ol o).take k).filter (fun t=>decide (x≤t.ck.aG))).length (aI (((ol o).take k).filter (fun t=>decide (x≤t.ck.aG)))))))∧k≤(ol o).length∧m=(ol o).length-k)
  (fun e st=>e=.exit 0∧(((((ol o).take (ol o).length).filter (fun t=>decide (x≤t.ck.aG)))=[]∧st.env 5=.v (.slice none 0 0))∨((((ol o).take (ol o).length).filter (fun t=>decide (x≤t.ck.aG)))≠[]∧∃g,st.env 5=.own 27 g∧g<st.aU 27∧st.heap 27 g=some (.row 118 34 (((ol o).take (ol o).length).filter (fun t=>decide (x≤t.ck.aG))).length (aI (((ol o).take (ol o).length).filter (fun t=>decide (x≤t.ck.aG)))))))∧st.env 0=ov aI o∧st.env 1=.v (.int .u64 x)) ((ol o).length) ?step ?start ?rest
 case step =>
  rintro m st ⟨k,hI,h5,hk,hm⟩
  have Hv:(((((ol o).take k).filter (fun t=>decide (x≤t.ck.aG))).length:Nat):Int)<1000000:=by have:=List.length_filter_le (fun t=>decide (x≤t.ck.aG)) ((ol o).take k);have h2:=List.length_take_le' k (ol o);omega
  by_cases bA:(k:Int)<(ol o).length
  ·have q0:(0:Int)≤k:=by omega
   have hw:IntKind.i64.wrap ((k:Int)+1)=((k+1:Nat):Int):=by rw[nU _ (by omega) (by omega)];omega
   have hs:=zI eI (fun t=>decide (x≤t.ck.aG)) (ol o) k (by omega)
   have aGm:Flat (.agg (cA (gx eI (ol o) (k:Int)))):=(iE _).2 (ht _ (sH q0 bA))
   by_cases hh:x≤(gx eI (ol o) (k:Int)).ck.aG
   ·rw[if_pos (decide_eq_true hh)] at hs;rcases h5 with ⟨hy,h5⟩|⟨hy,g,h5⟩
    ·rw[hy] at hs;apply oN ((ol o).length-(k+1))
     ·simp only[Z8,seval,hI,h5,bA,hw,q0,aGm,hh];rfl
     ·exact⟨k+1,by simp only[E8,seval,hI],.inr ⟨by rw[hs];simp,_,by simp only[E8,seval]<;>rfl,(by simp only[E8,seval]<;>omega),(by rw[hs];simp only[E8,seval]<;>rfl)⟩,by omega,rfl⟩
    ·apply oN ((ol o).length-(k+1))
     ·simp only[Z8,seval,hI,h5,Hv,bA,hw,q0,aGm,hh];rfl
     ·exact⟨k+1,by simp only[E8,seval,hI],.inr ⟨by rw[hs];simp,_,by simp only[E8,seval]<;>rfl,(by simp only[E8,seval]<;>omega),(by rw[hs];simp only[E8,seval]<;>rfl)⟩,by omega,rfl⟩
   ·rw[if_neg (by simpa using hh),List.append_nil] at hs
    apply oN ((ol o).length-(k+1))
    ·simp only[Z8,seval,hI,bA,hw,q0,aGm,hh];rfl
    ·exact⟨k+1,by simp only[E8,seval,hI],by rw[hs];simpa only[E8,seval] using h5,by omega,rfl⟩
  ·have Bu:k=(ol o).length:=by omega
   rw[Bu] at h5;apply oT (.exit 0)
   ·simp only[Z8,seval,hI,bA];rfl
   ·exact⟨rfl,by simpa only[E8,seval] using h5,by simp only[E8,seval,hI]⟩
 case start=>exact⟨0,by simp only[E8,seval]<;>rfl,.inl ⟨rfl,by simp only[E8,seval]⟩,by omega,by omega⟩
 case rest =>
  rintro e st ⟨rfl,⟨hy,h5⟩|⟨hy,g,h5,hg,Bh⟩,hI⟩
  ·rw[List.take_length] at hy;rw[show Qb 118 34 aI (qN (ol o) x)=.v (.slice none 0 0) from if_pos hy];simp only[Z8,seval,h5];exact bZ rfl (by simp only[E8,seval]<;>rfl) (.v _)
  ·rw[List.take_length] at hy Bh;rw[show Qb 118 34 aI (qN (ol o) x)=.uniq 118 34 (qN (ol o) x).length (aI (qN (ol o) x)) from if_neg hy];simp only[Z8,seval,h5,Bh];exact tV rfl (by simp only[E8,seval];rfl) (by simp only[E8,seval,Bh];rfl) (UT _ fun t m=>(List.mem_filter.1 m).1)
theorem JA {T n sz:Nat} (ha:jK Tryz.prog T=some (n,sz)) (st:St) (x:AV) {k:IntKind} {i:Int} (h0:0≤i) (h1:i<n):bH Tryz.prog st T x (.v (.int k i))=vJ x (i.toNat * sz):=by
 simp only[bH,ha];rw[if_pos ⟨h0,h1⟩]
theorem WA (st:St) (x:AV) {k:IntKind} {i:Int} (h0:0≤i) (h1:i<32):bH Tryz.prog st 27 x (.v (.int k i))=vJ x (i.toNat * 1):=JA aGn st x h0 h1
theorem Iq (st:St) (x:AV) {k:IntKind} {i:Int} (h0:0≤i) (h1:i<4):bH Tryz.prog st 33 x (.v (.int k i))=vJ x (i.toNat * 1):=JA aKI st x h0 h1
def rb (r:cN) (i:Int):Int:=r.toList.getD i.toNat 0
def wb (r:qM) (i:Int):Int:=r.toList.getD i.toNat 0
theorem HB (r:cN) {i:Int} (h0:0≤i) (h1:i<32):(bD r)[i.toNat]? = some (.v (.int .u8 (rb r i))):=by
 have h:i.toNat<r.toList.length:=by simp;omega
 unfold bD rb;rw[List.getElem?_map,List.getElem?_eq_getElem h,List.getD_eq_getElem?_getD,List.getElem?_eq_getElem h];rfl
theorem Sz (r:qM) {i:Int} (h0:0≤i) (h1:i<4):(gJ r)[i.toNat]? = some (.v (.int .u64 (wb r i))):=by
 have h:i.toNat<r.toList.length:=by simp;omega
 unfold gJ wb;rw[List.getElem?_map,List.getElem?_eq_getElem h,List.getD_eq_getElem?_getD,List.getElem?_eq_getElem h];rfl
theorem aKJ (a b:cN):∃c:Int,aB Tryz.prog 176 [.agg (bD a),.agg (bD b)]=some (.v (.int .i64 c)):=by
 rw[cL Tryz.func176 rfl aKK rfl];suffices h:∃r,cT (Aa Tryz.prog _ (St.init [.agg (bD a),.agg (bD b)])) (Bi Tryz.prog 176 Tryz.f176)=some r∧∃c:Int,r=.v (.int .i64 c) by
  obtain⟨r,h,c,rfl⟩:=h;exact⟨c,h⟩
 simp only[Z8,seval];refine cI (fun m st=>∃k:Nat,(st.env 2=.ptr 2 0 0∧st.heap 2 0=some (.cells (bD a))∧st.env 3=.ptr 3 0 0∧st.heap 3 0=some (.cells (bD b))∧st.env 5=.v (.int .i64 k))∧k≤32∧m=32-k)
  (fun e st=>(e=.ret∧∃c:Int,st.env 4=.v (.int .i64 c))∨e=.exit 0) 32 ?step ?start ?rest
 case step =>
  rintro m st ⟨k,hI,hk,hm⟩
  by_cases bA:(k:Int)<32
  ·have q0:(0:Int)≤k:=by omega
   have hw:IntKind.i64.wrap ((k:Int)+1)=((k+1:Nat):Int):=by rw[nU _ (by omega) (by omega)];omega
   have ga:=HB a q0 bA
   have gb:=HB b q0 bA
   by_cases h1:rb a k<rb b k
   ·apply oT (.ret)
    ·simp only[Z8,seval,hI,bA,q0,WA,ga,gb,h1];rfl
    ·exact .inl ⟨rfl,-1,by simp only[E8,seval]⟩
   ·by_cases h2:rb b k<rb a k
    ·apply oT (.ret)
     ·simp only[Z8,seval,hI,bA,q0,WA,ga,gb,h1,h2];rfl
     ·exact .inl ⟨rfl,1,by simp only[E8,seval]⟩
    ·apply oN (32-(k+1))
     ·simp only[Z8,seval,hI,bA,q0,WA,ga,gb,h1,h2,hw];rfl
     ·exact⟨k+1,by simp only[E8,seval,hI],by omega,rfl⟩
  ·apply oT (.exit 0)
   ·simp only[Z8,seval,hI,bA];rfl
   ·exact .inr rfl
 case start=>exact⟨0,by simp only[E8,seval]<;>rfl,by omega,by omega⟩
 case rest =>
  rintro e st (⟨rfl,c,h⟩|rfl)
  ·simp only[Z8,seval];exact⟨_,bZ rfl h (.v _),c,rfl⟩
  ·simp only[Z8,seval];exact⟨_,bZ rfl (by simp only[E8,seval]<;>rfl) (.v _),0,rfl⟩
noncomputable def aKL (a b:cN):Int:=Classical.choose (aKJ a b)
theorem aGo (a b:cN) (st:St) (d:Option Nat):aO (aB Tryz.prog) 176 [.agg (bD a),.agg (bD b)] st d=some { dst:=d,val:=.v (.int .i64 (aKL a b))}:=bG (bF (qQ a) (qQ b)) (Classical.choose_spec (aKJ a b)) (.v _)
theorem aKM (a b:qM):∃c:Int,aB Tryz.prog 170 [.agg (gJ a),.agg (gJ b)]=some (.v (.int .i64 c)):=by
 rw[cL Tryz.func170 rfl aKN rfl];suffices h:∃r,cT (Aa Tryz.prog _ (St.init [.agg (gJ a),.agg (gJ b)])) (Bi Tryz.prog 170 Tryz.f170)=some r∧∃c:Int,r=.v (.int .i64 c) by
  obtain⟨r,h,c,rfl⟩:=h;exact⟨c,h⟩
 simp only[Z8,seval];refine cI (fun m st=>∃k:Nat,(st.env 2=.ptr 2 0 0∧st.heap 2 0=some (.cells (gJ a))∧st.env 3=.ptr 3 0 0∧st.heap 3 0=some (.cells (gJ b))∧st.env 5=.v (.int .i64 ((k:Int)-1)))∧k≤4∧m=k)
  (fun e st=>(e=.ret∧∃c:Int,st.env 4=.v (.int .i64 c))∨e=.exit 0) 4 ?step ?start ?rest
 case step =>
  rintro m st ⟨k,hI,hk,hm⟩
  by_cases bA:(0:Int)≤(k:Int)-1
  ·have q1:(k:Int)-1<4:=by omega
   have hw:IntKind.i64.wrap ((k:Int)-1-1)=((k-1:Nat):Int)-1:=by rw[nU _ (by omega) (by omega)];omega
   have ga:=Sz a bA q1
   have gb:=Sz b bA q1
   by_cases h1:wb a ((k:Int)-1)<wb b ((k:Int)-1)
   ·apply oT (.ret)
    ·simp only[Z8,seval,hI,bA,q1,Iq,ga,gb,h1];rfl
    ·exact .inl ⟨rfl,-1,by simp only[E8,seval]⟩
   ·by_cases h2:wb b ((k:Int)-1)<wb a ((k:Int)-1)
    ·apply oT (.ret)
     ·simp only[Z8,seval,hI,bA,q1,Iq,ga,gb,h1,h2];rfl
     ·exact .inl ⟨rfl,1,by simp only[E8,seval]⟩
    ·apply oN (k-1)
     ·simp only[Z8,seval,hI,bA,q1,Iq,ga,gb,h1,h2,hw];rfl
     ·exact⟨k-1,by simp only[E8,seval,hI],by omega,rfl⟩
  ·apply oT (.exit 0)
   ·simp only[Z8,seval,hI,bA];rfl
   ·exact .inr rfl
 case start=>exact⟨4,by simp only[E8,seval]<;>rfl,by omega,by omega⟩
 case rest =>
  rintro e st (⟨rfl,c,h⟩|rfl)
  ·simp only[Z8,seval];exact⟨_,bZ rfl h (.v _),c,rfl⟩
  ·simp only[Z8,seval];exact⟨_,bZ rfl (by simp only[E8,seval]<;>rfl) (.v _),0,rfl⟩
noncomputable def aCL (a b:qM):Int:=Classical.choose (aKM a b)
theorem aKO (a b:qM) (st:St) (d:Option Nat):aO (aB Tryz.prog) 170 [.agg (gJ a),.agg (gJ b)] st d=some { dst:=d,val:=.v (.int .i64 (aCL a b))}:=bG (bF (.agg _ (iF a)) (.agg _ (iF b))) (Classical.choose_spec (aKM a b)) (.v _)
theorem aQe (p b:Block):aB Tryz.prog 169 [.agg (aV p),.agg (aV b)]=some (.v (.bool (!decide (b.jL=dR) && decide (p.jL=dR)))):=by
 rw[cL Tryz.func169 rfl aKP rfl];by_cases h:b.jL=dR
 all_goals
  simp only[h,decide_true,decide_false,Bool.not_true,Bool.not_false,Bool.true_and,Bool.false_and];simp only[Z8,seval,h,decide_true,decide_false];exact bZ rfl (by simp only[E8,seval]<;>rfl) (.v _)
theorem aGp (p b:Block) (st:St) (d:Option Nat):aO (aB Tryz.prog) 169 [.agg (aV p),.agg (aV b)] st d=some { dst:=d,val:=.v (.bool (!decide (b.jL=dR) && decide (p.jL=dR)))}:=bG (bF (tJ p) (tJ b)) (aQe p b) (.v _)
def G9 (DW:qM) (p b:Block):Prop:=(b.jL=dR→p.jL=dR)∧(b.jL≠dR→p.jL=dR→aCL b.HC DW<0∧0≤aCL b.diff DW)
theorem aQf (DW:qM) (p b:Block):aB Tryz.prog 114 [.agg (gJ DW),.agg (aV p),.agg (aV b)]=some (.v (.bool (decide (G9 DW p b)))):=by
 rw[cL Tryz.func114 rfl aKQ rfl];unfold G9;by_cases h:b.jL=dR
 ·simp only[h,forall_const,ne_eq,not_true_eq_false,false_implies,and_true];simp only[Z8,seval,h,decide_true];exact bZ rfl (by simp only[E8,seval]<;>rfl) (.v _)
 ·by_cases hp:p.jL=dR
  ·simp only[h,hp,ne_eq,not_false_eq_true,forall_const,false_implies,true_and];by_cases h1:aCL b.HC DW<0
   ·simp only[h1,true_and];simp only[Z8,seval,h,hp,aGp,aKO,h1,decide_true,decide_false,Bool.not_false,Bool.true_and];exact bZ rfl (by simp only[E8,seval]<;>rfl) (.v _)
   ·simp only[h1,false_and,decide_false];simp only[Z8,seval,h,hp,aGp,aKO,h1,decide_true,decide_false,Bool.not_false,Bool.true_and];exact bZ rfl (by simp only[E8,seval]<;>rfl) (.v _)
  ·simp only[h,hp,ne_eq,not_false_eq_true,forall_const,false_implies,and_self,decide_true];simp only[Z8,seval,h,hp,aGp,decide_false,Bool.not_false,Bool.true_and];exact bZ rfl (by simp only[E8,seval]<;>rfl) (.v _)
theorem Zo (DW:qM) (p b:Block) (st:St) (d:Option Nat):aO (aB Tryz.prog) 114 [.agg (gJ DW),.agg (aV p),.agg (aV b)] st d=some { dst:=d,val:=.v (.bool (decide (G9 DW p b)))}:=bG (mE (.agg _ (iF DW)) (tJ p) (tJ b)) (aQf DW p b) (.v _)
noncomputable def Wp (b:Block):Int:=if b.jL=dR then 1 else 0
theorem aQg (b:Block):aB Tryz.prog 233 [.agg (aV b)]=some (.v (.int .i64 (Wp b))):=by
 rw[cL Tryz.func233 rfl aKR rfl];unfold Wp;by_cases h:b.jL=dR
 ·simp only[h,if_true];simp only[Z8,seval,h,decide_true];exact bZ rfl (by simp only[E8,seval]<;>rfl) (.v _)
 ·simp only[h,if_false];simp only[Z8,seval,h,decide_false];exact bZ rfl (by simp only[E8,seval]<;>rfl) (.v _)
theorem aKS (b:Block) (st:St) (d:Option Nat):aO (aB Tryz.prog) 233 [.agg (aV b)] st d=some { dst:=d,val:=.v (.int .i64 (Wp b))}:=bG (cV (tJ b)) (aQg b) (.v _)
theorem kx {g:Nat} {args:List AV} {r:AV} (h:aB Tryz.prog g args=some r) (hf:∀x∈args,Flat x) (hr:Flat r):∀(st:St) (d:Option Nat),aO (aB Tryz.prog) g args st d=some { dst:=d,val:=r }:=fun st d=>bG hf h hr
theorem bf {x y:Int} (h:¬x=y):(x == y)=false∧(x != y)=true:=by simp[h]
theorem bt {x y:Int} (h:x=y):(x == y)=true∧(x != y)=false:=by simp[h]
def Wq (l:List Int) (n:Int) (k:Nat):Prop:=gx (0:Int) l k<0∨n≤gx (0:Int) l k∨(0<k∧gx (0:Int) l k≤gx (0:Int) l ((k:Int)-1))
noncomputable def DL (l:List Int) (n:Int):Int:=if l=[] then 2 else if uL (Wq l n) l.length<0 then 0 else if gx (0:Int) l (uL (Wq l n) l.length)<0∨n≤gx (0:Int) l (uL (Wq l n) l.length) then 3 else 8
theorem c40 (o:Option (List Int)) (hn:((ol o).length:Int)<1000000) (n:Int):aB Tryz.prog 40 [ov aK o,.v (.int .i64 n)]=some (.v (.int .i64 (DL (ol o) n))):=by
 rw[cL Tryz.func40 rfl aQh (by cases o<;>rfl)]
 refine iT ?_
 by_cases h0:ol o=[]
 ·have hv:DL (ol o) n=2:=if_pos h0
  have hl:(ol o).length=0:=by rw[h0];rfl
  simp only[Z8,seval,hl];exact⟨_,bZ rfl (by simp only[E8,seval,hv]<;>rfl) (by first|exact .v _|simp only[eC,hv]),rfl⟩
 have hl:=bf (x:=((ol o).length:Int)) (y:=0) (by have:=List.length_pos_iff.2 h0;omega)
 simp only[Z8,seval,hl];refine cI (fun m st=>∃k:Nat,(st.env 0=ov aK o∧st.env 1=.v (.int .i64 n)∧st.env 5=.v (.int .i64 k))∧(∀j:Nat,j<k→¬Wq (ol o) n j)∧k≤(ol o).length∧m=(ol o).length-k)
  (fun e st=>(e=.ret∧∃k:Nat,k<(ol o).length∧Wq (ol o) n k∧(∀j:Nat,j<k→¬Wq (ol o) n j)∧st.env 4=.v (.int .i64 (if gx (0:Int) (ol o) k<0∨n≤gx (0:Int) (ol o) k then 3 else 8)))∨(e=.exit 0∧∀j:Nat,j<(ol o).length→¬Wq (ol o) n j)) (ol o).length ?step ?start ?rest
 case step =>
  rintro m st ⟨k,hI,hj,hk,hm⟩
  by_cases bA:(k:Int)<(ol o).length
  ·have q0:(0:Int)≤k:=by omega
   have hw:IntKind.i64.wrap ((k:Int)+1)=((k+1:Nat):Int):=by rw[nU _ (by omega) (by omega)];omega
   by_cases h1:gx (0:Int) (ol o) k<0
   ·apply oT (.ret)
    ·simp only[Z8,seval,hI,bA,q0,h1];rfl
    ·exact .inl ⟨rfl,k,by omega,.inl h1,hj,by simp only[E8,seval,h1,true_or]⟩
   by_cases h2:n≤gx (0:Int) (ol o) k
   ·apply oT (.ret)
    ·simp only[Z8,seval,hI,bA,q0,h1,h2];rfl
    ·exact .inl ⟨rfl,k,by omega,.inr (.inl h2),hj,by simp only[E8,seval,h2,or_true]⟩
   by_cases h3:(0:Int)<k
   ·have q1:(0:Int)≤(k:Int)-1:=by omega
    have q2:(k:Int)-1<(ol o).length:=by omega
    have p9:IntKind.i64.wrap ((k:Int)-1)=(k:Int)-1:=by rw[nU _ (by omega) (by omega)]
    by_cases h4:gx (0:Int) (ol o) k≤gx (0:Int) (ol o) ((k:Int)-1)
    ·apply oT (.ret)
     ·simp only[Z8,seval,hI,bA,q0,q1,q2,p9,h1,h2,h3,h4];rfl
     ·exact .inl ⟨rfl,k,by omega,.inr (.inr ⟨by omega,h4⟩),hj,by simp only[E8,seval,h1,h2,or_self]⟩
    ·apply oN ((ol o).length-(k+1))
     ·simp only[Z8,seval,hI,bA,q0,q1,q2,p9,h1,h2,h3,h4,hw];rfl
     ·exact⟨k+1,by simp only[E8,seval,hI],fun j h=>(Nat.lt_succ_iff_lt_or_eq.1 h).elim (hj j) fun e=>by subst e;unfold Wq;simp only[h1,h2,h4,and_false,or_self,not_false_eq_true],by omega,rfl⟩
   ·have h5:¬(0<k):=by omega
    apply oN ((ol o).length-(k+1))
    ·simp only[Z8,seval,hI,bA,q0,h1,h2,h3,hw];rfl
    ·exact⟨k+1,by simp only[E8,seval,hI],fun j h=>(Nat.lt_succ_iff_lt_or_eq.1 h).elim (hj j) fun e=>by subst e;unfold Wq;simp only[h1,h2,h5,false_and,or_self,not_false_eq_true],by omega,rfl⟩
  ·apply oT (.exit 0)
   ·simp only[Z8,seval,hI,bA];rfl
   ·exact .inr ⟨rfl,fun j h=>hj j (by omega)⟩
 case start=>exact⟨0,by simp only[E8,seval]<;>rfl,fun j h=>by omega,by omega,by omega⟩
 case rest =>
  rintro e st (⟨rfl,k,hk,hh,hj,h⟩|⟨rfl,hj⟩)
  ·have hv:DL (ol o) n=if gx (0:Int) (ol o) k<0∨n≤gx (0:Int) (ol o) k then 3 else 8:=by
    unfold DL;rw[if_neg h0,By hh hj _ hk,if_neg (by omega)]
   rw[← hv] at h;simp only[Z8,seval];exact⟨_,bZ rfl (by simp only[E8,seval,h]<;>rfl) (by first|exact .v _|simp only[eC,h]),rfl⟩
  ·have hv:DL (ol o) n=0:=by
    unfold DL;rw[if_neg h0,tK _ hj,if_pos (by omega)]
   simp only[Z8,seval];exact⟨_,bZ rfl (by simp only[E8,seval,hv]<;>rfl) (by first|exact .v _|simp only[eC,hv]),rfl⟩
theorem aCM (a b:Int):(DT a b).2≠21:=by unfold DT;split<;>simp
theorem WB (l:List Int) (n:Int):DL l n≠21:=by unfold DL;split;simp;split;simp;split<;>simp
theorem aKT (o:Option (List Int)) (hn:((ol o).length:Int)<1000000):∃r,aB Tryz.prog 175 [ov bI o]=some r∧∃a e:Int,r=.eG [.v (.int .u64 a),.v (.int .i64 e)]∧e≠21:=by
 rw[cL Tryz.func175 rfl aE9 (by cases o<;>rfl)]
 simp only[Z8,seval];refine cI (fun m st=>∃(k:Nat) (a:Int),(st.env 0=ov bI o∧st.env 4=.v (.int .u64 a)∧st.env 5=.v (.int .i64 k))∧k≤(ol o).length∧m=(ol o).length-k)
  (fun e st=>(e=.ret∧∃a e:Int,st.env 2=.v (.int .u64 a)∧st.env 3=.v (.int .i64 e)∧e≠21)∨(e=.exit 0∧∃a:Int,st.env 4=.v (.int .u64 a))) (ol o).length ?step ?start ?rest
 case step =>
  rintro m st ⟨k,a,hI,hk,hm⟩
  by_cases bA:(k:Int)<(ol o).length
  ·have q0:(0:Int)≤k:=by omega
   have hw:IntKind.i64.wrap ((k:Int)+1)=((k+1:Nat):Int):=by rw[nU _ (by omega) (by omega)];omega
   by_cases h1:(DT a (gx (0:Int) (ol o) k)).2=0
   ·apply oN ((ol o).length-(k+1))
    ·simp only[Z8,seval,hI,bA,q0,aGc,dN,h1,hw];rfl
    ·exact⟨k+1,_,by simp only[E8,seval,hI]<;>rfl,by omega,rfl⟩
   ·apply oT (.ret)
    ·simp only[Z8,seval,hI,bA,q0,aGc,dN,bf h1];rfl
    ·exact .inl ⟨rfl,_,_,by simp only[E8,seval]<;>rfl,by simp only[E8,seval]<;>rfl,aCM _ _⟩
  ·apply oT (.exit 0)
   ·simp only[Z8,seval,hI,bA];rfl
   ·exact .inr ⟨rfl,a,by simp only[E8,seval,hI]⟩
 case start=>exact⟨0,0,by simp only[E8,seval]<;>exact⟨rfl,rfl⟩,by omega,by omega⟩
 case rest =>
  rintro e st (⟨rfl,a,e,h,h',fQ⟩|⟨rfl,a,h⟩)
  ·simp only[Z8,seval];exact⟨_,dK rfl rfl rfl (by simp only[E8,seval,h,h']<;>rfl) (by simp only[E8,seval,h,h']<;>rfl),_,_,rfl,fQ⟩
  ·simp only[Z8,seval,h];exact⟨_,dK rfl rfl rfl (by simp only[E8,seval,h]<;>rfl) (by simp only[E8,seval,h]<;>rfl),_,_,rfl,by decide⟩
theorem aFa (t:Table) (b:Option (List Int)) (hb:t.iP=ov bI b) (hl:((ol b).length:Int)<1000000) (n:Int):∃r,aB Tryz.prog 130 [.agg (cA t),.v (.int .i64 n)]=some r∧∃e:Int,r=.v (.int .i64 e)∧e≠21∧(e=0→((ol b).length:Int)=n):=by
 obtain⟨r,hr,a,e,rfl,he⟩:=aKT b hl
 have H0:=kx hr (cV (dV b)) (.eG _ (bF (.v _) (.v _)))
 rw[cL Tryz.func130 rfl aFb rfl];by_cases h1:((ol b).length:Int)=n
 ·by_cases h2:e=0
  ·by_cases h3:4611686018427387904<a
   all_goals
    simp only[Z8,seval,hb,bt h1,bt h2,h3,H0,dN];exact⟨_,bZ rfl (by simp only[E8,seval]<;>rfl) (by first|exact .v _|simp only[eC]),_,rfl,by decide,fun _=>h1⟩
  ·simp only[Z8,seval,hb,bt h1,bf h2,H0,dN];exact⟨_,bZ rfl (by simp only[E8,seval]<;>rfl) (by first|exact .v _|simp only[eC]),_,rfl,by decide,fun _=>h1⟩
 ·simp only[Z8,seval,hb,bf h1];exact⟨_,bZ rfl (by simp only[E8,seval]<;>rfl) (by first|exact .v _|simp only[eC]),_,rfl,by decide,fun h=>by cases h⟩
theorem aQi (t:Table) (ht:rZ t) (n:Int):∃r,aB Tryz.prog 130 [.agg (cA t),.v (.int .i64 n)]=some r∧∃e:Int,r=.v (.int .i64 e)∧e≠21:=by
 obtain⟨b,hb,hl⟩:=ht
 obtain⟨r,hr,e,h1,h2,_⟩:=aFa t b hb hl n
 exact⟨r,hr,e,h1,h2⟩
theorem aGq (a b:dQ):∃r,aB Tryz.prog 131 [.agg (bB a),.agg (bB b)]=some r∧∃e:Int,r=.v (.int .i64 e):=by
 rw[cL Tryz.func131 rfl aKU rfl];by_cases h1:a.aG=b.aG
 ·simp only[Z8,seval,bt h1,aGo];exact⟨_,bZ rfl (by simp only[E8,seval]<;>rfl) (by first|exact .v _|simp only[eC]),_,rfl⟩
 ·by_cases h2:a.aG<b.aG
  all_goals
   simp only[Z8,seval,bf h1,h2];exact⟨_,bZ rfl (by simp only[E8,seval]<;>rfl) (by first|exact .v _|simp only[eC]),_,rfl⟩
noncomputable def aKV (a b:dQ):Int:=Classical.choose (Classical.choose_spec (aGq a b)).2
theorem aKW (a b:dQ) (st:St) (d:Option Nat):aO (aB Tryz.prog) 131 [.agg (bB a),.agg (bB b)] st d=some { dst:=d,val:=.v (.int .i64 (aKV a b))}:=by
 have h:=(Classical.choose_spec (aGq a b)).1
 rw[Classical.choose_spec (Classical.choose_spec (aGq a b)).2] at h;exact bG (bF (.agg _ (bR a)) (.agg _ (bR b))) h (.v _)
def KnB (v:SV) (r:cN):Prop:=(∃j:Nat,j<(ol v.O).length∧(gx dX (ol v.O) j).root=r)∨0≤aN v.ns r
theorem c54 {s:aM} {v:SV} (hs:SD s v) (r:cN):aB Tryz.prog 54 [.agg (aA s),.agg (bD r)]=some (.v (.bool (decide (KnB v r)))):=by
 have hn:=hs.nO
 rw[cL Tryz.func54 rfl aQj rfl];refine iT ?_
 simp only[Z8,seval,hs.bL];refine cI (fun m st=>∃k:Nat,(st.env 2=.ptr 2 0 0∧st.heap 2 0=some (.cells (aA s))∧st.env 3=.ptr 3 0 0∧st.heap 3 0=some (.cells (bD r))∧st.env 5=.v (.int .i64 k))∧(∀j:Nat,j<k→¬((gx dX (ol v.O) (j:Int)).root=r))∧k≤(ol v.O).length∧m=(ol v.O).length-k)
  (fun e st=>(e=.ret∧∃k:Nat,k<(ol v.O).length∧((gx dX (ol v.O) (k:Int)).root=r)∧(∀j:Nat,j<k→¬((gx dX (ol v.O) (j:Int)).root=r))∧st.env 4=.v (.bool true))∨(e=.exit 0∧(∀j:Nat,j<(ol v.O).length→¬((gx dX (ol v.O) (j:Int)).root=r))∧st.env 2=.ptr 2 0 0∧st.heap 2 0=some (.cells (aA s))∧st.env 3=.ptr 3 0 0∧st.heap 3 0=some (.cells (bD r)))) ((ol v.O).length) ?step ?start ?rest
 case step =>
  rintro m st ⟨k,hI,hj,hk,hm⟩
  by_cases bA:(k:Int)<(ol v.O).length
  ·have q0:(0:Int)≤k:=by omega
   have hw:IntKind.i64.wrap ((k:Int)+1)=((k+1:Nat):Int):=by rw[nU _ (by omega) (by omega)];omega
   by_cases hh:(gx dX (ol v.O) (k:Int)).root=r
   ·apply oT (.ret)
    ·simp only[Z8,seval,hI,bA,q0,hs.bL,hh];rfl
    ·exact .inl ⟨rfl,k,by omega,hh,hj,by simp only[E8,seval,hs.bL]⟩
   ·apply oN ((ol v.O).length-(k+1))
    ·simp only[Z8,seval,hI,bA,q0,hs.bL,hh,hw];rfl
    ·exact⟨k+1,by simp only[E8,seval,hI],fun j h=>(Nat.lt_succ_iff_lt_or_eq.1 h).elim (hj j) fun e=>by subst e;exact hh,by omega,rfl⟩
  ·apply oT (.exit 0)
   ·simp only[Z8,seval,hI,bA,hs.bL];rfl
   ·exact .inr ⟨rfl,fun j h=>hj j (by omega),by simp only[E8,seval,hI]⟩
 case start=>exact⟨0,by simp only[E8,seval]<;>rfl,fun j h=>by omega,by omega,by omega⟩
 case rest =>
  rintro e st (⟨rfl,k,hk,hh,hj,h⟩|⟨rfl,hj,hI⟩)
  ·have hv:decide (KnB v r)=true:=decide_eq_true (.inl ⟨k,hk,hh⟩)
   simp only[Z8,seval];exact⟨_,bZ rfl (by simp only[E8,seval,h]<;>rfl) (by first|exact .v _|simp only[eC,h]),by rw[hv]⟩
  ·have hv:decide (KnB v r)=decide (0≤aN v.ns r):=by
    refine decide_eq_decide.2 ⟨fun h=>h.elim (fun ⟨j,hj1,hj2⟩=>absurd hj2 (hj j hj1)) id,.inr⟩
   simp only[Z8,seval,hI,hs.tree,mU _ _ hs.nn];exact⟨_,bZ rfl (by simp only[E8,seval]<;>rfl) (by first|exact .v _|simp only[eC]),by rw[hv]⟩
theorem U3 {s:aM} {v:SV} (hs:SD s v) (r:cN) (st:St) (d:Option Nat):aO (aB Tryz.prog) 54 [.agg (aA s),.agg (bD r)] st d=some { dst:=d,val:=.v (.bool (decide (KnB v r)))}:=bG (bF hs.flat (qQ r)) (c54 hs r) (.v _)
def JB (s:aM) (a:sG):Prop:=a.target.aG≠yD s a.slot∨(a.target.aG≠yD s s.now∧(yD s s.now=0∨a.target.aG≠IntKind.u64.wrap (yD s s.now-1)))
noncomputable def Hw (s:aM) (v:SV) (a:sG) (V:List Int):Bool × Int :=
 if DL V (ol v.B).length≠0 then (false,DL V (ol v.B).length) else
 if JB s a then (false,18) else
 if aN v.ns a.root<0 then (false,10) else
 if aN v.ns a.target.root<0 then (false,10) else
 if a.slot<(nd v.ns (aN v.ns a.root)).block.slot then (false,14) else
 if IU v.ns (aN v.ns a.root) (vC s a.target.aG).1≠aN v.ns a.target.root then (false,19) else (decide (s.now≤a.slot),0)
theorem c39 {s:aM} {v:SV} (hs:SD s v) (hu:gK v.ns) (hp:s.cFg.jH≠0) (a:sG) (o:Option (List Int)) (hV:a.fB=ov aK o) (hl:((ol o).length:Int)<1000000) :
 aB Tryz.prog 39 [.agg (aA s),.agg (iC a)]=some (.eG [.v (.bool (Hw s v a (ol o)).1),.v (.int .i64 (Hw s v a (ol o)).2)]):=by
 have hf:=hs.flat
 have NG:=fun n=>kx (c40 o hl n) (bF (bX o) (.v _)) (.v _)
 rw[cL Tryz.func39 rfl aQk rfl];refine iT ?_
 have r1:=eQ v.ns a.root
 by_cases g1:DL (ol o) (ol v.B).length=0
 case neg =>
  have hv:Hw s v a (ol o)=(false,DL (ol o) (ol v.B).length):=by simp only[Hw,ne_eq,g1,not_false_eq_true,if_true]
  simp only[Z8,seval,hV,Zm hs,NG,bf g1];exact⟨_,dK rfl rfl rfl (by simp only[E8,seval]<;>rfl) (by simp only[E8,seval]<;>rfl),by rw[hv]⟩
 have WC:JB s a→Hw s v a (ol o)=(false,18):=fun g=>by simp only[Hw,ne_eq,g1,not_true_eq_false,if_false,g,if_true]
 by_cases g2:a.target.aG=yD s a.slot
 case neg =>
  have hv:=WC (.inl g2)
  simp only[Z8,seval,hV,Zm hs,NG,bt g1,Pc s hp hf,bf g2];exact⟨_,dK rfl rfl rfl (by simp only[E8,seval]<;>rfl) (by simp only[E8,seval]<;>rfl),by rw[hv]⟩
 by_cases g3:a.target.aG=yD s s.now
 case neg =>
  by_cases g4:yD s s.now=0
  ·have hv:=WC (.inr ⟨g3,.inl g4⟩)
   simp only[Z8,seval,hV,Zm hs,NG,bt g1,Pc s hp hf,bt g2,bf g3,bt g4];exact⟨_,dK rfl rfl rfl (by simp only[E8,seval]<;>rfl) (by simp only[E8,seval]<;>rfl),by rw[hv]⟩
  by_cases g5:a.target.aG=IntKind.u64.wrap (yD s s.now-1)
  case neg =>
   have hv:=WC (.inr ⟨g3,.inr g5⟩)
   simp only[Z8,seval,hV,Zm hs,NG,bt g1,Pc s hp hf,bt g2,bf g3,bf g4,bf g5];exact⟨_,dK rfl rfl rfl (by simp only[E8,seval]<;>rfl) (by simp only[E8,seval]<;>rfl),by rw[hv]⟩
  have gb:¬JB s a:=fun h=>h.elim (fun h=>h g2) fun h=>h.2.elim g4 fun h=>h g5
  by_cases g6:aN v.ns a.root<0
  ·have hv:Hw s v a (ol o)=(false,10):=by simp only[Hw,ne_eq,g1,not_true_eq_false,if_false,gb,g6,if_true]
   simp only[Z8,seval,hV,Zm hs,NG,bt g1,Pc s hp hf,bt g2,bf g3,bf g4,bt g5,hs.tree,mU _ _ hs.nn,g6];exact⟨_,dK rfl rfl rfl (by simp only[E8,seval]<;>rfl) (by simp only[E8,seval]<;>rfl),by rw[hv]⟩
  by_cases g7:aN v.ns a.target.root<0
  ·have hv:Hw s v a (ol o)=(false,10):=by simp only[Hw,ne_eq,g1,not_true_eq_false,if_false,gb,g6,g7,if_true]
   simp only[Z8,seval,hV,Zm hs,NG,bt g1,Pc s hp hf,bt g2,bf g3,bf g4,bt g5,hs.tree,mU _ _ hs.nn,g6,g7];exact⟨_,dK rfl rfl rfl (by simp only[E8,seval]<;>rfl) (by simp only[E8,seval]<;>rfl),by rw[hv]⟩
  have q0:0≤aN v.ns a.root:=by omega
  by_cases g8:a.slot<(nd v.ns (aN v.ns a.root)).block.slot
  ·have hv:Hw s v a (ol o)=(false,14):=by simp only[Hw,ne_eq,g1,not_true_eq_false,if_false,gb,g6,g7,g8,if_true]
   simp only[Z8,seval,hV,Zm hs,NG,bt g1,Pc s hp hf,bt g2,bf g3,bf g4,bt g5,hs.tree,mU _ _ hs.nn,g6,g7,q0,r1,g8];exact⟨_,dK rfl rfl rfl (by simp only[E8,seval]<;>rfl) (by simp only[E8,seval]<;>rfl),by rw[hv]⟩
  by_cases g9:IU v.ns (aN v.ns a.root) (vC s a.target.aG).1=aN v.ns a.target.root
  ·have hv:Hw s v a (ol o)=(decide (s.now≤a.slot),0):=by simp only[Hw,ne_eq,g1,not_true_eq_false,if_false,gb,g6,g7,g8,g9]
   simp only[Z8,seval,hV,Zm hs,NG,bt g1,Pc s hp hf,bt g2,bf g3,bf g4,bt g5,hs.tree,mU _ _ hs.nn,g6,g7,q0,r1,g8,Xv s hf,dN,NS _ hu hs.nn,bt g9];exact⟨_,dK rfl rfl rfl (by simp only[E8,seval]<;>rfl) (by simp only[E8,seval]<;>rfl),by rw[hv]⟩
  ·have hv:Hw s v a (ol o)=(false,19):=by simp only[Hw,ne_eq,g1,not_true_eq_false,if_false,gb,g6,g7,g8,g9,not_false_eq_true,if_true]
   simp only[Z8,seval,hV,Zm hs,NG,bt g1,Pc s hp hf,bt g2,bf g3,bf g4,bt g5,hs.tree,mU _ _ hs.nn,g6,g7,q0,r1,g8,Xv s hf,dN,NS _ hu hs.nn,bf g9];exact⟨_,dK rfl rfl rfl (by simp only[E8,seval]<;>rfl) (by simp only[E8,seval]<;>rfl),by rw[hv]⟩
 have gb:¬JB s a:=fun h=>h.elim (fun h=>h g2) fun h=>h.1 g3
 by_cases g6:aN v.ns a.root<0
 ·have hv:Hw s v a (ol o)=(false,10):=by simp only[Hw,ne_eq,g1,not_true_eq_false,if_false,gb,g6,if_true]
  simp only[Z8,seval,hV,Zm hs,NG,bt g1,Pc s hp hf,bt g2,bt g3,hs.tree,mU _ _ hs.nn,g6];exact⟨_,dK rfl rfl rfl (by simp only[E8,seval]<;>rfl) (by simp only[E8,seval]<;>rfl),by rw[hv]⟩
 by_cases g7:aN v.ns a.target.root<0
 ·have hv:Hw s v a (ol o)=(false,10):=by simp only[Hw,ne_eq,g1,not_true_eq_false,if_false,gb,g6,g7,if_true]
  simp only[Z8,seval,hV,Zm hs,NG,bt g1,Pc s hp hf,bt g2,bt g3,hs.tree,mU _ _ hs.nn,g6,g7];exact⟨_,dK rfl rfl rfl (by simp only[E8,seval]<;>rfl) (by simp only[E8,seval]<;>rfl),by rw[hv]⟩
 have q0:0≤aN v.ns a.root:=by omega
 by_cases g8:a.slot<(nd v.ns (aN v.ns a.root)).block.slot
 ·have hv:Hw s v a (ol o)=(false,14):=by simp only[Hw,ne_eq,g1,not_true_eq_false,if_false,gb,g6,g7,g8,if_true]
  simp only[Z8,seval,hV,Zm hs,NG,bt g1,Pc s hp hf,bt g2,bt g3,hs.tree,mU _ _ hs.nn,g6,g7,q0,r1,g8];exact⟨_,dK rfl rfl rfl (by simp only[E8,seval]<;>rfl) (by simp only[E8,seval]<;>rfl),by rw[hv]⟩
 by_cases g9:IU v.ns (aN v.ns a.root) (vC s a.target.aG).1=aN v.ns a.target.root
 ·have hv:Hw s v a (ol o)=(decide (s.now≤a.slot),0):=by simp only[Hw,ne_eq,g1,not_true_eq_false,if_false,gb,g6,g7,g8,g9]
  simp only[Z8,seval,hV,Zm hs,NG,bt g1,Pc s hp hf,bt g2,bt g3,hs.tree,mU _ _ hs.nn,g6,g7,q0,r1,g8,Xv s hf,dN,NS _ hu hs.nn,bt g9];exact⟨_,dK rfl rfl rfl (by simp only[E8,seval]<;>rfl) (by simp only[E8,seval]<;>rfl),by rw[hv]⟩
 ·have hv:Hw s v a (ol o)=(false,19):=by simp only[Hw,ne_eq,g1,not_true_eq_false,if_false,gb,g6,g7,g8,g9,not_false_eq_true,if_true]
  simp only[Z8,seval,hV,Zm hs,NG,bt g1,Pc s hp hf,bt g2,bt g3,hs.tree,mU _ _ hs.nn,g6,g7,q0,r1,g8,Xv s hf,dN,NS _ hu hs.nn,bf g9];exact⟨_,dK rfl rfl rfl (by simp only[E8,seval]<;>rfl) (by simp only[E8,seval]<;>rfl),by rw[hv]⟩
theorem WD (ns:List Node) (s:Int) (l:List Int):Fv ns s l=-1∨Fv ns s l∈l:=by
 suffices h:∀(l:List Int) (a:Int),l.foldl (fun r x=>if (nd ns x).block.slot≤s then x else r) a=a∨l.foldl (fun r x=>if (nd ns x).block.slot≤s then x else r) a∈l from h l (-1)
 intro l;induction l with
 | nil=>exact fun a=>.inl rfl
 | cons x l ih =>
   intro a;rw[List.foldl_cons];split
   ·rcases ih x with h|h
    ·exact .inr (by rw[h];simp)
    ·exact .inr (by simp[h])
   ·rcases ih a with h|h
    ·exact .inl h
    ·exact .inr (by simp[h])
theorem HD {ns:List Node} (hu:gK ns) (i s:Int):-1≤IU ns i s∧IU ns i s<ns.length∧IU ns i s≤max i (-1):=by
 by_cases hi:0≤i∧i<ns.length
 ·rcases WD ns s (path ns i) with h|h
  ·rw[show IU ns i s=-1 from h];omega
  ·have:=Pu hu i.toNat i rfl hi.1 hi.2 _ h
   rw[show IU ns i s=Fv ns s (path ns i) from rfl];omega
 ·rw[NR s hi];omega
noncomputable def elC {α:Type} (x:AV) (k:dQ→Option α) (fb:Option α):Option α:=if h:∃c,x=.agg (bB c) then k (Classical.choose h) else fb
theorem aKX {α:Type} (c:dQ) (k:dQ→Option α) (fb:Option α):elC (.agg (bB c)) k fb=k c:=by
 unfold elC;have h:∃c',AV.agg (bB c)=.agg (bB c'):=⟨c,rfl⟩
 rw[dif_pos h];have:=Classical.choose_spec h
 injection this with h2
 rw[← (mY _ _).1 h2]
@[congr] theorem aJp {α:Type} {x y:AV} {k:dQ→Option α} {fb:Option α} (h:x=y):elC x k fb=elC y k fb:=by rw[h]
theorem aGr {call:Nat→List AV→Option AV} {ops:Array Oper} {st:St} {T:Nat} {pos:String} {eW:Array Edge} (d:Nat) (x y z w:Operand) :
 cH Tryz.prog call ops ⟨some d,.buildSlice 109 4 #[(0,x),(1,y),(2,z),(3,w)],T,pos,eW,none⟩ st =
  elC (st.ev x) (fun a=>elC (st.ev y) (fun b=>elC (st.ev z) (fun c=>elC (st.ev w) (fun e=>some ((st.new d (.row 41 33 [a,b,c,e].length (pF [a,b,c,e]))).put (some d) (.own d (st.aU d))))
   (cH Tryz.prog call ops ⟨some d,.buildSlice 109 4 #[(0,x),(1,y),(2,z),(3,w)],T,pos,eW,none⟩ st)) (cH Tryz.prog call ops ⟨some d,.buildSlice 109 4 #[(0,x),(1,y),(2,z),(3,w)],T,pos,eW,none⟩ st))
   (cH Tryz.prog call ops ⟨some d,.buildSlice 109 4 #[(0,x),(1,y),(2,z),(3,w)],T,pos,eW,none⟩ st)) (cH Tryz.prog call ops ⟨some d,.buildSlice 109 4 #[(0,x),(1,y),(2,z),(3,w)],T,pos,eW,none⟩ st):=by
 unfold elC;split
 ·rename_i h1;have h1c:=h1
  obtain⟨a,GG⟩:=h1c
  have e1:Classical.choose h1=a:=by have:=(Classical.choose_spec h1).symm.trans GG;injection this with t;exact (mY _ _).1 t
  rw[e1];split
  ·rename_i h2;have h2c:=h2
   obtain⟨b,h2'⟩:=h2c
   have e2:Classical.choose h2=b:=by have:=(Classical.choose_spec h2).symm.trans h2';injection this with t;exact (mY _ _).1 t
   rw[e2];split
   ·rename_i h3;have h3c:=h3
    obtain⟨c,h3'⟩:=h3c
    have e3:Classical.choose h3=c:=by have:=(Classical.choose_spec h3).symm.trans h3';injection this with t;exact (mY _ _).1 t
    rw[e3];split
    ·rename_i h4;have h4c:=h4
     obtain⟨e,Q0⟩:=h4c
     have e4:Classical.choose h4=e:=by have:=(Classical.choose_spec h4).symm.trans Q0;injection this with t;exact (mY _ _).1 t
     rw[e4,lA,OK];have hz:((List.range 4).flatMap fun _=>Dx.map AV.v)=pF [gP,gP,gP,gP]:=by rw[Bz];rfl
     have u0:=Qc [gP,gP,gP,gP] 0 a (by simp)
     have u1:=Qc [a,gP,gP,gP] 1 b (by simp)
     have u2:=Qc [a,b,gP,gP] 2 c (by simp)
     have u3:=Qc [a,b,c,gP] 3 e (by simp)
     simp only[Int.reduceToNat,Nat.reduceMul,Nat.reduceAdd,List.set_cons_zero,List.set_cons_succ,List.set] at u0 u1 u2 u3;simp only[cF,aGs,List.toList_toArray,List.map_cons,List.map_nil,List.all_cons,List.all_nil,GG,h2',h3',Q0,AV.jE,Bool.and_self,HE,OL,AV.cells,bV,Zp,hz,List.length_cons,List.length_nil,Nat.reduceMul,Nat.reduceAdd,Nat.reducePow,Nat.reduceLeDiff,Nat.reduceLT,true_or,true_and,and_true,and_self,if_true,↓reduceIte,u0,u1,u2,u3,Nat.zero_le,Nat.le_refl]
    ·rfl
   ·rfl
  ·rfl
 ·rfl
def H2 (s:aM) (v:SV) (b:Block) (c:dQ):Prop:=c.aG≤s.aL.fin.aG∨(if (vC s c.aG).1<b.slot then 0≤IU v.ns (aN v.ns b.parent) (vC s c.aG).1∧(nd v.ns (IU v.ns (aN v.ns b.parent) (vC s c.aG).1)).block.root=c.root else b.root=c.root)
def Ls (b:Block):List dQ:=[b.gI,b.fin,b.dW.pj,b.dW.pf]
def JC (s:aM) (v:SV) (b:Block):Prop:=0≤aN v.ns b.parent∧U2 s b∧∀j:Nat,j<4→H2 s v b (gx gP (Ls b) j)
theorem c69 {s:aM} {v:SV} (hs:SD s v) (hu:gK v.ns) (hp:s.cFg.jH≠0) (b:Block):aB Tryz.prog 69 [.agg (aA s),.agg (aV b)]=some (.v (.bool (decide (JC s v b)))):=by
 have hf:=hs.flat
 rw[cL Tryz.func69 rfl aQl rfl];refine iT ?_
 have r1:=eQ v.ns b.parent
 by_cases g1:aN v.ns b.parent<0
 ·have hv:decide (JC s v b)=false:=decide_eq_false (fun h=>by have:=h.1;omega)
  simp only[Z8,seval,hs.tree,mU _ _ hs.nn,g1];exact⟨_,bZ rfl (by simp only[E8,seval]<;>rfl) (by first|exact .v _|simp only[eC]),by rw[hv]⟩
 by_cases g2:U2 s b
 case neg =>
  have hv:decide (JC s v b)=false:=decide_eq_false (fun h=>g2 h.2.1)
  simp only[Z8,seval,hs.tree,mU _ _ hs.nn,g1,aKE s hp hf,g2];exact⟨_,bZ rfl (by simp only[E8,seval]<;>rfl) (by first|exact .v _|simp only[eC]),by rw[hv]⟩
 simp only[Z8,seval,hs.tree,mU _ _ hs.nn,g1,aKE s hp hf,g2,aGr,aKX];have h4:(Ls b).length=4:=rfl
 refine cI (fun m st=>∃k:Nat,(st.env 2=.ptr 2 0 0∧st.heap 2 0=some (.cells (aA s))∧st.env 3=.ptr 3 0 0∧st.heap 3 0=some (.cells (aV b))∧st.env 5=.v (.int .i64 (aN v.ns b.parent))∧st.env 6=.own 33 0∧st.heap 33 0=some (.row 41 33 (Ls b).length (pF (Ls b)))∧st.env 7=.v (.int .i64 k))∧(∀j:Nat,j<k→H2 s v b (gx gP (Ls b) j))∧k≤4∧m=4-k)
  (fun e st=>(e=.ret∧st.env 4=.v (.bool false)∧∃j:Nat,j<4∧¬H2 s v b (gx gP (Ls b) j))∨(e=.exit 0∧∀j:Nat,j<4→H2 s v b (gx gP (Ls b) j))) 4 ?step ?start ?rest
 case step =>
  rintro m st ⟨k,hI,hj,hk,hm⟩
  by_cases Hh:k<4
  ·have bA:(k:Int)<(Ls b).length:=by rw[h4];omega
   have q0:(0:Int)≤k:=by omega
   have hw:IntKind.i64.wrap ((k:Int)+1)=((k+1:Nat):Int):=by rw[nU _ (by omega) (by omega)];omega
   obtain⟨c,hc⟩:∃c,gx gP (Ls b) k=c:=⟨_,rfl⟩
   have ra:=HD hu (aN v.ns b.parent) (vC s c.aG).1
   have ld:∀T kk off,sT Tryz.prog T=some kk→0<kk→off+kk≤33→sA Tryz.prog T (some (.row 41 33 (Ls b).length (pF (Ls b)))) ((k:Int).toNat * 33+off)=fD Tryz.prog T (bB c) off:=fun T kk off h1 h2 h3=>by rw[JD q0 bA h1 h2 h3,hc]
   have ld0:∀T kk,sT Tryz.prog T=some kk→0<kk→kk≤33→sA Tryz.prog T (some (.row 41 33 (Ls b).length (pF (Ls b)))) ((k:Int).toNat * 33)=fD Tryz.prog T (bB c) 0:=fun T kk h1 h2 h3=>by rw[v8 q0 bA h1 h2 h3,hc]
   have nxt:H2 s v b c→∀j:Nat,j<k+1→H2 s v b (gx gP (Ls b) j):=fun h j hj'=>(Nat.lt_succ_iff_lt_or_eq.1 hj').elim (hj j) fun e=>by subst e;rw[hc];exact h
   have Q1:=ld0 23 1 WE (by decide) (by decide)
   have ld2:=ld 27 32 1 aKY (by decide) (by decide)
   have cl:∀i:Int,(k:Int)<4:=fun _=>by omega
   have hl4:(k:Int)<((Ls b).length:Int):=bA
   by_cases h1:c.aG≤s.aL.fin.aG
   ·apply oN (4-(k+1))
    ·simp only[Z8,seval,hI,bA,q0,Q1,ld2,h1,hw];rfl
    ·exact⟨k+1,by simp only[E8,seval,hI],nxt (.inl h1),by omega,rfl⟩
   by_cases h2:(vC s c.aG).1<b.slot
   ·by_cases h3:IU v.ns (aN v.ns b.parent) (vC s c.aG).1<0
    ·apply oT (.ret)
     ·simp only[Z8,seval,hI,bA,q0,Q1,ld2,h1,h2,h3,Xv s hf,dN,hs.tree,NS _ hu hs.nn];rfl
     ·exact .inl ⟨rfl,by simp only[E8,seval],k,Hh,by rw[hc];exact fun h=>h.elim h1 fun h=>by rw[if_pos h2] at h;omega⟩
    have q3:0≤IU v.ns (aN v.ns b.parent) (vC s c.aG).1:=by omega
    by_cases Q0:(nd v.ns (IU v.ns (aN v.ns b.parent) (vC s c.aG).1)).block.root=c.root
    ·apply oN (4-(k+1))
     ·simp only[Z8,seval,hI,bA,q0,Q1,ld2,h1,h2,h3,Xv s hf,dN,hs.tree,NS _ hu hs.nn,q3,ra,Q0,hw];rfl
     ·exact⟨k+1,by simp only[E8,seval,hI],nxt (.inr (by rw[if_pos h2];exact⟨q3,Q0⟩)),by omega,rfl⟩
    ·apply oT (.ret)
     ·simp only[Z8,seval,hI,bA,q0,Q1,ld2,h1,h2,h3,Xv s hf,dN,hs.tree,NS _ hu hs.nn,q3,ra,Q0];rfl
     ·exact .inl ⟨rfl,by simp only[E8,seval],k,Hh,by rw[hc];exact fun h=>h.elim h1 fun h=>by rw[if_pos h2] at h;exact Q0 h.2⟩
   ·by_cases Q0:b.root=c.root
    ·apply oN (4-(k+1))
     ·simp only[Z8,seval,hI,bA,q0,Q1,ld2,h1,h2,Xv s hf,dN,Q0,hw];rfl
     ·exact⟨k+1,by simp only[E8,seval,hI],nxt (.inr (by rw[if_neg h2];exact Q0)),by omega,rfl⟩
    ·apply oT (.ret)
     ·simp only[Z8,seval,hI,bA,q0,Q1,ld2,h1,h2,Xv s hf,dN,Q0];rfl
     ·exact .inl ⟨rfl,by simp only[E8,seval],k,Hh,by rw[hc];exact fun h=>h.elim h1 fun h=>by rw[if_neg h2] at h;exact Q0 h⟩
  ·have bA:¬((k:Int)<(Ls b).length):=by rw[h4];omega
   apply oT (.exit 0)
   ·simp only[Z8,seval,hI,bA];rfl
   ·exact .inr ⟨rfl,fun j h=>hj j (by omega)⟩
 case start=>exact⟨0,by simp only[E8,seval]<;>rfl,fun j h=>by omega,by omega,by omega⟩
 case rest =>
  rintro e st (⟨rfl,h,j,hj,hn⟩|⟨rfl,h⟩)
  ·have hv:decide (JC s v b)=false:=decide_eq_false (fun h=>hn (h.2.2 j hj))
   simp only[Z8,seval];exact⟨_,bZ rfl (by simp only[E8,seval,h]<;>rfl) (by first|exact .v _|simp only[eC,h]),by rw[hv]⟩
  ·have hv:decide (JC s v b)=true:=decide_eq_true ⟨by omega,g2,h⟩
   simp only[Z8,seval];exact⟨_,bZ rfl (by simp only[E8,seval]<;>rfl) (by first|exact .v _|simp only[eC]),by rw[hv]⟩
theorem U4 {s:aM} {v:SV} (hs:SD s v) (hu:gK v.ns) (hp:s.cFg.jH≠0) (b:Block) (st:St) (d:Option Nat):aO (aB Tryz.prog) 69 [.agg (aA s),.agg (aV b)] st d=some { dst:=d,val:=.v (.bool (decide (JC s v b)))}:=bG (bF hs.flat (tJ b)) (c69 hs hu hp b) (.v _)
noncomputable def Mh (s:aM) (v:SV) (b:Block):Int :=
 if b.root=dR then 2 else if KnB v b.root then 9 else if s.now<b.slot then 12 else if b.slot≤(vC s s.aL.fin.aG).1 then 13 else
 if aN v.ns b.parent<0 then 10 else if b.slot≤(nd v.ns (aN v.ns b.parent)).block.slot then 14 else if (nd v.ns (aN v.ns b.parent)).status=2 then 15 else
 if ¬JC s v b then 16 else if ¬G9 s.cFg.DW (nd v.ns (aN v.ns b.parent)).block b then 17 else if s.cFg.lJ.sK≤(v.ns.length:Int) then 11 else 0
theorem c52 {s:aM} {v:SV} (hs:SD s v) (hu:gK v.ns) (hp:s.cFg.jH≠0) (b:Block):aB Tryz.prog 52 [.agg (aA s),.agg (aV b)]=some (.v (.int .i64 (Mh s v b))):=by
 have hf:=hs.flat
 rw[cL Tryz.func52 rfl aQn rfl];refine iT ?_
 have r1:=eQ v.ns b.parent
 by_cases g1:b.root=dR
 ·simp only[Z8,seval,Xv s hf,dN,U3 hs,hs.tree,mU _ _ hs.nn,U4 hs hu hp,Zo,decide_true,decide_false,g1];exact⟨_,bZ rfl (by simp only[E8,seval]<;>rfl) (by first|exact .v _|simp only[eC]),by simp only[Mh,g1,not_true_eq_false,not_false_eq_true,if_true,if_false]⟩
 by_cases g2:KnB v b.root
 ·simp only[Z8,seval,Xv s hf,dN,U3 hs,hs.tree,mU _ _ hs.nn,U4 hs hu hp,Zo,decide_true,decide_false,g1,g2];exact⟨_,bZ rfl (by simp only[E8,seval]<;>rfl) (by first|exact .v _|simp only[eC]),by simp only[Mh,g1,g2,not_true_eq_false,not_false_eq_true,if_true,if_false]⟩
 by_cases g3:s.now<b.slot
 ·simp only[Z8,seval,Xv s hf,dN,U3 hs,hs.tree,mU _ _ hs.nn,U4 hs hu hp,Zo,decide_true,decide_false,g1,g2,g3];exact⟨_,bZ rfl (by simp only[E8,seval]<;>rfl) (by first|exact .v _|simp only[eC]),by simp only[Mh,g1,g2,g3,not_true_eq_false,not_false_eq_true,if_true,if_false]⟩
 by_cases g4:b.slot≤(vC s s.aL.fin.aG).1
 ·simp only[Z8,seval,Xv s hf,dN,U3 hs,hs.tree,mU _ _ hs.nn,U4 hs hu hp,Zo,decide_true,decide_false,g1,g2,g3,g4];exact⟨_,bZ rfl (by simp only[E8,seval]<;>rfl) (by first|exact .v _|simp only[eC]),by simp only[Mh,g1,g2,g3,g4,not_true_eq_false,not_false_eq_true,if_true,if_false]⟩
 by_cases g5:aN v.ns b.parent<0
 ·simp only[Z8,seval,Xv s hf,dN,U3 hs,hs.tree,mU _ _ hs.nn,U4 hs hu hp,Zo,decide_true,decide_false,g1,g2,g3,g4,g5];exact⟨_,bZ rfl (by simp only[E8,seval]<;>rfl) (by first|exact .v _|simp only[eC]),by simp only[Mh,g1,g2,g3,g4,g5,not_true_eq_false,not_false_eq_true,if_true,if_false]⟩
 have q0:0≤aN v.ns b.parent:=by omega
 by_cases g6:b.slot≤(nd v.ns (aN v.ns b.parent)).block.slot
 ·simp only[Z8,seval,Xv s hf,dN,U3 hs,hs.tree,mU _ _ hs.nn,U4 hs hu hp,Zo,decide_true,decide_false,g1,g2,g3,g4,g5,q0,r1,g6];exact⟨_,bZ rfl (by simp only[E8,seval]<;>rfl) (by first|exact .v _|simp only[eC]),by simp only[Mh,g1,g2,g3,g4,g5,g6,not_true_eq_false,not_false_eq_true,if_true,if_false]⟩
 by_cases g7:(nd v.ns (aN v.ns b.parent)).status=2
 ·simp only[Z8,seval,Xv s hf,dN,U3 hs,hs.tree,mU _ _ hs.nn,U4 hs hu hp,Zo,decide_true,decide_false,g1,g2,g3,g4,g5,q0,r1,g6,bt g7];exact⟨_,bZ rfl (by simp only[E8,seval]<;>rfl) (by first|exact .v _|simp only[eC]),by simp only[Mh,g1,g2,g3,g4,g5,g6,g7,not_true_eq_false,not_false_eq_true,if_true,if_false]⟩
 by_cases g8:¬JC s v b
 ·simp only[Z8,seval,Xv s hf,dN,U3 hs,hs.tree,mU _ _ hs.nn,U4 hs hu hp,Zo,decide_true,decide_false,g1,g2,g3,g4,g5,q0,r1,g6,bf g7,g8];exact⟨_,bZ rfl (by simp only[E8,seval]<;>rfl) (by first|exact .v _|simp only[eC]),by simp only[Mh,g1,g2,g3,g4,g5,g6,g7,g8,not_true_eq_false,not_false_eq_true,if_true,if_false]⟩
 replace g8:=Classical.not_not.1 g8
 by_cases g9:¬G9 s.cFg.DW (nd v.ns (aN v.ns b.parent)).block b
 ·simp only[Z8,seval,Xv s hf,dN,U3 hs,hs.tree,mU _ _ hs.nn,U4 hs hu hp,Zo,decide_true,decide_false,g1,g2,g3,g4,g5,q0,r1,g6,bf g7,g8,g9];exact⟨_,bZ rfl (by simp only[E8,seval]<;>rfl) (by first|exact .v _|simp only[eC]),by simp only[Mh,g1,g2,g3,g4,g5,g6,g7,g8,g9,not_true_eq_false,not_false_eq_true,if_true,if_false]⟩
 replace g9:=Classical.not_not.1 g9
 by_cases U5:s.cFg.lJ.sK≤(v.ns.length:Int)
 ·simp only[Z8,seval,Xv s hf,dN,U3 hs,hs.tree,mU _ _ hs.nn,U4 hs hu hp,Zo,decide_true,decide_false,g1,g2,g3,g4,g5,q0,r1,g6,bf g7,g8,g9,U5];exact⟨_,bZ rfl (by simp only[E8,seval]<;>rfl) (by first|exact .v _|simp only[eC]),by simp only[Mh,g1,g2,g3,g4,g5,g6,g7,g8,g9,U5,not_true_eq_false,not_false_eq_true,if_true,if_false]⟩
 simp only[Z8,seval,Xv s hf,dN,U3 hs,hs.tree,mU _ _ hs.nn,U4 hs hu hp,Zo,decide_true,decide_false,g1,g2,g3,g4,g5,q0,r1,g6,bf g7,g8,g9,U5];exact⟨_,bZ rfl (by simp only[E8,seval]<;>rfl) (by first|exact .v _|simp only[eC]),by simp only[Mh,g1,g2,g3,g4,g5,g6,g7,g8,g9,U5,not_true_eq_false,not_false_eq_true,if_true,if_false]⟩
theorem k52 {s:aM} {v:SV} (hs:SD s v) (hu:gK v.ns) (hp:s.cFg.jH≠0) (b:Block) (st:St) (d:Option Nat):aO (aB Tryz.prog) 52 [.agg (aA s),.agg (aV b)] st d=some { dst:=d,val:=.v (.int .i64 (Mh s v b))}:=bG (bF hs.flat (tJ b)) (c52 hs hu hp b) (.v _)
def OM (acc:Bool × dQ × dQ) (n:Node):Bool × dQ × dQ :=
 if n.status=2 then acc else (true,if acc.1=false∨acc.2.1.aG<n.block.dW.pj.aG then n.block.dW.pj else acc.2.1,if acc.1=false∨acc.2.2.aG<n.block.dW.pf.aG then n.block.dW.pf else acc.2.2)
def H3 (ns:List Node):Bool × dQ × dQ:=ns.foldl OM (false,gP,gP)
def Lt (ns:List Node):pE:=⟨(H3 ns).2.1,(H3 ns).2.2⟩
theorem H4 (ns:List Node) (k:Nat) (h:k<ns.length):H3 (ns.take (k+1))=OM (H3 (ns.take k)) (nd ns k):=by
 obtain⟨h',e⟩:=Nc (ns:=ns) (i:=(k:Int)) (by omega) (by omega)
 unfold H3;rw[List.take_succ_eq_append_getElem h,List.foldl_append,e];rfl
theorem c67 {s:aM} {v:SV} (hs:SD s v):aB Tryz.prog 67 [.agg (aA s)]=some (.agg (fM (Lt v.ns))):=by
 have hn:=hs.nn
 rw[cL Tryz.func67 rfl aQo rfl];refine iT ?_
 simp only[Z8,seval,hs.tree];refine cI (fun m st=>∃(k:Nat) (b:Bool) (x y:dQ),(st.env 1=.ptr 1 0 0∧st.heap 1 0=some (.cells (aA s))∧st.env 2=.ptr 2 0 0∧st.heap 2 0=some (.cells (fM Qd))∧st.env 3=.ptr 3 0 0∧st.heap 3 0=some (.cells (fM ⟨x,y⟩))∧st.env 4=.v (.bool b)∧st.env 5=.v (.int .i64 k))∧H3 (v.ns.take k)=(b,x,y)∧k≤v.ns.length∧m=v.ns.length-k)
  (fun e st=>e=.exit 0∧∃(x y:dQ),(st.env 2=.ptr 2 0 0∧st.heap 2 0=some (.cells (fM Qd))∧st.env 3=.ptr 3 0 0∧st.heap 3 0=some (.cells (fM ⟨x,y⟩)))∧Lt v.ns=⟨x,y⟩) v.ns.length ?step ?start ?rest
 case step =>
  rintro m st ⟨k,b,x,y,hI,hp,hk,hm⟩
  by_cases bA:(k:Int)<v.ns.length
  ·have q0:(0:Int)≤k:=by omega
   have hw:IntKind.i64.wrap ((k:Int)+1)=((k+1:Nat):Int):=by rw[nU _ (by omega) (by omega)];omega
   have yR:=H4 v.ns k (by omega)
   rw[hp] at yR;unfold OM at yR;by_cases h1:(nd v.ns k).status=2
   ·rw[if_pos h1] at yR;apply oN (v.ns.length-(k+1))
    ·simp only[Z8,seval,hI,bA,q0,hs.tree,bt h1,hw];rfl
    ·exact⟨k+1,b,x,y,by simp only[E8,seval,hI],yR,by omega,rfl⟩
   rw[if_neg h1] at yR;cases b
   ·simp only[true_or,if_true] at yR;apply oN (v.ns.length-(k+1))
    ·simp only[Z8,seval,hI,bA,q0,hs.tree,bf h1,hw];rfl
    ·exact⟨k+1,true,_,_,by simp only[E8,seval,hI]<;>rfl,yR,by omega,rfl⟩
   ·simp only[Bool.true_eq_false,false_or] at yR;by_cases h2:x.aG<(nd v.ns k).block.dW.pj.aG
    ·rw[if_pos h2] at yR;by_cases h3:y.aG<(nd v.ns k).block.dW.pf.aG
     ·rw[if_pos h3] at yR;apply oN (v.ns.length-(k+1))
      ·simp only[Z8,seval,hI,bA,q0,hs.tree,bf h1,h2,h3,hw];rfl
      ·exact⟨k+1,true,_,_,by simp only[E8,seval,hI]<;>rfl,yR,by omega,rfl⟩
     ·rw[if_neg h3] at yR;apply oN (v.ns.length-(k+1))
      ·simp only[Z8,seval,hI,bA,q0,hs.tree,bf h1,h2,h3,hw];rfl
      ·exact⟨k+1,true,_,_,by simp only[E8,seval,hI]<;>rfl,yR,by omega,rfl⟩
    ·rw[if_neg h2] at yR;by_cases h3:y.aG<(nd v.ns k).block.dW.pf.aG
     ·rw[if_pos h3] at yR;apply oN (v.ns.length-(k+1))
      ·simp only[Z8,seval,hI,bA,q0,hs.tree,bf h1,h2,h3,hw];rfl
      ·exact⟨k+1,true,_,_,by simp only[E8,seval,hI]<;>rfl,yR,by omega,rfl⟩
     ·rw[if_neg h3] at yR;apply oN (v.ns.length-(k+1))
      ·simp only[Z8,seval,hI,bA,q0,hs.tree,bf h1,h2,h3,hw];rfl
      ·exact⟨k+1,true,_,_,by simp only[E8,seval,hI]<;>rfl,yR,by omega,rfl⟩
  ·have Bu:k=v.ns.length:=by omega
   rw[Bu,List.take_length] at hp;apply oT (.exit 0)
   ·simp only[Z8,seval,hI,bA,hs.tree];rfl
   ·exact⟨rfl,x,y,by simp only[E8,seval,hI],by unfold Lt;rw[hp]⟩
 case start=>exact⟨0,false,gP,gP,by simp only[E8,seval]<;>rfl,rfl,by omega,by omega⟩
 case rest =>
  rintro e st ⟨rfl,x,y,hI,hp⟩
  simp only[Z8,seval,hI];exact⟨_,fL rfl (by simp only[E8,seval,hI]<;>rfl) (by simp only[Z8,seval,hI]<;>rfl) (by simp only[eC,and_self,hI]),by rw[hp]⟩
theorem k67 {s:aM} {v:SV} (hs:SD s v) (st:St) (d:Option Nat):aO (aB Tryz.prog) 67 [.agg (aA s)] st d=some { dst:=d,val:=.agg (fM (Lt v.ns))}:=bG (cV hs.flat) (c67 hs) (.agg _ (Ga _))
noncomputable def tL (s:aM) (c:dQ):dQ:=if s.aL.gI.aG<c.aG then c else s.aL.gI
noncomputable def rD (s:aM) (c:dQ):dQ:=if s.aL.fin.aG<c.aG then c else s.aL.fin
def jX (s:aM) (v:SV) (J F:dQ):Prop :=
 aN v.ns J.root<0∨aN v.ns F.root<0∨(nd v.ns (aN v.ns J.root)).status=2∨(nd v.ns (aN v.ns F.root)).status=2∨¬IZ s v.ns (aN v.ns J.root) J.aG∨¬IZ s v.ns (aN v.ns F.root) F.aG ∨
 tW v.ns (aN v.ns F.root) (aN v.ns J.root)=false∨J.aG<F.aG∨yD s s.now<J.aG∨DV (ol v.T) J<0
noncomputable def Nj (s:aM) (v:SV) (c1 c2:dQ):AV:=if jX s v (tL s c1) (rD s c2) then .eG [.agg (bB gP),.agg (bB gP),.v (.bool false)] else .eG [.agg (bB (tL s c1)),.agg (bB (rD s c2)),.v (.bool true)]
end Go.Ab.Tryz
