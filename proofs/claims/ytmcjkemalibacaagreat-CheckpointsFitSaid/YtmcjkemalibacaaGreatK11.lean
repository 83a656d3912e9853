/-
  Part 11 of the proof: an evaluator of programs, its soundness, and what functions of this program compute.
-/
import Derived.Test.YtmcjkemalibacaaGreatK10
import Derived.Test.YtmcjkemalibacaaGreatK7
import Derived.Test.YtmcjkemalibacaaGreatK9
set_option linter.all false
set_option maxRecDepth 20000
set_option maxHeartbeats 40000000
namespace Go.Ab.Tryz
open Classical Go.Proofs Go.Ab
theorem c64 (ns:List Node) (hu:gL ns) (hn:(ns.length:Int)<1000000) (i:Int):aB Tryz.prog 64 [.agg (cJ ⟨ns⟩),.v (.int .i64 i)]=some (if Gn ns i ns.length=[] then .v (.slice none 0 0) else .uniq 3 1 (Gn ns i ns.length).length (aK (Gn ns i ns.length))):=by
 rw[cL Tryz.func64 rfl aQi rfl];have h41:=Ns ns hu hn
 simp only[ZZ,seval];refine jV (fun n st=>∃k:Nat,st.env 1=.v (.int .i64 i)∧st.env 2=.ptr 2 0 0∧st.heap 2 0=some (.cells (cJ ⟨ns⟩))∧st.env 6=.v (.int .i64 k) ∧
  ((Gn ns i k=[]∧st.env 5=.v (.slice none 0 0))∨(Gn ns i k≠[]∧∃g,st.env 5=.own 21 g∧g<st.aT 21∧st.heap 21 g=some (.row 3 1 (Gn ns i k).length (aK (Gn ns i k)))))∧k≤ns.length∧n=ns.length-k)
  (fun e st=>e=.exit 0∧((Gn ns i ns.length=[]∧st.env 5=.v (.slice none 0 0))∨(Gn ns i ns.length≠[]∧∃g,st.env 5=.own 21 g∧g<st.aT 21∧st.heap 21 g=some (.row 3 1 (Gn ns i ns.length).length (aK (Gn ns i ns.length)))))) ns.length ?step ?start ?rest
 case step =>
  rintro n st ⟨k,h1,h2,vA,h6,h5,hk,Gk⟩
  have hdl:=Vx ns i k
  have hdl':((Gn ns i k).length:Int)<1000000:=by omega
  by_cases aY:(k:Int)<ns.length
  ·have hw:IntKind.i64.wrap ((k:Int)+1)=((k+1:Nat):Int):=by rw[Gl _ (by omega) (by omega)];omega
   cases ha:tV ns i k
   ·have hs:Gn ns i (k+1)=Gn ns i k:=by simp only[Gn,ha,Bool.false_eq_true,if_false]
    rcases h5 with ⟨hy,h5⟩|⟨hy,g,h5,hg,As⟩
    ·apply oN (ns.length-(k+1))
     ·simp only[ZZ,seval,h1,h2,vA,h6,h5,aY,hw,h41,ha];rfl
     ·exact⟨k+1,by simp only[EV,seval,h1],by simp only[EV,seval,h2],by simp only[EV,seval,vA],(by simp only[EV,seval]),.inl ⟨by rw[hs];exact hy,by simp only[EV,seval,h5]⟩,by omega,rfl⟩
    ·apply oN (ns.length-(k+1))
     ·simp only[ZZ,seval,h1,h2,vA,h6,h5,As,aY,hw,h41,ha];rfl
     ·exact⟨k+1,by simp only[EV,seval,h1],by simp only[EV,seval,h2],by simp only[EV,seval,vA],(by simp only[EV,seval]),.inr ⟨by rw[hs];exact hy,g,by simp only[EV,seval,h5],(by simp only[EV,seval]<;>omega),(by rw[hs];simp only[EV,seval,As])⟩,by omega,rfl⟩
   ·have hs:Gn ns i (k+1)=Gn ns i k++[(k:Int)]:=by simp only[Gn,ha,if_true]
    rcases h5 with ⟨hy,h5⟩|⟨hy,g,h5,hg,As⟩
    ·rw[hy] at hs;apply oN (ns.length-(k+1))
     ·simp only[ZZ,seval,h1,h2,vA,h6,h5,aY,hw,h41,ha];rfl
     ·exact⟨k+1,by simp only[EV,seval,h1],by simp only[EV,seval,h2],by simp only[EV,seval,vA],(by simp only[EV,seval]),.inr ⟨by rw[hs];simp,_,by simp only[EV,seval]<;>rfl,(by simp only[EV,seval]<;>omega),(by rw[hs];simp only[EV,seval]<;>rfl)⟩,by omega,rfl⟩
    ·apply oN (ns.length-(k+1))
     ·simp only[ZZ,seval,h1,h2,vA,h6,h5,As,hdl',aY,hw,h41,ha];rfl
     ·exact⟨k+1,by simp only[EV,seval,h1],by simp only[EV,seval,h2],by simp only[EV,seval,vA],(by simp only[EV,seval]),.inr ⟨by rw[hs];simp,_,by simp only[EV,seval]<;>rfl,(by simp only[EV,seval]<;>omega),(by rw[hs];simp only[EV,seval]<;>rfl)⟩,by omega,rfl⟩
  ·obtain rfl:k=ns.length:=by omega
   apply oT (.exit 0)
   ·simp only[ZZ,seval,h2,vA,h6,aY];rfl
   ·exact⟨rfl,by simpa only[EV,seval] using h5⟩
 case start=>exact⟨0,(by simp only[EV,seval]),(by simp only[EV,seval]),(by simp only[EV,seval]),(by simp only[EV,seval]),.inl ⟨rfl,(by simp only[EV,seval])⟩,by omega,rfl⟩
 case rest =>
  rintro e st ⟨rfl,⟨hy,h5⟩|⟨hy,g,h5,hg,As⟩⟩
  ·rw[if_pos hy];simp only[ZZ,seval,h5];exact bQ rfl (by simp only[EV,seval]) (.v _)
  ·rw[if_neg hy];simp only[ZZ,seval,h5,As];exact tU rfl (by simp only[EV,seval];rfl) (by simp only[EV,seval,As]) (gI _)
theorem k64 (ns:List Node) (hu:gL ns) (hn:(ns.length:Int)<1000000) (i:Int) (h:Gn ns i ns.length≠[]) (st:St) (d:Nat):aM (aB Tryz.prog) 64 [.agg (cJ ⟨ns⟩),.v (.int .i64 i)] st (some d)=some { dst:=some d,val:=.own d (st.aT d),new:=some (d,[.row 3 1 (Gn ns i ns.length).length (aK (Gn ns i ns.length))])}:=by
 have hc:=c64 ns hu hn i
 rw[if_neg h] at hc;exact jF (bE (lX _) (.v _)) hc
end Go.Ab.Tryz
namespace Go.Ab.Tryz
open Classical Go.Proofs Go.Ab
end Go.Ab.Tryz
namespace Go.Ab.Tryz
open Classical Go.Proofs Go.Ab
theorem aCG (args:List AV) (st:St) (d:Option Nat):aM (aB Tryz.prog) 247 args st d=uD (aB Tryz.prog) 247 (cP (args.map (fO st))) (decide (∀x∈args,Flat x)) st d:=jU _ _ _ _ _
theorem E2:Flat (.agg [.v (.slice none 0 0)]):=.agg _ (cU (.v _))
theorem vP (e:Int):Flat (CH e):=.eG _ (bE E2 (.v _))
def stA (o:Option (List Node)):AV :=
 match o with
 | none=>CH 21
 | some r=>.eG [.agg (cJ ⟨r⟩),.v (.int .i64 0)]
theorem MN (o:Option (List Node)):Flat (stA o):=by
 cases o with
 | none=>exact vP _
 | some r=>exact .eG _ (bE (lX _) (.v _))
noncomputable def raO (ns:List Node) (i:Int):Option (List Node):=FC 1 2 (path ns i) ns
noncomputable def coO (ns:List Node) (i:Int):Option (List Node):=FC 2 1 (Gn ns i ns.length) ns
noncomputable def O4 (ns:List Node) (i:Int):AV:=if 0≤i∧i<ns.length then stA (raO ns i) else CH 10
noncomputable def O5 (ns:List Node) (i:Int):AV:=if 0≤i∧i<ns.length then stA (coO ns i) else CH 10
theorem Vz {ns:List Node} (hu:gL ns) {i:Int}:∀x∈path ns i,0≤x∧x<ns.length:=fun x hx=>vM hu hx
theorem ZV (ns:List Node) (i:Int):∀x∈Gn ns i ns.length,0≤x∧x<ns.length:=fun x hx=>((ZN ns i x _).1 hx).1
theorem aQl (ns:List Node) (hu:gL ns) (hn:(ns.length:Int)<1000000) (i:Int):aB Tryz.prog 236 [.agg (cJ ⟨ns⟩),.v (.int .i64 i)]=some (O4 ns i):=by
 rw[cL Tryz.func236 rfl aKZ rfl];unfold O4;by_cases hm:0≤i∧i<ns.length
 ·rw[if_pos hm];have hd:(decide (0≤i) && decide (i<ns.length))=true:=by simp[hm.1,hm.2]
  have h45:=k76 ns hu hn i hm.1 hm.2
  have hpl:=Bf hu i
  have hc:=aKX ns (by omega) hn (path ns i) (by omega) (Vz hu) 1 2
  unfold raO;cases ho:FC 1 2 (path ns i) ns with
  | none =>
    rw[ho] at hc;have hK:=fun (fl:Bool) (st:St) (d:Option Nat)=>aKS (fl:=fl) (st:=st) (d:=d) hc
    simp only[ZZ,seval,TF,hd,h45,aCG,hK,dE];exact dN rfl (by simp only[bY,ZZ,seval];rfl) (by simp only[bY,EV,seval]<;>rfl) (by simp only[EV,seval]<;>rfl) (by simp only[EV,seval]<;>rfl)
  | some r =>
    rw[ho] at hc;have hK:=fun (fl:Bool) (st:St) (d:Nat)=>aKR (fl:=fl) (st:=st) (d:=d) hc (Xm r)
    simp only[ZZ,seval,TF,hd,h45,aCG,hK,dE];exact dN rfl (by simp only[bY,ZZ,seval];rfl) (by simp only[bY,EV,seval]<;>rfl) (by simp only[EV,seval]<;>rfl) (by simp only[EV,seval]<;>rfl)
 ·rw[if_neg hm];have hd:(decide (0≤i) && decide (i<ns.length))=false:=by rw[← Bool.not_eq_true];simpa using hm
  simp only[ZZ,seval,TF,hd];exact dN rfl (by simp only[bY,ZZ,seval];rfl) (by simp only[bY,EV,seval]<;>rfl) (by simp only[EV,seval]<;>rfl) (by simp only[EV,seval]<;>rfl)
theorem aQm (ns:List Node) (hu:gL ns) (hn:(ns.length:Int)<1000000) (i:Int):aB Tryz.prog 238 [.agg (cJ ⟨ns⟩),.v (.int .i64 i)]=some (O5 ns i):=by
 rw[cL Tryz.func238 rfl aK0 rfl];unfold O5;by_cases hm:0≤i∧i<ns.length
 ·rw[if_pos hm];have hd:(decide (0≤i) && decide (i<ns.length))=true:=by simp[hm.1,hm.2]
  have h36:=k64 ns hu hn i (UF hu hm.1 hm.2 _ hm.2)
  have hdl:=Vx ns i ns.length
  have hc:=aKX ns (by omega) hn (Gn ns i ns.length) (by omega) (ZV ns i) 2 1
  unfold coO;cases ho:FC 2 1 (Gn ns i ns.length) ns with
  | none =>
    rw[ho] at hc;have hK:=fun (fl:Bool) (st:St) (d:Option Nat)=>aKS (fl:=fl) (st:=st) (d:=d) hc
    simp only[ZZ,seval,TF,hd,h36,aCG,hK,dE];exact dN rfl (by simp only[bY,ZZ,seval];rfl) (by simp only[bY,EV,seval]<;>rfl) (by simp only[EV,seval]<;>rfl) (by simp only[EV,seval]<;>rfl)
  | some r =>
    rw[ho] at hc;have hK:=fun (fl:Bool) (st:St) (d:Nat)=>aKR (fl:=fl) (st:=st) (d:=d) hc (Xm r)
    simp only[ZZ,seval,TF,hd,h36,aCG,hK,dE];exact dN rfl (by simp only[bY,ZZ,seval];rfl) (by simp only[bY,EV,seval]<;>rfl) (by simp only[EV,seval]<;>rfl) (by simp only[EV,seval]<;>rfl)
 ·rw[if_neg hm];have hd:(decide (0≤i) && decide (i<ns.length))=false:=by rw[← Bool.not_eq_true];simpa using hm
  simp only[ZZ,seval,TF,hd];exact dN rfl (by simp only[bY,ZZ,seval];rfl) (by simp only[bY,EV,seval]<;>rfl) (by simp only[EV,seval]<;>rfl) (by simp only[EV,seval]<;>rfl)
theorem MO (ns:List Node) (i:Int):Flat (O4 ns i):=by unfold O4;split;exact MN _;exact vP _
theorem Xp (ns:List Node) (i:Int):Flat (O5 ns i):=by unfold O5;split;exact MN _;exact vP _
theorem aK1 (ns:List Node) (hu:gL ns) (hn:(ns.length:Int)<1000000) (i:Int) (st:St) (d:Option Nat):aM (aB Tryz.prog) 236 [.agg (cJ ⟨ns⟩),.v (.int .i64 i)] st d=some { dst:=d,val:=O4 ns i }:=bC (bE (lX _) (.v _)) (aQl ns hu hn i) (MO ns i)
theorem aK2 (ns:List Node) (hu:gL ns) (hn:(ns.length:Int)<1000000) (i:Int) (st:St) (d:Option Nat):aM (aB Tryz.prog) 238 [.agg (cJ ⟨ns⟩),.v (.int .i64 i)] st d=some { dst:=d,val:=O5 ns i }:=bC (bE (lX _) (.v _)) (aQm ns hu hn i) (Xp ns i)
end Go.Ab.Tryz
namespace Go.Ab.Tryz
open Classical Go.Proofs Go.Ab
end Go.Ab.Tryz
namespace Go.Ab.Tryz
open Classical Go.Proofs Go.Ab
theorem E3 (ns:List Node) (hn:(ns.length:Int)<1000000) (i:Int):(∃e,O4 ns i=.eG [.agg [.v (.slice none 0 0)],.v (.int .i64 e)])∨∃r:List Node,O4 ns i=.eG [.agg (cJ ⟨r⟩),.v (.int .i64 0)]∧(r.length:Int)<1000000:=by
 unfold O4;split
 ·cases h:raO ns i with
  | none=>exact .inl ⟨21,rfl⟩
  | some r=>exact .inr ⟨r,rfl,by rw[HE _ _ _ h];exact hn⟩
 ·exact .inl ⟨10,rfl⟩
theorem FD (ns:List Node) (hn:(ns.length:Int)<1000000) (i:Int):(∃e,O5 ns i=.eG [.agg [.v (.slice none 0 0)],.v (.int .i64 e)])∨∃r:List Node,O5 ns i=.eG [.agg (cJ ⟨r⟩),.v (.int .i64 0)]∧(r.length:Int)<1000000:=by
 unfold O5;split
 ·cases h:coO ns i with
  | none=>exact .inl ⟨21,rfl⟩
  | some r=>exact .inr ⟨r,rfl,by rw[HE _ _ _ h];exact hn⟩
 ·exact .inl ⟨10,rfl⟩
def pay (ns:List Node) (x:Int):cN:=(nd ns x).block.jK
noncomputable def zL (ns:List Node) (p:List Int):Nat→Option Nat
 | 0=>none
 | n+1=>if pay ns (it p ((p.length-(n+1):Nat):Int))=dV then zL ns p n else some (p.length-(n+1))
noncomputable def Hj (ns:List Node) (p:List Int) (h:cN):Nat→Option Nat
 | 0=>none
 | n+1=>if pay ns (it p (n:Int))=h then some n else Hj ns p h n
noncomputable def pG (ns:List Node) (i:Int) (h:cN):Int × Int :=
 if path ns i=[] then (-1,-1)
 else if h=dV then
  match zL ns (path ns i) (path ns i).length with
  | none=>(-1,i)
  | some k=>(if k=0 then -1 else it (path ns i) ((k:Int)-1),it (path ns i) k)
 else
  match Hj ns (path ns i) h ((path ns i).length-1) with
  | none=>(-1,i)
  | some k=>(it (path ns i) k,it (path ns i) ((k:Int)+1))
noncomputable def reA (ns:List Node) (i:Int) (h:cN):AV:=.eG [.v (.int .i64 (pG ns i h).1),.v (.int .i64 (pG ns i h).2)]
theorem FE {ns:List Node} {p:List Int}:∀(n k:Nat),n≤p.length→zL ns p n=some k→k<p.length
 | 0,k,_,h=>by simp[zL] at h
 | n+1,k,hn,h=>by
   simp only[zL] at h;split at h
   ·exact FE n k (by omega) h
   ·simp at h;omega
theorem MP {ns:List Node} {p:List Int} {h:cN}:∀(n k:Nat),Hj ns p h n=some k→k<n
 | 0,k,hk=>by simp[Hj] at hk
 | n+1,k,hk=>by
   simp only[Hj] at hk;split at hk
   ·simp at hk;omega
   ·have:=MP n k hk;omega
theorem UL {ns:List Node} {i:Int} {h:cN} (hp:path ns i=[]):pG ns i h=(-1,-1):=if_pos hp
theorem aGz {ns:List Node} {i j:Int} (i0:0≤i) (i1:i<ns.length) (j0:0≤j) (y:Node):nd (ns.set i.toNat y) j=if j=i then y else nd ns j:=by
 unfold nd;rw[List.getD_eq_getElem?_getD,List.getD_eq_getElem?_getD];by_cases h:j=i
 ·subst h;have:j.toNat<ns.length:=by omega
  simp[this]
 ·rw[if_neg h,List.getElem?_set_ne (by omega)]
theorem MQ {to never:Int} (gP:to≠never):∀(l:List Int) (ns r:List Node),(∀x∈l,0≤x∧x<ns.length)→FC to never l ns=some r →
 (∀x∈l,(nd ns x).status≠never)∧r.length=ns.length∧∀j:Int,0≤j→j<ns.length→nd r j=if j∈l then Xo (nd ns j) to else nd ns j
 | [],ns,r,_,h=>by
   simp only[FC,Option.some.injEq] at h;subst h;exact⟨by simp,rfl,by simp⟩
 | i :: l,ns,r,hl,h=>by
   simp only[FC] at h;split at h
   ·cases h
   ·rename_i hs;obtain⟨i0,i1⟩:=hl i (by simp)
    obtain⟨h1,h2,h3⟩:=MQ gP l (setAt ns i to) r (fun x hx=>by rw[Dd];exact hl x (by simp[hx])) h
    rw[Dd] at h2 h3;have hnd:∀j:Int,0≤j→nd (setAt ns i to) j=if j=i then Xo (nd ns i) to else nd ns j:=fun j j0=>aGz i0 i1 j0 _
    refine⟨fun x hx=>?_,h2,fun j j0 j1=>?_⟩
    ·rcases List.mem_cons.1 hx with rfl|hx
     ·exact hs
     ·by_cases hxi:x=i
      ·subst hxi;exact hs
      ·have:=h1 x hx
       rw[hnd x (hl x (by simp[hx])).1,if_neg hxi] at this
       exact this
    ·rw[h3 j j0 j1,hnd j j0];by_cases hji:j=i
     ·subst hji;simp only[if_true,List.mem_cons,true_or];split<;>rfl
     ·simp[hji]
structure UM (a b:List Node):Prop where
 len:a.length=b.length
 up:∀j:Int,0≤j→j<a.length→(nd a j).up=(nd b j).up
theorem UM.aQo {a b:List Node} (h:UM a b) (hu:gL a):gL b:=fun i i0 i1=>by rw[← h.up i (by omega) (by rw[h.len];exact i1)];exact hu i i0 (by rw[h.len];exact i1)
structure Chd (ns r:List Node) (l:List Int) (to:Int):Prop where
 len:r.length=ns.length
 at_:∀j:Int,0≤j→j<ns.length→nd r j=if j∈l then Xo (nd ns j) to else nd ns j
theorem Chd.su {ns r:List Node} {l:List Int} {to:Int} (h:Chd ns r l to):UM ns r where
 len:=h.len.symm
 up:=fun j j0 j1=>by rw[h.at_ j j0 j1];split<;>rfl
theorem Chd.block {ns r:List Node} {l:List Int} {to:Int} (h:Chd ns r l to) {j:Int} (j0:0≤j) (j1:j<ns.length):(nd r j).block=(nd ns j).block:=by
 rw[h.at_ j j0 j1];split<;>rfl
theorem Chd.upE {ns r:List Node} {l:List Int} {to:Int} (h:Chd ns r l to) {j:Int} (j0:0≤j) (j1:j<ns.length):(nd r j).up=(nd ns j).up:=by
 rw[h.at_ j j0 j1];split<;>rfl
theorem Chd.st {ns r:List Node} {l:List Int} {to:Int} (h:Chd ns r l to) {j:Int} (j0:0≤j) (j1:j<ns.length):(nd r j).status=if j∈l then to else (nd ns j).status:=by
 rw[h.at_ j j0 j1];split<;>rfl
structure aGA (ns r:List Node) (i:Int):Prop where
 c:Chd ns r (path ns i) 1
 ok:∀x∈path ns i,(nd ns x).status≠2
theorem E4 {ns r:List Node} (hu:gL ns) {i:Int} (h:raO ns i=some r):aGA ns r i:=by
 obtain⟨h1,h2,h3⟩:=MQ (by decide) _ _ _ (Vz hu) h
 exact⟨⟨h2,h3⟩,h1⟩
structure aJP (ns r:List Node) (i:Int):Prop where
 c:Chd ns r (Gn ns i ns.length) 2
 ok:∀x∈Gn ns i ns.length,(nd ns x).status≠1
theorem FF {ns:List Node} (hu:gL ns):∀(n:Nat) (c:Int),c.toNat=n→0≤c→c<ns.length→∀k:Int,1≤k→k<(path ns c).length→(nd ns (it (path ns c) k)).up=it (path ns c) (k-1):=by
 intro n;induction n using Nat.strongRecOn with
 | _ n ih =>
   intro c hc c0 c1 k k0 k1;by_cases h:c=0
   ·subst h;rw[oJ (by omega)] at k1
    simp at k1
    omega
   ·obtain⟨u0,u1⟩:=hu c (by omega) c1
    rw[mX hu (by omega) c1] at k1 ⊢
    simp at k1
    by_cases hk:k=(path ns (nd ns c).up).length
    ·rw[vN hk,kN (by omega) (by omega),hk,E1 hu u0 (by omega)]
    ·rw[kN (by omega) (by omega),kN (by omega) (by omega)]
     exact ih (nd ns c).up.toNat (by omega) _ rfl u0 (by omega) k k0 (by omega)
theorem R6 {ns:List Node} (hu:gL ns):∀(n:Nat) (c:Int),c.toNat=n→0≤c→c<ns.length→it (path ns c) 0=0:=by
 intro n;induction n using Nat.strongRecOn with
 | _ n ih =>
   intro c hc c0 c1;by_cases h:c=0
   ·subst h;rw[oJ (by omega)];rfl
   ·obtain⟨u0,u1⟩:=hu c (by omega) c1
    have:=HF hu u0 (by omega)
    rw[mX hu (by omega) c1,kN (Int.le_refl _) (by omega)]
    exact ih _ (by omega) _ rfl u0 (by omega)
theorem aQq (ns:List Node) (hu:gL ns) (hr:(nd ns 0).up=-1) (hn:(ns.length:Int)<1000000) (i:Int) (h:cN):aB Tryz.prog 237 [.agg (cJ ⟨ns⟩),.v (.int .i64 i),.agg (bF h)]=some (reA ns i h):=by
 rw[cL Tryz.func237 rfl aK3 rfl];unfold reA;by_cases hm:0≤i∧i<ns.length
 ·have h45:=k76 ns hu hn i hm.1 hm.2
  have hpl:=Bf hu i
  have hp0:=HF hu hm.1 hm.2
  have hin:=Vz hu (i:=i)
  have hpe:path ns i≠[]:=by intro h;rw[h] at hp0;simp at hp0
  have hq:(((path ns i).length:Int) == 0)=false:=by simp[hpe]
  have Lm:=fun k h h'=>FF hu _ i rfl hm.1 hm.2 k h h'
  have hi0:=R6 hu _ i rfl hm.1 hm.2
  unfold pG;rw[if_neg hpe];generalize path ns i=p at h45 hpl hp0 hin hq Lm hi0
  by_cases hz:h=dV
  ·have hd:decide (h=dV)=true:=decide_eq_true hz
   rw[if_pos hz];simp only[ZZ,seval,h45,hq,hd];refine jV (fun n st=>∃k:Nat,(st.env 1=.v (.int .i64 i)∧st.env 3=.ptr 3 0 0∧st.heap 3 0=some (.cells (cJ ⟨ns⟩))∧st.env 8=.own 13 0∧st.heap 13 0=some (.row 3 1 p.length (aK p))∧st.env 9=.v (.int .i64 k))∧zL ns p p.length=zL ns p (p.length-k)∧k≤p.length∧n=p.length-k)
    (fun e st=>(e=.ret∧∃k,zL ns p p.length=some k∧st.env 6=.v (.int .i64 (if k=0 then -1 else it p ((k:Int)-1)))∧st.env 7=.v (.int .i64 (it p k)))∨(e=.exit 0∧zL ns p p.length=none∧st.env 1=.v (.int .i64 i))) p.length ?step ?start ?rest
   case step =>
    rintro n st ⟨k,hI,hf,hk,Gk⟩
    by_cases aY:(k:Int)<p.length
    ·have q0:(0:Int)≤k:=by omega
     have hw:IntKind.i64.wrap ((k:Int)+1)=((k+1:Nat):Int):=by rw[Gl _ (by omega) (by omega)];omega
     obtain⟨x0,x1⟩:=hin _ (Er q0 aY)
     obtain⟨m,hm'⟩:∃m,p.length-k=m+1:=⟨p.length-k-1,by omega⟩
     rw[hm'] at hf;simp only[zL] at hf;rw[show p.length-(m+1)=k by omega] at hf
     by_cases hpz:pay ns (it p k)=dV
     ·rw[if_pos hpz] at hf;have hd2:decide ((nd ns (it p k)).block.jK=dV)=true:=decide_eq_true hpz
      apply oN (p.length-(k+1))
      ·simp only[ZZ,seval,hI,aY,q0,x0,x1,hd2,hw];rfl
      ·exact⟨k+1,by simp only[EV,seval,hI],by rw[hf,show p.length-(k+1)=m by omega],by omega,rfl⟩
     ·rw[if_neg hpz] at hf;have hd2:decide ((nd ns (it p k)).block.jK=dV)=false:=decide_eq_false hpz
      have hupk:(nd ns (it p k)).up=if k=0 then -1 else it p ((k:Int)-1):=by
       by_cases qC:k=0
       ·rw[if_pos qC,show ((k:Int))=0 by omega,hi0,hr]
       ·rw[if_neg qC,Lm k (by omega) aY]
      apply oT (.ret)
      ·simp only[ZZ,seval,hI,aY,q0,x0,x1,hd2];rfl
      ·exact .inl ⟨rfl,k,hf,by rw[← hupk];simp only[EV,seval],by simp only[EV,seval]⟩
    ·obtain rfl:k=p.length:=by omega
     rw[Nat.sub_self] at hf;apply oT (.exit 0)
     ·simp only[ZZ,seval,hI,aY];rfl
     ·exact .inr ⟨rfl,hf,by simp only[EV,seval,hI]⟩
   case start=>exact⟨0,by simp only[EV,seval]<;>rfl,rfl,by omega,rfl⟩
   case rest =>
    rintro e st (⟨rfl,k,hf,h6,h7⟩|⟨rfl,hf,h1⟩)
    ·rw[hf];simp only[ZZ,seval];exact dN rfl (by simp only[bY,EV,seval,h6]<;>rfl) (by simp only[bY,EV,seval,h7]<;>rfl) (by simp only[EV,seval]<;>rfl) (by simp only[EV,seval]<;>rfl)
    ·rw[hf];simp only[ZZ,seval,h1];exact dN rfl (by simp only[bY,EV,seval]<;>rfl) (by simp only[bY,EV,seval]<;>rfl) (by simp only[EV,seval]<;>rfl) (by simp only[EV,seval]<;>rfl)
  ·have hd:decide (h=dV)=false:=decide_eq_false hz
   have hw0:IntKind.i64.wrap ((p.length:Int)-2)=(p.length:Int)-2:=Gl _ (by omega) (by omega)
   rw[if_neg hz];simp only[ZZ,seval,h45,hq,hd,hw0];refine jV (fun n st=>∃m:Nat,(st.env 1=.v (.int .i64 i)∧st.env 3=.ptr 3 0 0∧st.heap 3 0=some (.cells (cJ ⟨ns⟩))∧st.env 5=.ptr 5 0 0∧st.heap 5 0=some (.cells (bF h))∧st.env 8=.own 13 0∧st.heap 13 0=some (.row 3 1 p.length (aK p))∧st.env 10=.v (.int .i64 ((m:Int)-1)))∧Hj ns p h (p.length-1)=Hj ns p h m∧m≤p.length-1∧n=m)
    (fun e st=>(e=.ret∧∃k,Hj ns p h (p.length-1)=some k∧st.env 6=.v (.int .i64 (it p k))∧st.env 7=.v (.int .i64 (it p ((k:Int)+1))))∨(e=.exit 2∧Hj ns p h (p.length-1)=none∧st.env 1=.v (.int .i64 i))) (p.length-1) ?step ?start ?rest
   case step =>
    rintro n st ⟨m,hI,hf,hm',Gk⟩
    by_cases aY:(0:Int)≤(m:Int)-1
    ·obtain⟨k,rfl⟩:∃k,m=k+1:=⟨m-1,by omega⟩
     have e1:((k+1:Nat):Int)-1=k:=by omega
     rw[e1] at hI aY;have k1:(k:Int)<p.length:=by omega
     have hw:IntKind.i64.wrap ((k:Int)-1)=(k:Int)-1:=Gl _ (by omega) (by omega)
     obtain⟨x0,x1⟩:=hin _ (Er aY k1)
     simp only[Hj] at hf;by_cases hpz:pay ns (it p k)=h
     ·rw[if_pos hpz] at hf;have hd2:decide ((nd ns (it p k)).block.jK=h)=true:=decide_eq_true hpz
      have ZW:IntKind.i64.wrap ((k:Int)+1)=(k:Int)+1:=Gl _ (by omega) (by omega)
      have r0:(0:Int)≤(k:Int)+1:=by omega
      have r1:(k:Int)+1<p.length:=by omega
      apply oT (.ret)
      ·simp only[ZZ,seval,hI,aY,k1,x0,x1,hd2,ZW,r0,r1];rfl
      ·exact .inl ⟨rfl,k,hf,by simp only[EV,seval],by simp only[EV,seval]⟩
     ·rw[if_neg hpz] at hf;have hd2:decide ((nd ns (it p k)).block.jK=h)=false:=decide_eq_false hpz
      apply oN (k)
      ·simp only[ZZ,seval,hI,aY,k1,x0,x1,hd2,hw];rfl
      ·exact⟨k,by simp only[EV,seval,hI],hf,by omega,rfl⟩
    ·obtain rfl:m=0:=by omega
     apply oT (.exit 2)
     ·simp only[ZZ,seval,hI,aY];rfl
     ·exact .inr ⟨rfl,hf,by simp only[EV,seval,hI]⟩
   case start =>
    have hs:(p.length:Int)-2=((p.length-1:Nat):Int)-1:=by omega
    exact⟨p.length-1,by simp only[EV,seval,hs],rfl,by omega,rfl⟩
   case rest =>
    rintro e st (⟨rfl,k,hf,h6,h7⟩|⟨rfl,hf,h1⟩)
    ·rw[hf];simp only[ZZ,seval];exact dN rfl (by simp only[bY,EV,seval,h6]<;>rfl) (by simp only[bY,EV,seval,h7]<;>rfl) (by simp only[EV,seval]<;>rfl) (by simp only[EV,seval]<;>rfl)
    ·rw[hf];simp only[ZZ,seval,h1];exact dN rfl (by simp only[bY,EV,seval]<;>rfl) (by simp only[bY,EV,seval]<;>rfl) (by simp only[EV,seval]<;>rfl) (by simp only[EV,seval]<;>rfl)
 ·rw[UL (yR hm)];have h45:=C5 ns i hm
  simp only[ZZ,seval,h45];exact dN rfl (by simp only[bY,EV,seval]<;>rfl) (by simp only[bY,EV,seval]<;>rfl) (by simp only[EV,seval]<;>rfl) (by simp only[EV,seval]<;>rfl)
theorem R7 (ns:List Node) (i:Int) (h:cN):Flat (reA ns i h):=.eG _ (bE (.v _) (.v _))
theorem aQr (ns:List Node) (hu:gL ns) (hr:(nd ns 0).up=-1) (hn:(ns.length:Int)<1000000) (i:Int) (h:cN) (st:St) (d:Option Nat):aM (aB Tryz.prog) 237 [.agg (cJ ⟨ns⟩),.v (.int .i64 i),.agg (bF h)] st d=some { dst:=d,val:=.eG [.v (.int .i64 (pG ns i h).1),.v (.int .i64 (pG ns i h).2)]}:=bC (lM (lX _) (.v _) (qU _)) (aQq ns hu hr hn i h) (R7 ns i h)
theorem UN {ns:List Node} (hu:gL ns) (hr:(nd ns 0).up=-1) {i:Int} (i0:0≤i) (i1:i<ns.length) (h:cN):(pG ns i h).2∈path ns i∧((pG ns i h).1<0∨((pG ns i h).1∈path ns i∧(nd ns (pG ns i h).2).up=(pG ns i h).1)):=by
 have hp0:=HF hu i0 i1
 have hpe:path ns i≠[]:=by intro h;rw[h] at hp0;simp at hp0
 have Tp:=vL hu i0 i1
 have Lm:=fun k h h'=>FF hu _ i rfl i0 i1 k h h'
 unfold pG;rw[if_neg hpe];by_cases hz:h=dV
 ·rw[if_pos hz];cases hf:zL ns (path ns i) (path ns i).length with
  | none=>exact⟨Tp,.inl (by simp)⟩
  | some k =>
    have hk:=FE _ _ (Nat.le_refl _) hf
    simp only
    refine⟨Er (by omega) (by omega), ?_⟩
    by_cases qC:k=0
    ·rw[if_pos qC];exact .inl (by omega)
    ·rw[if_neg qC];exact .inr ⟨Er (by omega) (by omega),Lm k (by omega) (by omega)⟩
 ·rw[if_neg hz];cases hf:Hj ns (path ns i) h ((path ns i).length-1) with
  | none=>exact⟨Tp,.inl (by simp)⟩
  | some k =>
    have hk:=MP _ _ hf
    simp only
    refine⟨Er (by omega) (by omega),.inr ⟨Er (by omega) (by omega), ?_⟩⟩
    have:=Lm ((k:Int)+1) (by omega) (by omega)
    rw[this];congr 1
    omega
def Xq (kv:AV) (l:List Int):Prop:=kv=.sl l.length (aK l)∨(l=[]∧kv=.v (.slice none 0 0))
theorem Xq.view {kv:AV} {l:List Int} (h:Xq kv l) (st:St):aX st kv=some (l.length,aK l):=by
 rcases h with rfl|⟨rfl,rfl⟩<;>rfl
theorem Xq.idx {kv:AV} {l:List Int} (h:Xq kv l) (st:St) {k:IntKind} {i:Int} (h0:0≤i) (h1:i<l.length):bH Tryz.prog st 22 kv (.v (.int k i))=some (.ip (qV (it l i)) 0):=by
 rcases h with rfl|⟨rfl,rfl⟩
 ·exact aFl st h0 h1
 ·simp at h1;omega
theorem Xq.flat {kv:AV} {l:List Int} (h:Xq kv l):Flat kv:=by
 rcases h with rfl|⟨rfl,rfl⟩
 ·exact Eo l
 ·exact .v _
def ZX (ns:List Node) (c:Int) (l:List Int):Prop:=∃k∈l,tV ns c k=true
noncomputable def R9 (ns:List Node) (i:Int) (h:cN) (l:List Int):AV :=
 if ZX ns (pG ns i h).2 l then CH 21
 else if 0≤(pG ns i h).1 then
  match raO ns (pG ns i h).1 with
  | none=>CH 21
  | some r=>O5 r (pG ns i h).2
 else O5 ns (pG ns i h).2
noncomputable def UO (ns:List Node) (i:Int) (v:gV) (l:List Int):AV :=
 if ¬(0≤i∧i<ns.length) then CH 10
 else if v.kind=1 then O4 ns i
 else if v.kind=2 then R9 ns i v.eB l
 else if v.kind=3∨v.kind=4 then .eG [.agg (cJ ⟨ns⟩),.v (.int .i64 0)]
 else CH 2
theorem E5 (ns:List Node) (i:Int) (h:cN) (l:List Int):Flat (R9 ns i h l):=by
 unfold R9;split
 ·exact vP _
 ·split
  ·split
   ·exact vP _
   ·exact Xp _ _
  ·exact Xp _ _
theorem E6 (ns:List Node) (i:Int) (v:gV) (l:List Int):Flat (UO ns i v l):=by
 unfold UO;split
 ·exact vP _
 ·split
  ·exact MO _ _
  ·split
   ·exact E5 _ _ _ _
   ·split
    ·exact .eG _ (bE (lX _) (.v _))
    ·exact vP _
theorem aQs (ns:List Node) (hu:gL ns) (hr:(nd ns 0).up=-1) (hn:(ns.length:Int)<1000000) (i:Int) (v:gV) (l:List Int) (hl:(l.length:Int)<1000000) {kv:AV} (hkv:Xq kv l) :
 aB Tryz.prog 222 [.agg (cJ ⟨ns⟩),.v (.int .i64 i),.agg (dL v),kv]=some (UO ns i v l):=by
 rw[cL Tryz.func222 rfl aK4 (by rcases hkv with rfl|⟨rfl,rfl⟩<;>rfl)]
 have h86:=TF ns i
 unfold UO;by_cases hm:0≤i∧i<ns.length
 ·obtain⟨i0,i1⟩:=hm
  have hd:(decide (0≤i) && decide (i<(ns.length:Int)))=true:=by simp[i0,i1]
  rw[hd] at h86;rw[if_neg (by simp[i0,i1])]
  by_cases h1:v.kind=1
  ·rw[if_pos h1];have b1:(v.kind == 1)=true:=by simp[h1]
   have h96:=aK1 ns hu hn i
   rcases E3 ns hn i with ⟨e,he⟩|⟨q,he,_⟩
   all_goals
    rw[he] at h96;rw[he];simp only[ZZ,seval,h86,b1,h96,dE];exact dN rfl (by simp only[bY,ZZ,seval];rfl) (by simp only[bY,EV,seval]<;>rfl) (by simp only[EV,seval]<;>rfl) (by simp only[EV,seval]<;>rfl)
  ·rw[if_neg h1];have b1:(v.kind == 1)=false:=by simp[h1]
   by_cases h2:v.kind=2
   ·rw[if_pos h2];have b2:(v.kind == 2)=true:=by simp[h2]
    have b3:(v.kind == 3)=false:=by simp[h2]
    have b4:(v.kind == 4)=false:=by simp[h2]
    have hRe:=aQr ns hu hr hn i v.eB
    have hfact:=UN hu hr i0 i1 v.eB
    have hv:=hkv.view
    have ZY:=fun st (k:IntKind) (i:Int) h0 h1=>hkv.idx st (k:=k) (i:=i) h0 h1
    have h46:=Ns ns hu hn
    unfold R9;obtain⟨a,ha⟩:∃a,(pG ns i v.eB).1=a:=⟨_,rfl⟩
    obtain⟨c,hc⟩:∃c,(pG ns i v.eB).2=c:=⟨_,rfl⟩
    rw[ha,hc] at hRe hfact;rw[ha,hc];simp only[ZZ,seval,h86,b1,b2,b3,b4,hRe,dE];refine jV (fun n st=>∃k:Nat,(st.env 3=kv∧st.env 4=.ptr 4 0 0∧st.heap 4 0=some (.cells (cJ ⟨ns⟩))∧st.env 8=.ptr 8 0 0∧st.heap 8 0=some (.cells [.v (.slice none 0 0)])∧st.env 10=.v (.int .i64 a)∧st.env 11=.v (.int .i64 c)∧st.env 12=.v (.int .i64 k))∧(∀j:Int,0≤j→j<k→tV ns c (it l j)=false)∧k≤l.length∧n=l.length-k)
     (fun e st=>(e=.ret∧ZX ns c l∧st.env 8=.ptr 8 0 0∧st.heap 8 0=some (.cells [.v (.slice none 0 0)])∧st.env 9=.v (.int .i64 21))∨(e=.exit 1∧¬ZX ns c l∧st.env 4=.ptr 4 0 0∧st.heap 4 0=some (.cells (cJ ⟨ns⟩))∧st.env 8=.ptr 8 0 0∧st.heap 8 0=some (.cells [.v (.slice none 0 0)])∧st.env 10=.v (.int .i64 a)∧st.env 11=.v (.int .i64 c))) l.length ?step ?start ?rest
    case step =>
     rintro n st ⟨k,hI,hj,hk,Gk⟩
     by_cases aY:(k:Int)<l.length
     ·have q0:(0:Int)≤k:=by omega
      have hw:IntKind.i64.wrap ((k:Int)+1)=((k+1:Nat):Int):=by rw[Gl _ (by omega) (by omega)];omega
      cases hA:tV ns c (it l k)
      ·apply oN (l.length-(k+1))
       ·simp only[ZZ,seval,hI,aY,q0,hv,ZY,h46,hA,hw];rfl
       ·exact⟨k+1,by simp only[EV,seval,hI],fun j j0 j1=>by
        by_cases hjk:j<k
        ·exact hj j j0 hjk
        ·rw[show j=(k:Int) by omega];exact hA,by omega,rfl⟩
      ·apply oT (.ret)
       ·simp only[ZZ,seval,hI,aY,q0,hv,ZY,h46,hA];rfl
       ·exact .inl ⟨rfl,⟨_,Er q0 aY,hA⟩,by simp only[EV,seval,hI],by simp only[EV,seval,hI],by simp only[EV,seval,hI]⟩
     ·obtain rfl:k=l.length:=by omega
      have hno:¬ZX ns c l:=by
       rintro⟨x,hx,hxa⟩
       obtain⟨j,O6,rfl⟩:=List.getElem_of_mem hx
       have:=hj j (by omega) (by omega)
       rw[show it l (j:Int)=l[j] by simp[it,O6]] at this
       rw[this] at hxa;cases hxa
      apply oT (.exit 1)
      ·simp only[ZZ,seval,hI,hv,aY];rfl
      ·exact .inr ⟨rfl,hno,by simp only[EV,seval,hI]⟩
    case start=>exact⟨0,by simp only[EV,seval],fun j _ _=>by omega,by omega,by omega⟩
    case rest =>
     rintro e st (⟨rfl,hk,hI⟩|⟨rfl,hk,hI⟩)
     ·rw[if_pos hk];simp only[ZZ,seval];exact dN rfl (by simp only[bY,ZZ,seval,hI];rfl) (by simp only[bY,EV,seval,hI]<;>rfl) (by simp only[EV,seval]<;>rfl) (by simp only[EV,seval]<;>rfl)
     ·rw[if_neg hk];by_cases h0:0≤a
      ·rw[if_pos h0];have nK:a∈path ns i:=by
        rcases hfact.2 with h|h
        ·omega
        ·exact h.1
       obtain⟨_,a1⟩:=Vz hu a nK
       have h96:=aK1 ns hu hn a
       rw[show O4 ns a=stA (raO ns a) from if_pos ⟨h0,a1⟩] at h96;cases ho:raO ns a with
       | none =>
         rw[ho] at h96;simp only[stA,CH] at h96;simp only[ZZ,seval,hI,h0,h96,dE];exact dN rfl (by simp only[bY,ZZ,seval,hI];rfl) (by simp only[bY,EV,seval,hI]<;>rfl) (by simp only[EV,seval]<;>rfl) (by simp only[EV,seval]<;>rfl)
       | some r =>
         rw[ho] at h96;simp only[stA] at h96;have hR:=E4 hu ho
         have hu2:=hR.c.su.aQo hu
         have h97:=aK2 r hu2 (by rw[hR.c.len];exact hn) c
         rcases FD r (by rw[hR.c.len];exact hn) c with ⟨e,he⟩|⟨q,he,_⟩
         all_goals
          rw[he] at h97;simp only[he];simp only[ZZ,seval,hI,h0,h96,h97,dE];exact dN rfl (by simp only[bY,ZZ,seval,hI];rfl) (by simp only[bY,EV,seval,hI]<;>rfl) (by simp only[EV,seval]<;>rfl) (by simp only[EV,seval]<;>rfl)
      ·rw[if_neg h0];have h97:=aK2 ns hu hn c
       rcases FD ns hn c with ⟨e,he⟩|⟨q,he,_⟩
       all_goals
        rw[he] at h97;rw[he];simp only[ZZ,seval,hI,h0,h97,dE];exact dN rfl (by simp only[bY,ZZ,seval,hI];rfl) (by simp only[bY,EV,seval,hI]<;>rfl) (by simp only[EV,seval]<;>rfl) (by simp only[EV,seval]<;>rfl)
   ·rw[if_neg h2];have b2:(v.kind == 2)=false:=by simp[h2]
    by_cases h3:v.kind=3
    ·rw[if_pos (.inl h3)];have b3:(v.kind == 3)=true:=by simp[h3]
     simp only[ZZ,seval,h86,b1,b2,b3];exact dN rfl (by simp only[bY,ZZ,seval];rfl) (by simp only[bY,EV,seval]<;>rfl) (by simp only[EV,seval]<;>rfl) (by simp only[EV,seval]<;>rfl)
    ·have b3:(v.kind == 3)=false:=by simp[h3]
     by_cases h4:v.kind=4
     ·rw[if_pos (.inr h4)];have b4:(v.kind == 4)=true:=by simp[h4]
      simp only[ZZ,seval,h86,b1,b2,b3,b4];exact dN rfl (by simp only[bY,ZZ,seval];rfl) (by simp only[bY,EV,seval]<;>rfl) (by simp only[EV,seval]<;>rfl) (by simp only[EV,seval]<;>rfl)
     ·rw[if_neg (by omega)]
      have b4:(v.kind == 4)=false:=by simp[h4]
      simp only[ZZ,seval,h86,b1,b2,b3,b4];exact dN rfl (by simp only[bY,ZZ,seval];rfl) (by simp only[bY,EV,seval]<;>rfl) (by simp only[EV,seval]<;>rfl) (by simp only[EV,seval]<;>rfl)
 ·rw[if_pos hm];have hd:(decide (0≤i) && decide (i<(ns.length:Int)))=false:=by
   by_cases h0:0≤i
   ·have:¬i<ns.length:=fun h=>hm ⟨h0,h⟩
    simp[this]
   ·simp[h0]
  rw[hd] at h86;simp only[ZZ,seval,h86];exact dN rfl (by simp only[bY,ZZ,seval];rfl) (by simp only[bY,EV,seval]<;>rfl) (by simp only[EV,seval]<;>rfl) (by simp only[EV,seval]<;>rfl)
theorem yU (s:Config):Flat (.agg (bW s))↔Flat s.iP:=by
 constructor
 ·intro h;have h:∀x∈bW s,Flat x:=by cases h with|agg _ h=>exact h
  exact h _ (List.mem_of_getElem? (zM s))
 ·intro h0;exact .agg _ (uF s h0)
theorem Oa (s:vE):Flat (.agg (fF s))↔Flat s.eB∧Flat s.gW:=by
 constructor
 ·intro h;have h:∀x∈fF s,Flat x:=by cases h with|agg _ h=>exact h
  exact⟨h _ (List.mem_of_getElem? (vQ s)),h _ (List.mem_of_getElem? (xQ s))⟩
 ·rintro⟨h0,h1⟩
  exact .agg _ (qW s h0 h1)
theorem FG (s:zN):Flat (.agg (jX s))↔Flat s.early∧Flat s.bN:=by
 constructor
 ·intro h;have h:∀x∈jX s,Flat x:=by cases h with|agg _ h=>exact h
  exact⟨h _ (List.mem_of_getElem? (vR s)),h _ (List.mem_of_getElem? (sZ s))⟩
 ·rintro⟨h0,h1⟩
  exact .agg _ (Ob s h0 h1)
theorem MR (s:Gb):Flat (.agg (mV s))↔Flat s.nodes:=by
 constructor
 ·intro h;have h:∀x∈mV s,Flat x:=by cases h with|agg _ h=>exact h
  exact h _ (List.mem_of_getElem? (xR s))
 ·intro h0;exact .agg _ (wS s h0)
theorem wT (s:aL):Flat (.agg (aA s))↔Flat s.cFg.iP∧Flat s.gK.eB∧Flat s.gK.gW∧Flat s.cF.early∧Flat s.cF.bN∧Flat s.tree.nodes∧Flat s.tables:=by
 constructor
 ·intro h;have h:∀x∈aA s,Flat x:=by cases h with|agg _ h=>exact h
  exact⟨h _ (List.mem_of_getElem? (qX s)),h _ (List.mem_of_getElem? (pH s)),h _ (List.mem_of_getElem? (qD s)),h _ (List.mem_of_getElem? (pI s)),h _ (List.mem_of_getElem? (nM s)),h _ (List.mem_of_getElem? (qY s)),h _ (List.mem_of_getElem? (vS s))⟩
 ·rintro⟨h0,h1,h2,h3,h4,h5,h6⟩
  exact .agg _ (Tt s h0 h1 h2 h3 h4 h5 h6)
theorem uG (s:State):Flat (.agg (aQ s))↔Flat s.store.cFg.iP∧Flat s.store.gK.eB∧Flat s.store.gK.gW∧Flat s.store.cF.early∧Flat s.store.cF.bN∧Flat s.store.tree.nodes∧Flat s.store.tables∧Flat s.iY∧Flat s.rO:=by
 constructor
 ·intro h;have h:∀x∈aQ s,Flat x:=by cases h with|agg _ h=>exact h
  exact⟨h _ (List.mem_of_getElem? (qZ s)),h _ (List.mem_of_getElem? (pQ s)),h _ (List.mem_of_getElem? (qM s)),h _ (List.mem_of_getElem? (pR s)),h _ (List.mem_of_getElem? (oL s)),h _ (List.mem_of_getElem? (rA s)),h _ (List.mem_of_getElem? (uH s)),h _ (List.mem_of_getElem? (zO s)),h _ (List.mem_of_getElem? (Bh s))⟩
 ·rintro⟨h0,h1,h2,h3,h4,h5,h6,h7,h8⟩
  exact .agg _ (MS s h0 h1 h2 h3 h4 h5 h6 h7 h8)
theorem zP (s:sG):Flat (.agg (iD s))↔Flat s.eZ:=by
 constructor
 ·intro h;have h:∀x∈iD s,Flat x:=by cases h with|agg _ h=>exact h
  exact h _ (List.mem_of_getElem? (Et s))
 ·intro h0;exact .agg _ (Re s h0)
theorem zQ (s:Claim):Flat (.agg (gU s))↔Flat s.eZ:=by
 constructor
 ·intro h;have h:∀x∈gU s,Flat x:=by cases h with|agg _ h=>exact h
  exact h _ (List.mem_of_getElem? (uI s))
 ·intro h0;exact .agg _ (Hk s h0)
theorem nC (s:fY):Flat (.agg (cD s))↔Flat s.first.eZ∧Flat s.second.eZ:=by
 constructor
 ·intro h;have h:∀x∈cD s,Flat x:=by cases h with|agg _ h=>exact h
  exact⟨h _ (List.mem_of_getElem? (oM s)),h _ (List.mem_of_getElem? (nN s))⟩
 ·rintro⟨h0,h1⟩
  exact .agg _ (Hl s h0 h1)
theorem iG (s:Table):Flat (.agg (cA s))↔Flat s.iP:=by
 constructor
 ·intro h;have h:∀x∈cA s,Flat x:=by cases h with|agg _ h=>exact h
  exact h _ (List.mem_of_getElem? (Cj s))
 ·intro h0;exact .agg _ (Hm s h0)
theorem UP (s:xM):Flat (.agg (lA s))↔Flat s.Gp.eZ∧Flat s.pB.first.eZ∧Flat s.pB.second.eZ∧Flat s.table.iP:=by
 constructor
 ·intro h;have h:∀x∈lA s,Flat x:=by cases h with|agg _ h=>exact h
  exact⟨h _ (List.mem_of_getElem? (De s)),h _ (List.mem_of_getElem? (sJ s)),h _ (List.mem_of_getElem? (rZ s)),h _ (List.mem_of_getElem? (Bi s))⟩
 ·rintro⟨h0,h1,h2,h3⟩
  exact .agg _ (E7 s h0 h1 h2 h3)
theorem aGE (x:Value):Flat (.v x)=True:=eq_true (.v x)
theorem MT (o:Option (List Int)):Flat (ov bK o)=True:=eq_true (dY o)
theorem MU (o:Option (List Int)):Flat (ov aK o)=True:=eq_true (bX o)
theorem FH (o:Option (List kO)):Flat (ov dD o)=True:=eq_true (rC o)
theorem Xr (o:Option (List Block)):Flat (ov aG o)=True:=eq_true (uJ o)
theorem Oc (o:Option (List Request)):Flat (ov aF o)=True:=eq_true (iZ o)
theorem MV (n:Nat) (o:List Int):Flat (.sl n (bK o))=True:=eq_true (.sl _ _ (iH o))
theorem MW (n:Nat) (o:List Int):Flat (.sl n (aK o))=True:=eq_true (.sl _ _ (gI o))
theorem FI (n:Nat) (o:List kO):Flat (.sl n (dD o))=True:=eq_true (.sl _ _ (nD o))
theorem Xs (n:Nat) (o:List Block):Flat (.sl n (aG o))=True:=eq_true (.sl _ _ (lB o))
theorem Od (n:Nat) (o:List Request):Flat (.sl n (aF o))=True:=eq_true (.sl _ _ (uK o))
theorem FJ (n:Nat) (o:List Node):Flat (.sl n (bZ o))=True:=eq_true (.sl _ _ (iF o))
theorem j8 (r:cN):Flat (.agg (bF r))=True:=eq_true (qU r)
theorem MX (r:Block):Flat (.agg (aP r))=True:=eq_true (qL r)
theorem j9 (r:qE):Flat (.agg (gG r))=True:=eq_true (.agg _ (iQ r))
theorem Bj (r:dP):Flat (.agg (aW r))=True:=eq_true (.agg _ (bM r))
theorem S3 (r:Request):Flat (.agg (dF r))=True:=eq_true (.agg _ (jQ r))
theorem Xt (r:gV):Flat (.agg (dL r))=True:=eq_true (.agg _ (jR r))
theorem FK (r:mI):Flat (.agg (dM r))=True:=eq_true (.agg _ (yH r))
theorem MY (x:AV):Flat (.agg [x])↔Flat x:=by
 constructor
 ·intro h;cases h with|agg _ h=>exact h x (by simp)
 ·intro h;exact .agg _ (by simpa using h)
theorem dU:(type_of% aGE)∧(type_of% MT)∧(type_of% MU)∧(type_of% FH)∧(type_of% Xr)∧(type_of% Oc)∧(type_of% MV)∧(type_of% MW)∧(type_of% FI)∧(type_of% Xs)∧(type_of% Od)∧(type_of% FJ)∧(type_of% j8)∧(type_of% MX)∧(type_of% j9)∧(type_of% Bj)∧(type_of% S3)∧(type_of% Xt)∧(type_of% FK)∧(type_of% MY)∧(type_of% yU)∧(type_of% Oa)∧(type_of% FG)∧(type_of% MR)∧(type_of% wT)∧(type_of% uG)∧(type_of% zP)∧(type_of% zQ)∧(type_of% nC)∧(type_of% iG)∧(type_of% UP) :=
 ⟨aGE,MT,MU,FH,Xr,Oc,MV,MW,FI,Xs,Od,FJ,j8,MX,j9,Bj,S3,Xt,FK,MY,yU,Oa,FG,MR,wT,uG,zP,zQ,nC,iG,UP⟩
structure SV where
 B:Option (List Int)
 L:Option (List kO)
 Q:Option (List Int)
 E:Option (List sG)
 O:Option (List Block)
 T:Option (List Table)
 ns:List Node
def Df (a:sG):Prop:=∃V:Option (List Int),a.eZ=ov aK V∧((ol V).length:Int)<1000000
def qN (t:Table):Prop:=∃b:Option (List Int),t.iP=ov bK b∧((ol b).length:Int)<1000000
structure SD (s:aL) (v:SV):Prop where
 iP:s.cFg.iP=ov bK v.B
 eB:s.gK.eB=ov dD v.L
 gW:s.gK.gW=ov aK v.Q
 early:s.cF.early=ov dR v.E
 bN:s.cF.bN=ov aG v.O
 tree:s.tree=⟨.sl v.ns.length (bZ v.ns)⟩
 tables:s.tables=ov aI v.T
 eV:∀a∈ol v.E,Df a
 tB:∀t∈ol v.T,qN t
 nB:((ol v.B).length:Int)<1000000
 nL:((ol v.L).length:Int)<1000000
 nQ:((ol v.Q).length:Int)<1000000
 nE:((ol v.E).length:Int)<1000000
 nO:((ol v.O).length:Int)<1000000
 nT:((ol v.T).length:Int)<1000000
 nn:(v.ns.length:Int)<1000000
theorem Df.fl {a:sG} (h:Df a):Flat a.eZ:=by obtain⟨V,h,_⟩:=h;rw[h];exact bX V
theorem qN.fl {a:Table} (h:qN a):Flat a.iP:=by obtain⟨V,h,_⟩:=h;rw[h];exact dY V
theorem SD.fE {s:aL} {v:SV} (h:SD s v):Flat (ov dR v.E):=Xu v.E fun a ha=>(h.eV a ha).fl
theorem SD.fT {s:aL} {v:SV} (h:SD s v):Flat (ov aI v.T):=fZ v.T fun a ha=>(h.tB a ha).fl
theorem SD.flat {s:aL} {v:SV} (h:SD s v):Flat (.agg (aA s)):=by
 rw[wT,h.iP,h.eB,h.gW,h.early,h.bN,h.tree,h.tables];exact⟨dY _,rC _,bX _,h.fE,uJ _,.sl _ _ (iF _),h.fT⟩
theorem c97 {s:aL} {v:SV} (hs:SD s v):aB Tryz.prog 97 [.agg (aA s)]=some (.v (.int .i64 (ol v.B).length)):=by
 rw[cL Tryz.func97 rfl aQu rfl];simp only[Z8,seval,hs.iP];exact bQ rfl (by simp only[E8,seval]<;>rfl) (.v _)
theorem Xv {s:aL} {v:SV} (hs:SD s v) (st:St) (d:Option Nat):aM (aB Tryz.prog) 97 [.agg (aA s)] st d=some { dst:=d,val:=.v (.int .i64 (ol v.B).length)}:=bC (cU hs.flat) (c97 hs) (.v _)
noncomputable def wH (s:aL) (x:Int):Int:=IntKind.u64.wrap (x.tdiv s.cFg.jL)
theorem c98 (s:aL) (h:s.cFg.jL≠0) (x:Int):aB Tryz.prog 98 [.agg (aA s),.v (.int .u64 x)]=some (.v (.int .u64 (wH s x))):=by
 rw[cL Tryz.func98 rfl aQv rfl];have h0:(s.cFg.jL=0)=False:=eq_false h
 simp only[Z8,seval,h0];exact bQ rfl (by simp only[E8,seval,wH]<;>rfl) (.v _)
theorem Nf (s:aL) (h:s.cFg.jL≠0) (hf:Flat (.agg (aA s))) (x:Int) (st:St) (d:Option Nat):aM (aB Tryz.prog) 98 [.agg (aA s),.v (.int .u64 x)] st d=some { dst:=d,val:=.v (.int .u64 (wH s x))}:=bC (bE hf (.v _)) (c98 s h x) (.v _)
noncomputable def sH (s:aL) (e:Int):Int × Int:=Nu e s.cFg.jL
theorem c99 (s:aL) (x:Int):aB Tryz.prog 99 [.agg (aA s),.v (.int .u64 x)]=some (.eG [.v (.int .u64 (sH s x).1),.v (.bool ((sH s x).2 == 0))]):=by
 rw[cL Tryz.func99 rfl aQx rfl];simp only[Z8,seval,aPS,dE];exact dN rfl rfl rfl (by simp only[E8,seval,sH]<;>rfl) (by simp only[E8,seval,sH]<;>rfl)
theorem Wa (s:aL) (hf:Flat (.agg (aA s))) (x:Int) (st:St) (d:Option Nat):aM (aB Tryz.prog) 99 [.agg (aA s),.v (.int .u64 x)] st d=some { dst:=d,val:=.eG [.v (.int .u64 (sH s x).1),.v (.bool ((sH s x).2 == 0))]}:=bC (bE hf (.v _)) (c99 s x) (.eG _ (bE (.v _) (.v _)))
theorem aQy {s:aL} {v:SV} (hs:SD s v) (i:Int):aB Tryz.prog 251 [.agg (aA s),.v (.int .i64 i)]=some (.v (.bool (decide (0≤i) && decide (i<v.ns.length)))):=by
 rw[cL Tryz.func251 rfl aK6 rfl];by_cases h:0≤i
 all_goals
  simp only[Z8,seval,h,hs.tree,decide_true,decide_false,Bool.true_and,Bool.false_and];exact bQ rfl (by simp only[E8,seval,h,decide_true,decide_false,Bool.true_and,Bool.false_and]<;>rfl) (.v _)
theorem Xw {s:aL} {v:SV} (hs:SD s v) (i:Int) (st:St) (d:Option Nat):aM (aB Tryz.prog) 251 [.agg (aA s),.v (.int .i64 i)] st d=some { dst:=d,val:=.v (.bool (decide (0≤i) && decide (i<v.ns.length)))}:=bC (bE hs.flat (.v _)) (aQy hs i) (.v _)
def HG (s:aL) (b:Block):Prop:=b.fin.aE≤b.gD.aE∧b.gD.aE≤b.cV.pj.aE∧b.fin.aE≤b.cV.pf.aE∧b.cV.pf.aE≤b.cV.pj.aE∧b.cV.pj.aE≤wH s b.slot
theorem aQz (s:aL) (h:s.cFg.jL≠0) (hf:Flat (.agg (aA s))) (b:Block):aB Tryz.prog 137 [.agg (aA s),.agg (aP b)]=some (.v (.bool (decide (HG s b)))):=by
 rw[cL Tryz.func137 rfl aK7 rfl];have h98:=Nf s h hf
 unfold HG;by_cases h1:b.fin.aE≤b.gD.aE
 ·by_cases h2:b.gD.aE≤b.cV.pj.aE
  ·by_cases h3:b.fin.aE≤b.cV.pf.aE
   ·by_cases h4:b.cV.pf.aE≤b.cV.pj.aE
    ·simp only[*,true_and,false_and,and_true,and_false,decide_true,decide_false];simp only[Z8,seval, *];exact bQ rfl (by simp only[E8,seval, *]<;>rfl) (.v _)
    ·simp only[*,true_and,false_and,and_true,and_false,decide_true,decide_false];simp only[Z8,seval, *];exact bQ rfl (by simp only[E8,seval, *]<;>rfl) (.v _)
   ·simp only[*,true_and,false_and,and_true,and_false,decide_true,decide_false];simp only[Z8,seval, *];exact bQ rfl (by simp only[E8,seval, *]<;>rfl) (.v _)
  ·simp only[*,true_and,false_and,and_true,and_false,decide_true,decide_false];simp only[Z8,seval, *];exact bQ rfl (by simp only[E8,seval, *]<;>rfl) (.v _)
 ·simp only[*,true_and,false_and,and_true,and_false,decide_true,decide_false];simp only[Z8,seval, *];exact bQ rfl (by simp only[E8,seval, *]<;>rfl) (.v _)
theorem aK8 (s:aL) (h:s.cFg.jL≠0) (hf:Flat (.agg (aA s))) (b:Block) (st:St) (d:Option Nat):aM (aB Tryz.prog) 137 [.agg (aA s),.agg (aP b)] st d=some { dst:=d,val:=.v (.bool (decide (HG s b)))}:=bC (bE hf (qL _)) (aQz s h hf b) (.v _)
noncomputable def HH (s:aL) (ns:List Node) (i e:Int):Prop:=(sH s e).2≠0∨(nd ns i).block.slot≤(sH s e).1
theorem aQA {s:aL} {v:SV} (hs:SD s v) (i e:Int) (i0:0≤i) (i1:i<v.ns.length):aB Tryz.prog 122 [.agg (aA s),.v (.int .i64 i),.v (.int .u64 e)]=some (.v (.bool (decide (HH s v.ns i e)))):=by
 rw[cL Tryz.func122 rfl aK9 rfl];unfold HH;by_cases h:(sH s e).2=0
 ·have hq:((sH s e).2 == 0)=true:=by simp[h]
  simp only[h,ne_eq,not_true_eq_false,false_or];simp only[Z8,seval,Wa s hs.flat,dE,hq,hs.tree,i0,i1];exact bQ rfl (by simp only[E8,seval]<;>rfl) (.v _)
 ·have hq:((sH s e).2 == 0)=false:=by simp[h]
  simp only[h,ne_eq,not_false_eq_true,true_or,decide_true];simp only[Z8,seval,Wa s hs.flat,dE,hq,hs.tree,i0,i1];exact bQ rfl (by simp only[E8,seval]<;>rfl) (.v _)
theorem aLa {s:aL} {v:SV} (hs:SD s v) (i e:Int) (i0:0≤i) (i1:i<v.ns.length) (st:St) (d:Option Nat):aM (aB Tryz.prog) 122 [.agg (aA s),.v (.int .i64 i),.v (.int .u64 e)] st d=some { dst:=d,val:=.v (.bool (decide (HH s v.ns i e)))}:=bC (lM hs.flat (.v _) (.v _)) (aQA hs i e i0 i1) (.v _)
theorem mT (x:Int) (h1:-9223372036854775808≤x) (h2:x≤9223372036854775807):IntKind.i64.wrap x=x:=wrap_i64 x h1 h2
theorem yV {α:Type} (z:α) (p:α→Bool) (l:List α) (k:Nat) (h:k<l.length):(l.take (k+1)).filter p=(l.take k).filter p++if p (gx z l k)=true then [gx z l k] else []:=by
 have hg:gx z l k=l[k]:=by simp[gx,h]
 rw[List.take_succ_eq_append_getElem h,List.filter_append,hg];congr 1
 by_cases hp:p l[k]=true<;>simp[hp]
noncomputable def uL (p:Nat→Prop):Nat→Int
 | 0=>-1
 | k+1=>if 0≤uL p k then uL p k else if p k then k else -1
theorem tL {p:Nat→Prop}:∀n:Nat,(∀j,j<n→¬p j)→uL p n=-1
 | 0,_=>rfl
 | n+1,h=>by
   simp only[uL];rw[tL n fun j hj=>h j (by omega),if_neg (by omega),if_neg (h n (by omega))]
theorem Bk {p:Nat→Prop} {k:Nat} (hk:p k) (hj:∀j,j<k→¬p j):∀n:Nat,k<n→uL p n=k
 | 0,h=>by omega
 | n+1,h=>by
   simp only[uL];by_cases Aq:k=n
   ·subst Aq;rw[tL k hj,if_neg (by omega),if_pos hk]
   ·rw[Bk hk hj n (by omega),if_pos (by omega)]
theorem rD (p:Nat→Prop) (n:Nat):(uL p n=-1∧∀j,j<n→¬p j)∨∃k:Nat,k<n∧p k∧(∀j,j<k→¬p j)∧uL p n=k:=by
 by_cases h:∃k,k<n∧p k
 ·obtain⟨k,⟨hk,hp⟩,hm⟩:=Eu h
  have hj:∀j,j<k→¬p j:=fun j hj hpj=>by have:=hm j ⟨by omega,hpj⟩;omega
  exact .inr ⟨k,hk,hp,hj,Bk hp hj n hk⟩
 ·have h':∀j,j<n→¬p j:=fun j hj hp=>h ⟨j,hj,hp⟩
  exact .inl ⟨tL n h',h'⟩
theorem UQ (p:Nat→Prop) (n:Nat):-1≤uL p n∧uL p n<n:=by
 rcases rD p n with ⟨h,_⟩|⟨k,hk,_,_,h⟩<;>rw[h]<;>omega
noncomputable def Jn (l:List Table) (c:dP):Int:=uL (fun k=>(gx dZ l k).ck=c) l.length
theorem c65 (o:Option (List Table)) (hn:((ol o).length:Int)<1000000) (c:dP):aB Tryz.prog 65 [ov aI o,.agg (aW c)]=some (.v (.int .i64 (Jn (ol o) c))):=by
 rw[cL Tryz.func65 rfl aQB (by cases o<;>rfl)]
 simp only[Z8,seval];refine jV (fun m st=>∃k:Nat,(st.env 0=ov aI o∧st.env 3=.ptr 3 0 0∧st.heap 3 0=some (.cells (aW c))∧st.env 5=.v (.int .i64 k))∧(∀j:Nat,j<k→¬((gx dZ (ol o) (j:Int)).ck=c))∧k≤(ol o).length∧m=(ol o).length-k)
  (fun e st=>(e=.ret∧∃k:Nat,k<(ol o).length∧((gx dZ (ol o) (k:Int)).ck=c)∧(∀j:Nat,j<k→¬((gx dZ (ol o) (j:Int)).ck=c))∧st.env 4=.v (.int .i64 (k:Nat)))∨(e=.exit 0∧(∀j:Nat,j<(ol o).length→¬((gx dZ (ol o) (j:Int)).ck=c))∧st.env 0=ov aI o∧st.env 3=.ptr 3 0 0∧st.heap 3 0=some (.cells (aW c)))) ((ol o).length) ?step ?start ?rest
 case step =>
  rintro m st ⟨k,hI,hj,hk,hm⟩
  by_cases aY:(k:Int)<(ol o).length
  ·have q0:(0:Int)≤k:=by omega
   have hw:IntKind.i64.wrap ((k:Int)+1)=((k+1:Nat):Int):=by rw[mT _ (by omega) (by omega)];omega
   by_cases hh:(gx dZ (ol o) (k:Int)).ck=c
   ·apply oT (.ret)
    ·simp only[Z8,seval,hI,aY,q0,hh];rfl
    ·exact .inl ⟨rfl,k,by omega,hh,hj,by simp only[E8,seval]⟩
   ·apply oN ((ol o).length-(k+1))
    ·simp only[Z8,seval,hI,aY,q0,hh,hw];rfl
    ·exact⟨k+1,by simp only[E8,seval,hI],fun j h=>(Nat.lt_succ_iff_lt_or_eq.1 h).elim (hj j) fun e=>by subst e;exact hh,by omega,rfl⟩
  ·apply oT (.exit 0)
   ·simp only[Z8,seval,hI,aY];rfl
   ·exact .inr ⟨rfl,fun j h=>hj j (by omega),by simp only[E8,seval,hI]⟩
 case start=>exact⟨0,by simp only[E8,seval]<;>rfl,fun j h=>by omega,by omega,by omega⟩
 case rest =>
  rintro e st (⟨rfl,k,hk,hh,hj,h⟩|⟨rfl,hj,h⟩)
  ·have hv:Jn (ol o) c=k:=Bk hh hj _ hk
   simp only[Z8,seval];exact bQ rfl (by simp only[E8,seval,h,hv]<;>rfl) (.v _)
  ·have hv:Jn (ol o) c=-1:=tL _ hj
   simp only[Z8,seval];exact bQ rfl (by simp only[E8,seval,h,hv]<;>rfl) (.v _)
theorem TG (o:Option (List Table)) (hn:((ol o).length:Int)<1000000) (hf:Flat (ov aI o)) (c:dP) (st:St) (d:Option Nat):aM (aB Tryz.prog) 65 [ov aI o,.agg (aW c)] st d=some { dst:=d,val:=.v (.int .i64 (Jn (ol o) c))}:=bC (bE hf (.agg _ (bM c))) (c65 o hn c) (.v _)
noncomputable def nz {α:Type} (l:List α):Option (List α):=if l=[] then none else some l
theorem nF {α:Type} (l:List α):ol (nz l)=l:=by unfold nz;split<;>simp[ol, *]
noncomputable def sA (l:List Table) (x:Int):List Table:=l.filter fun t=>decide (x≤t.ck.aE)
noncomputable def Oe (e sz:Nat) {α:Type} (c:List α→List AV) (l:List α):AV:=if l=[] then .v (.slice none 0 0) else .uniq e sz l.length (c l)
theorem aQC (o:Option (List Table)) (hn:((ol o).length:Int)<1000000) (ht:∀t∈ol o,Flat t.iP) (x:Int):aB Tryz.prog 128 [ov aI o,.v (.int .u64 x)]=some (Oe 118 34 aI (sA (ol o) x)):=by
 rw[cL Tryz.func128 rfl aLb (by cases o<;>rfl)]
 have TH:∀l:List Table,(∀t∈l,t∈ol o)→∀y∈aI l,Flat y:=fun l h=>jY l fun t m=>ht t (h t m)
 simp only[Z8,seval];refine jV (fun m st=>∃k:Nat,(st.env 0=ov aI o∧st.env 1=.v (.int .u64 x)∧st.env 6=.v (.int .i64 k))∧(((((ol o).take k).filter (fun t=>decide (x≤t.ck.aE)))=[]∧st.env 5=.v (.slice none 0 0))∨((((ol o).take k).filter (fun t=>decide (x≤t.ck.aE)))≠[]∧∃g,st.env 5=.own 27 g∧g<st.aT 27∧st.heap 27 g=some (.row 118 34 (((ol o).take k).filter (fun t=>decide (x≤t.ck.aE))).length (aI (((ol o).take k).filter (fun t=>decide (x≤t.ck.aE)))))))∧k≤(ol o).length∧m=(ol o).length-k)
  (fun e st=>e=.exit 0∧(((((ol o).take (ol o).length).filter (fun t=>decide (x≤t.ck.aE)))=[]∧st.env 5=.v (.slice none 0 0))∨((((ol o).take (ol o).length).filter (fun t=>decide (x≤t.ck.aE)))≠[]∧∃g,st.env 5=.own 27 g∧g<st.aT 27∧st.heap 27 g=some (.row 118 34 (((ol o).take (ol o).length).filter (fun t=>decide (x≤t.ck.aE))).length (aI (((ol o).take (ol o).length).filter (fun t=>decide (x≤t.ck.aE)))))))∧st.env 0=ov aI o∧st.env 1=.v (.int .u64 x)) ((ol o).length) ?step ?start ?rest
 case step =>
  rintro m st ⟨k,hI,h5,hk,hm⟩
  have Gx:(((((ol o).take k).filter (fun t=>decide (x≤t.ck.aE))).length:Nat):Int)<1000000:=by have:=List.length_filter_le (fun t=>decide (x≤t.ck.aE)) ((ol o).take k);have h2:=List.length_take_le' k (ol o);omega
  by_cases aY:(k:Int)<(ol o).length
  ·have q0:(0:Int)≤k:=by omega
   have hw:IntKind.i64.wrap ((k:Int)+1)=((k+1:Nat):Int):=by rw[mT _ (by omega) (by omega)];omega
   have hs:=yV dZ (fun t=>decide (x≤t.ck.aE)) (ol o) k (by omega)
   have aGF:Flat (.agg (cA (gx dZ (ol o) (k:Int)))):=(iG _).2 (ht _ (oO q0 aY))
   by_cases hh:x≤(gx dZ (ol o) (k:Int)).ck.aE
   ·rw[if_pos (decide_eq_true hh)] at hs;rcases h5 with ⟨hy,h5⟩|⟨hy,g,h5⟩
    ·rw[hy] at hs;apply oN ((ol o).length-(k+1))
     ·simp only[Z8,seval,hI,h5,aY,hw,q0,aGF,hh];rfl
     ·exact⟨k+1,by simp only[E8,seval,hI],.inr ⟨by rw[hs];simp,_,by simp only[E8,seval]<;>rfl,(by simp only[E8,seval]<;>omega),(by rw[hs];simp only[E8,seval]<;>rfl)⟩,by omega,rfl⟩
    ·apply oN ((ol o).length-(k+1))
     ·simp only[Z8,seval,hI,h5,Gx,aY,hw,q0,aGF,hh];rfl
     ·exact⟨k+1,by simp only[E8,seval,hI],.inr ⟨by rw[hs];simp,_,by simp only[E8,seval]<;>rfl,(by simp only[E8,seval]<;>omega),(by rw[hs];simp only[E8,seval]<;>rfl)⟩,by omega,rfl⟩
   ·rw[if_neg (by simpa using hh),List.append_nil] at hs
    apply oN ((ol o).length-(k+1))
    ·simp only[Z8,seval,hI,aY,hw,q0,aGF,hh];rfl
    ·exact⟨k+1,by simp only[E8,seval,hI],by rw[hs];simpa only[E8,seval] using h5,by omega,rfl⟩
  ·have Aq:k=(ol o).length:=by omega
   rw[Aq] at h5;apply oT (.exit 0)
   ·simp only[Z8,seval,hI,aY];rfl
   ·exact⟨rfl,by simpa only[E8,seval] using h5,by simp only[E8,seval,hI]⟩
 case start=>exact⟨0,by simp only[E8,seval]<;>rfl,.inl ⟨rfl,by simp only[E8,seval]⟩,by omega,by omega⟩
 case rest =>
  rintro e st ⟨rfl,⟨hy,h5⟩|⟨hy,g,h5,hg,As⟩,hI⟩
  ·rw[List.take_length] at hy;rw[show Oe 118 34 aI (sA (ol o) x)=.v (.slice none 0 0) from if_pos hy];simp only[Z8,seval,h5];exact bQ rfl (by simp only[E8,seval]<;>rfl) (.v _)
  ·rw[List.take_length] at hy As;rw[show Oe 118 34 aI (sA (ol o) x)=.uniq 118 34 (sA (ol o) x).length (aI (sA (ol o) x)) from if_neg hy];simp only[Z8,seval,h5,As];exact tU rfl (by simp only[E8,seval];rfl) (by simp only[E8,seval,As];rfl) (TH _ fun t m=>(List.mem_filter.1 m).1)
theorem HI {T n sz:Nat} (ha:jJ Tryz.prog T=some (n,sz)) (st:St) (x:AV) {k:IntKind} {i:Int} (h0:0≤i) (h1:i<n):bH Tryz.prog st T x (.v (.int k i))=vK x (i.toNat * sz):=by
 simp only[bH,ha];rw[if_pos ⟨h0,h1⟩]
theorem UR (st:St) (x:AV) {k:IntKind} {i:Int} (h0:0≤i) (h1:i<32):bH Tryz.prog st 27 x (.v (.int k i))=vK x (i.toNat * 1):=HI aGG st x h0 h1
theorem Hn (st:St) (x:AV) {k:IntKind} {i:Int} (h0:0≤i) (h1:i<4):bH Tryz.prog st 33 x (.v (.int k i))=vK x (i.toNat * 1):=HI aLc st x h0 h1
def rb (r:cN) (i:Int):Int:=r.toList.getD i.toNat 0
def wb (r:qE) (i:Int):Int:=r.toList.getD i.toNat 0
theorem FL (r:cN) {i:Int} (h0:0≤i) (h1:i<32):(bF r)[i.toNat]? = some (.v (.int .u8 (rb r i))):=by
 have h:i.toNat<r.toList.length:=by simp;omega
 unfold bF rb;rw[List.getElem?_map,List.getElem?_eq_getElem h,List.getD_eq_getElem?_getD,List.getElem?_eq_getElem h];rfl
theorem Rf (r:qE) {i:Int} (h0:0≤i) (h1:i<4):(gG r)[i.toNat]? = some (.v (.int .u64 (wb r i))):=by
 have h:i.toNat<r.toList.length:=by simp;omega
 unfold gG wb;rw[List.getElem?_map,List.getElem?_eq_getElem h,List.getD_eq_getElem?_getD,List.getElem?_eq_getElem h];rfl
theorem aLd (a b:cN):∃c:Int,aB Tryz.prog 176 [.agg (bF a),.agg (bF b)]=some (.v (.int .i64 c)):=by
 rw[cL Tryz.func176 rfl aLe rfl];suffices h:∃r,cT (zJ Tryz.prog _ (St.init [.agg (bF a),.agg (bF b)])) (At Tryz.prog 176 Tryz.f176)=some r∧∃c:Int,r=.v (.int .i64 c) by
  obtain⟨r,h,c,rfl⟩:=h;exact⟨c,h⟩
 simp only[Z8,seval];refine cC (fun m st=>∃k:Nat,(st.env 2=.ptr 2 0 0∧st.heap 2 0=some (.cells (bF a))∧st.env 3=.ptr 3 0 0∧st.heap 3 0=some (.cells (bF b))∧st.env 5=.v (.int .i64 k))∧k≤32∧m=32-k)
  (fun e st=>(e=.ret∧∃c:Int,st.env 4=.v (.int .i64 c))∨e=.exit 0) 32 ?step ?start ?rest
 case step =>
  rintro m st ⟨k,hI,hk,hm⟩
  by_cases aY:(k:Int)<32
  ·have q0:(0:Int)≤k:=by omega
   have hw:IntKind.i64.wrap ((k:Int)+1)=((k+1:Nat):Int):=by rw[mT _ (by omega) (by omega)];omega
   have ga:=FL a q0 aY
   have gb:=FL b q0 aY
   by_cases h1:rb a k<rb b k
   ·apply oT (.ret)
    ·simp only[Z8,seval,hI,aY,q0,UR,ga,gb,h1];rfl
    ·exact .inl ⟨rfl,-1,by simp only[E8,seval]⟩
   ·by_cases h2:rb b k<rb a k
    ·apply oT (.ret)
     ·simp only[Z8,seval,hI,aY,q0,UR,ga,gb,h1,h2];rfl
     ·exact .inl ⟨rfl,1,by simp only[E8,seval]⟩
    ·apply oN (32-(k+1))
     ·simp only[Z8,seval,hI,aY,q0,UR,ga,gb,h1,h2,hw];rfl
     ·exact⟨k+1,by simp only[E8,seval,hI],by omega,rfl⟩
  ·apply oT (.exit 0)
   ·simp only[Z8,seval,hI,aY];rfl
   ·exact .inr rfl
 case start=>exact⟨0,by simp only[E8,seval]<;>rfl,by omega,by omega⟩
 case rest =>
  rintro e st (⟨rfl,c,h⟩|rfl)
  ·simp only[Z8,seval];exact⟨_,bQ rfl h (.v _),c,rfl⟩
  ·simp only[Z8,seval];exact⟨_,bQ rfl (by simp only[E8,seval]<;>rfl) (.v _),0,rfl⟩
noncomputable def aLf (a b:cN):Int:=Classical.choose (aLd a b)
theorem aGH (a b:cN) (st:St) (d:Option Nat):aM (aB Tryz.prog) 176 [.agg (bF a),.agg (bF b)] st d=some { dst:=d,val:=.v (.int .i64 (aLf a b))}:=bC (bE (qU a) (qU b)) (Classical.choose_spec (aLd a b)) (.v _)
theorem aLg (a b:qE):∃c:Int,aB Tryz.prog 170 [.agg (gG a),.agg (gG b)]=some (.v (.int .i64 c)):=by
 rw[cL Tryz.func170 rfl aLh rfl];suffices h:∃r,cT (zJ Tryz.prog _ (St.init [.agg (gG a),.agg (gG b)])) (At Tryz.prog 170 Tryz.f170)=some r∧∃c:Int,r=.v (.int .i64 c) by
  obtain⟨r,h,c,rfl⟩:=h;exact⟨c,h⟩
 simp only[Z8,seval];refine cC (fun m st=>∃k:Nat,(st.env 2=.ptr 2 0 0∧st.heap 2 0=some (.cells (gG a))∧st.env 3=.ptr 3 0 0∧st.heap 3 0=some (.cells (gG b))∧st.env 5=.v (.int .i64 ((k:Int)-1)))∧k≤4∧m=k)
  (fun e st=>(e=.ret∧∃c:Int,st.env 4=.v (.int .i64 c))∨e=.exit 0) 4 ?step ?start ?rest
 case step =>
  rintro m st ⟨k,hI,hk,hm⟩
  by_cases aY:(0:Int)≤(k:Int)-1
  ·have q1:(k:Int)-1<4:=by omega
   have hw:IntKind.i64.wrap ((k:Int)-1-1)=((k-1:Nat):Int)-1:=by rw[mT _ (by omega) (by omega)];omega
   have ga:=Rf a aY q1
   have gb:=Rf b aY q1
   by_cases h1:wb a ((k:Int)-1)<wb b ((k:Int)-1)
   ·apply oT (.ret)
    ·simp only[Z8,seval,hI,aY,q1,Hn,ga,gb,h1];rfl
    ·exact .inl ⟨rfl,-1,by simp only[E8,seval]⟩
   ·by_cases h2:wb b ((k:Int)-1)<wb a ((k:Int)-1)
    ·apply oT (.ret)
     ·simp only[Z8,seval,hI,aY,q1,Hn,ga,gb,h1,h2];rfl
     ·exact .inl ⟨rfl,1,by simp only[E8,seval]⟩
    ·apply oN (k-1)
     ·simp only[Z8,seval,hI,aY,q1,Hn,ga,gb,h1,h2,hw];rfl
     ·exact⟨k-1,by simp only[E8,seval,hI],by omega,rfl⟩
  ·apply oT (.exit 0)
   ·simp only[Z8,seval,hI,aY];rfl
   ·exact .inr rfl
 case start=>exact⟨4,by simp only[E8,seval]<;>rfl,by omega,by omega⟩
 case rest =>
  rintro e st (⟨rfl,c,h⟩|rfl)
  ·simp only[Z8,seval];exact⟨_,bQ rfl h (.v _),c,rfl⟩
  ·simp only[Z8,seval];exact⟨_,bQ rfl (by simp only[E8,seval]<;>rfl) (.v _),0,rfl⟩
noncomputable def aCK (a b:qE):Int:=Classical.choose (aLg a b)
theorem aLi (a b:qE) (st:St) (d:Option Nat):aM (aB Tryz.prog) 170 [.agg (gG a),.agg (gG b)] st d=some { dst:=d,val:=.v (.int .i64 (aCK a b))}:=bC (bE (.agg _ (iQ a)) (.agg _ (iQ b))) (Classical.choose_spec (aLg a b)) (.v _)
theorem aQD (p b:Block):aB Tryz.prog 169 [.agg (aP p),.agg (aP b)]=some (.v (.bool (!decide (b.jK=dV) && decide (p.jK=dV)))):=by
 rw[cL Tryz.func169 rfl aLj rfl];by_cases h:b.jK=dV
 all_goals
  simp only[h,decide_true,decide_false,Bool.not_true,Bool.not_false,Bool.true_and,Bool.false_and];simp only[Z8,seval,h,decide_true,decide_false];exact bQ rfl (by simp only[E8,seval]<;>rfl) (.v _)
theorem aGI (p b:Block) (st:St) (d:Option Nat):aM (aB Tryz.prog) 169 [.agg (aP p),.agg (aP b)] st d=some { dst:=d,val:=.v (.bool (!decide (b.jK=dV) && decide (p.jK=dV)))}:=bC (bE (qL p) (qL b)) (aQD p b) (.v _)
def E9 (CI:qE) (p b:Block):Prop:=(b.jK=dV→p.jK=dV)∧(b.jK≠dV→p.jK=dV→aCK b.FM CI<0∧0≤aCK b.diff CI)
theorem aQE (CI:qE) (p b:Block):aB Tryz.prog 114 [.agg (gG CI),.agg (aP p),.agg (aP b)]=some (.v (.bool (decide (E9 CI p b)))):=by
 rw[cL Tryz.func114 rfl aLk rfl];unfold E9;by_cases h:b.jK=dV
 ·simp only[h,forall_const,ne_eq,not_true_eq_false,false_implies,and_true];simp only[Z8,seval,h,decide_true];exact bQ rfl (by simp only[E8,seval]<;>rfl) (.v _)
 ·by_cases hp:p.jK=dV
  ·simp only[h,hp,ne_eq,not_false_eq_true,forall_const,false_implies,true_and];by_cases h1:aCK b.FM CI<0
   ·simp only[h1,true_and];simp only[Z8,seval,h,hp,aGI,aLi,h1,decide_true,decide_false,Bool.not_false,Bool.true_and];exact bQ rfl (by simp only[E8,seval]<;>rfl) (.v _)
   ·simp only[h1,false_and,decide_false];simp only[Z8,seval,h,hp,aGI,aLi,h1,decide_true,decide_false,Bool.not_false,Bool.true_and];exact bQ rfl (by simp only[E8,seval]<;>rfl) (.v _)
  ·simp only[h,hp,ne_eq,not_false_eq_true,forall_const,false_implies,and_self,decide_true];simp only[Z8,seval,h,hp,aGI,decide_false,Bool.not_false,Bool.true_and];exact bQ rfl (by simp only[E8,seval]<;>rfl) (.v _)
theorem Xx (CI:qE) (p b:Block) (st:St) (d:Option Nat):aM (aB Tryz.prog) 114 [.agg (gG CI),.agg (aP p),.agg (aP b)] st d=some { dst:=d,val:=.v (.bool (decide (E9 CI p b)))}:=bC (lM (.agg _ (iQ CI)) (qL p) (qL b)) (aQE CI p b) (.v _)
noncomputable def Uv (b:Block):Int:=if b.jK=dV then 1 else 0
theorem aQF (b:Block):aB Tryz.prog 233 [.agg (aP b)]=some (.v (.int .i64 (Uv b))):=by
 rw[cL Tryz.func233 rfl aLl rfl];unfold Uv;by_cases h:b.jK=dV
 ·simp only[h,if_true];simp only[Z8,seval,h,decide_true];exact bQ rfl (by simp only[E8,seval]<;>rfl) (.v _)
 ·simp only[h,if_false];simp only[Z8,seval,h,decide_false];exact bQ rfl (by simp only[E8,seval]<;>rfl) (.v _)
theorem aLm (b:Block) (st:St) (d:Option Nat):aM (aB Tryz.prog) 233 [.agg (aP b)] st d=some { dst:=d,val:=.v (.int .i64 (Uv b))}:=bC (cU (qL b)) (aQF b) (.v _)
theorem kx {g:Nat} {args:List AV} {r:AV} (h:aB Tryz.prog g args=some r) (hf:∀x∈args,Flat x) (hr:Flat r):∀(st:St) (d:Option Nat),aM (aB Tryz.prog) g args st d=some { dst:=d,val:=r }:=fun st d=>bC hf h hr
theorem bf {x y:Int} (h:¬x=y):(x == y)=false∧(x != y)=true:=by simp[h]
theorem bt {x y:Int} (h:x=y):(x == y)=true∧(x != y)=false:=by simp[h]
def Uw (l:List Int) (n:Int) (k:Nat):Prop:=gx (0:Int) l k<0∨n≤gx (0:Int) l k∨(0<k∧gx (0:Int) l k≤gx (0:Int) l ((k:Int)-1))
noncomputable def BY (l:List Int) (n:Int):Int:=if l=[] then 2 else if uL (Uw l n) l.length<0 then 0 else if gx (0:Int) l (uL (Uw l n) l.length)<0∨n≤gx (0:Int) l (uL (Uw l n) l.length) then 3 else 8
theorem c40 (o:Option (List Int)) (hn:((ol o).length:Int)<1000000) (n:Int):aB Tryz.prog 40 [ov aK o,.v (.int .i64 n)]=some (.v (.int .i64 (BY (ol o) n))):=by
 rw[cL Tryz.func40 rfl aQG (by cases o<;>rfl)]
 refine gX ?_
 by_cases h0:ol o=[]
 ·have hv:BY (ol o) n=2:=if_pos h0
  have hl:(ol o).length=0:=by rw[h0];rfl
  simp only[Z8,seval,hl];exact⟨_,bQ rfl (by simp only[E8,seval,hv]<;>rfl) (by first|exact .v _|simp only[dU,hv]),rfl⟩
 have hl:=bf (x:=((ol o).length:Int)) (y:=0) (by have:=List.length_pos_iff.2 h0;omega)
 simp only[Z8,seval,hl];refine cC (fun m st=>∃k:Nat,(st.env 0=ov aK o∧st.env 1=.v (.int .i64 n)∧st.env 5=.v (.int .i64 k))∧(∀j:Nat,j<k→¬Uw (ol o) n j)∧k≤(ol o).length∧m=(ol o).length-k)
  (fun e st=>(e=.ret∧∃k:Nat,k<(ol o).length∧Uw (ol o) n k∧(∀j:Nat,j<k→¬Uw (ol o) n j)∧st.env 4=.v (.int .i64 (if gx (0:Int) (ol o) k<0∨n≤gx (0:Int) (ol o) k then 3 else 8)))∨(e=.exit 0∧∀j:Nat,j<(ol o).length→¬Uw (ol o) n j)) (ol o).length ?step ?start ?rest
 case step =>
  rintro m st ⟨k,hI,hj,hk,hm⟩
  by_cases aY:(k:Int)<(ol o).length
  ·have q0:(0:Int)≤k:=by omega
   have hw:IntKind.i64.wrap ((k:Int)+1)=((k+1:Nat):Int):=by rw[mT _ (by omega) (by omega)];omega
   by_cases h1:gx (0:Int) (ol o) k<0
   ·apply oT (.ret)
    ·simp only[Z8,seval,hI,aY,q0,h1];rfl
    ·exact .inl ⟨rfl,k,by omega,.inl h1,hj,by simp only[E8,seval,h1,true_or]⟩
   by_cases h2:n≤gx (0:Int) (ol o) k
   ·apply oT (.ret)
    ·simp only[Z8,seval,hI,aY,q0,h1,h2];rfl
    ·exact .inl ⟨rfl,k,by omega,.inr (.inl h2),hj,by simp only[E8,seval,h2,or_true]⟩
   by_cases h3:(0:Int)<k
   ·have q1:(0:Int)≤(k:Int)-1:=by omega
    have q2:(k:Int)-1<(ol o).length:=by omega
    have ZW:IntKind.i64.wrap ((k:Int)-1)=(k:Int)-1:=by rw[mT _ (by omega) (by omega)]
    by_cases h4:gx (0:Int) (ol o) k≤gx (0:Int) (ol o) ((k:Int)-1)
    ·apply oT (.ret)
     ·simp only[Z8,seval,hI,aY,q0,q1,q2,ZW,h1,h2,h3,h4];rfl
     ·exact .inl ⟨rfl,k,by omega,.inr (.inr ⟨by omega,h4⟩),hj,by simp only[E8,seval,h1,h2,or_self]⟩
    ·apply oN ((ol o).length-(k+1))
     ·simp only[Z8,seval,hI,aY,q0,q1,q2,ZW,h1,h2,h3,h4,hw];rfl
     ·exact⟨k+1,by simp only[E8,seval,hI],fun j h=>(Nat.lt_succ_iff_lt_or_eq.1 h).elim (hj j) fun e=>by subst e;unfold Uw;simp only[h1,h2,h4,and_false,or_self,not_false_eq_true],by omega,rfl⟩
   ·have h5:¬(0<k):=by omega
    apply oN ((ol o).length-(k+1))
    ·simp only[Z8,seval,hI,aY,q0,h1,h2,h3,hw];rfl
    ·exact⟨k+1,by simp only[E8,seval,hI],fun j h=>(Nat.lt_succ_iff_lt_or_eq.1 h).elim (hj j) fun e=>by subst e;unfold Uw;simp only[h1,h2,h5,false_and,or_self,not_false_eq_true],by omega,rfl⟩
  ·apply oT (.exit 0)
   ·simp only[Z8,seval,hI,aY];rfl
   ·exact .inr ⟨rfl,fun j h=>hj j (by omega)⟩
 case start=>exact⟨0,by simp only[E8,seval]<;>rfl,fun j h=>by omega,by omega,by omega⟩
 case rest =>
  rintro e st (⟨rfl,k,hk,hh,hj,h⟩|⟨rfl,hj⟩)
  ·have hv:BY (ol o) n=if gx (0:Int) (ol o) k<0∨n≤gx (0:Int) (ol o) k then 3 else 8:=by
    unfold BY;rw[if_neg h0,Bk hh hj _ hk,if_neg (by omega)]
   rw[← hv] at h;simp only[Z8,seval];exact⟨_,bQ rfl (by simp only[E8,seval,h]<;>rfl) (by first|exact .v _|simp only[dU,h]),rfl⟩
  ·have hv:BY (ol o) n=0:=by
    unfold BY;rw[if_neg h0,tL _ hj,if_pos (by omega)]
   simp only[Z8,seval];exact⟨_,bQ rfl (by simp only[E8,seval,hv]<;>rfl) (by first|exact .v _|simp only[dU,hv]),rfl⟩
theorem aCL (a b:Int):(CG a b).2≠21:=by unfold CG;split<;>simp
theorem US (l:List Int) (n:Int):BY l n≠21:=by unfold BY;split;simp;split;simp;split<;>simp
theorem aLn (o:Option (List Int)) (hn:((ol o).length:Int)<1000000):∃r,aB Tryz.prog 175 [ov bK o]=some r∧∃a e:Int,r=.eG [.v (.int .u64 a),.v (.int .i64 e)]∧e≠21:=by
 rw[cL Tryz.func175 rfl aFn (by cases o<;>rfl)]
 simp only[Z8,seval];refine cC (fun m st=>∃(k:Nat) (a:Int),(st.env 0=ov bK o∧st.env 4=.v (.int .u64 a)∧st.env 5=.v (.int .i64 k))∧k≤(ol o).length∧m=(ol o).length-k)
  (fun e st=>(e=.ret∧∃a e:Int,st.env 2=.v (.int .u64 a)∧st.env 3=.v (.int .i64 e)∧e≠21)∨(e=.exit 0∧∃a:Int,st.env 4=.v (.int .u64 a))) (ol o).length ?step ?start ?rest
 case step =>
  rintro m st ⟨k,a,hI,hk,hm⟩
  by_cases aY:(k:Int)<(ol o).length
  ·have q0:(0:Int)≤k:=by omega
   have hw:IntKind.i64.wrap ((k:Int)+1)=((k+1:Nat):Int):=by rw[mT _ (by omega) (by omega)];omega
   by_cases h1:(CG a (gx (0:Int) (ol o) k)).2=0
   ·apply oN ((ol o).length-(k+1))
    ·simp only[Z8,seval,hI,aY,q0,aGt,dE,h1,hw];rfl
    ·exact⟨k+1,_,by simp only[E8,seval,hI]<;>rfl,by omega,rfl⟩
   ·apply oT (.ret)
    ·simp only[Z8,seval,hI,aY,q0,aGt,dE,bf h1];rfl
    ·exact .inl ⟨rfl,_,_,by simp only[E8,seval]<;>rfl,by simp only[E8,seval]<;>rfl,aCL _ _⟩
  ·apply oT (.exit 0)
   ·simp only[Z8,seval,hI,aY];rfl
   ·exact .inr ⟨rfl,a,by simp only[E8,seval,hI]⟩
 case start=>exact⟨0,0,by simp only[E8,seval]<;>exact⟨rfl,rfl⟩,by omega,by omega⟩
 case rest =>
  rintro e st (⟨rfl,a,e,h,h',gP⟩|⟨rfl,a,h⟩)
  ·simp only[Z8,seval];exact⟨_,dN rfl rfl rfl (by simp only[E8,seval,h,h']<;>rfl) (by simp only[E8,seval,h,h']<;>rfl),_,_,rfl,gP⟩
  ·simp only[Z8,seval,h];exact⟨_,dN rfl rfl rfl (by simp only[E8,seval,h]<;>rfl) (by simp only[E8,seval,h]<;>rfl),_,_,rfl,by decide⟩
theorem aFo (t:Table) (b:Option (List Int)) (hb:t.iP=ov bK b) (hl:((ol b).length:Int)<1000000) (n:Int):∃r,aB Tryz.prog 130 [.agg (cA t),.v (.int .i64 n)]=some r∧∃e:Int,r=.v (.int .i64 e)∧e≠21∧(e=0→((ol b).length:Int)=n):=by
 obtain⟨r,hr,a,e,rfl,he⟩:=aLn b hl
 have F0:=kx hr (cU (dY b)) (.eG _ (bE (.v _) (.v _)))
 rw[cL Tryz.func130 rfl aFp rfl];by_cases h1:((ol b).length:Int)=n
 ·by_cases h2:e=0
  ·by_cases h3:4611686018427387904<a
   all_goals
    simp only[Z8,seval,hb,bt h1,bt h2,h3,F0,dE];exact⟨_,bQ rfl (by simp only[E8,seval]<;>rfl) (by first|exact .v _|simp only[dU]),_,rfl,by decide,fun _=>h1⟩
  ·simp only[Z8,seval,hb,bt h1,bf h2,F0,dE];exact⟨_,bQ rfl (by simp only[E8,seval]<;>rfl) (by first|exact .v _|simp only[dU]),_,rfl,by decide,fun _=>h1⟩
 ·simp only[Z8,seval,hb,bf h1];exact⟨_,bQ rfl (by simp only[E8,seval]<;>rfl) (by first|exact .v _|simp only[dU]),_,rfl,by decide,fun h=>by cases h⟩
theorem aQH (t:Table) (ht:qN t) (n:Int):∃r,aB Tryz.prog 130 [.agg (cA t),.v (.int .i64 n)]=some r∧∃e:Int,r=.v (.int .i64 e)∧e≠21:=by
 obtain⟨b,hb,hl⟩:=ht
 obtain⟨r,hr,e,h1,h2,_⟩:=aFo t b hb hl n
 exact⟨r,hr,e,h1,h2⟩
theorem aGJ (a b:dP):∃r,aB Tryz.prog 131 [.agg (aW a),.agg (aW b)]=some r∧∃e:Int,r=.v (.int .i64 e):=by
 rw[cL Tryz.func131 rfl aLo rfl];by_cases h1:a.aE=b.aE
 ·simp only[Z8,seval,bt h1,aGH];exact⟨_,bQ rfl (by simp only[E8,seval]<;>rfl) (by first|exact .v _|simp only[dU]),_,rfl⟩
 ·by_cases h2:a.aE<b.aE
  all_goals
   simp only[Z8,seval,bf h1,h2];exact⟨_,bQ rfl (by simp only[E8,seval]<;>rfl) (by first|exact .v _|simp only[dU]),_,rfl⟩
noncomputable def aLp (a b:dP):Int:=Classical.choose (Classical.choose_spec (aGJ a b)).2
theorem aLq (a b:dP) (st:St) (d:Option Nat):aM (aB Tryz.prog) 131 [.agg (aW a),.agg (aW b)] st d=some { dst:=d,val:=.v (.int .i64 (aLp a b))}:=by
 have h:=(Classical.choose_spec (aGJ a b)).1
 rw[Classical.choose_spec (Classical.choose_spec (aGJ a b)).2] at h;exact bC (bE (.agg _ (bM a)) (.agg _ (bM b))) h (.v _)
def KnB (v:SV) (r:cN):Prop:=(∃j:Nat,j<(ol v.O).length∧(gx eA (ol v.O) j).root=r)∨0≤aN v.ns r
theorem c54 {s:aL} {v:SV} (hs:SD s v) (r:cN):aB Tryz.prog 54 [.agg (aA s),.agg (bF r)]=some (.v (.bool (decide (KnB v r)))):=by
 have hn:=hs.nO
 rw[cL Tryz.func54 rfl aQI rfl];refine gX ?_
 simp only[Z8,seval,hs.bN];refine cC (fun m st=>∃k:Nat,(st.env 2=.ptr 2 0 0∧st.heap 2 0=some (.cells (aA s))∧st.env 3=.ptr 3 0 0∧st.heap 3 0=some (.cells (bF r))∧st.env 5=.v (.int .i64 k))∧(∀j:Nat,j<k→¬((gx eA (ol v.O) (j:Int)).root=r))∧k≤(ol v.O).length∧m=(ol v.O).length-k)
  (fun e st=>(e=.ret∧∃k:Nat,k<(ol v.O).length∧((gx eA (ol v.O) (k:Int)).root=r)∧(∀j:Nat,j<k→¬((gx eA (ol v.O) (j:Int)).root=r))∧st.env 4=.v (.bool true))∨(e=.exit 0∧(∀j:Nat,j<(ol v.O).length→¬((gx eA (ol v.O) (j:Int)).root=r))∧st.env 2=.ptr 2 0 0∧st.heap 2 0=some (.cells (aA s))∧st.env 3=.ptr 3 0 0∧st.heap 3 0=some (.cells (bF r)))) ((ol v.O).length) ?step ?start ?rest
 case step =>
  rintro m st ⟨k,hI,hj,hk,hm⟩
  by_cases aY:(k:Int)<(ol v.O).length
  ·have q0:(0:Int)≤k:=by omega
   have hw:IntKind.i64.wrap ((k:Int)+1)=((k+1:Nat):Int):=by rw[mT _ (by omega) (by omega)];omega
   by_cases hh:(gx eA (ol v.O) (k:Int)).root=r
   ·apply oT (.ret)
    ·simp only[Z8,seval,hI,aY,q0,hs.bN,hh];rfl
    ·exact .inl ⟨rfl,k,by omega,hh,hj,by simp only[E8,seval,hs.bN]⟩
   ·apply oN ((ol v.O).length-(k+1))
    ·simp only[Z8,seval,hI,aY,q0,hs.bN,hh,hw];rfl
    ·exact⟨k+1,by simp only[E8,seval,hI],fun j h=>(Nat.lt_succ_iff_lt_or_eq.1 h).elim (hj j) fun e=>by subst e;exact hh,by omega,rfl⟩
  ·apply oT (.exit 0)
   ·simp only[Z8,seval,hI,aY,hs.bN];rfl
   ·exact .inr ⟨rfl,fun j h=>hj j (by omega),by simp only[E8,seval,hI]⟩
 case start=>exact⟨0,by simp only[E8,seval]<;>rfl,fun j h=>by omega,by omega,by omega⟩
 case rest =>
  rintro e st (⟨rfl,k,hk,hh,hj,h⟩|⟨rfl,hj,hI⟩)
  ·have hv:decide (KnB v r)=true:=decide_eq_true (.inl ⟨k,hk,hh⟩)
   simp only[Z8,seval];exact⟨_,bQ rfl (by simp only[E8,seval,h]<;>rfl) (by first|exact .v _|simp only[dU,h]),by rw[hv]⟩
  ·have hv:decide (KnB v r)=decide (0≤aN v.ns r):=by
    refine decide_eq_decide.2 ⟨fun h=>h.elim (fun ⟨j,hj1,hj2⟩=>absurd hj2 (hj j hj1)) id,.inr⟩
   simp only[Z8,seval,hI,hs.tree,mS _ _ hs.nn];exact⟨_,bQ rfl (by simp only[E8,seval]<;>rfl) (by first|exact .v _|simp only[dU]),by rw[hv]⟩
theorem S4 {s:aL} {v:SV} (hs:SD s v) (r:cN) (st:St) (d:Option Nat):aM (aB Tryz.prog) 54 [.agg (aA s),.agg (bF r)] st d=some { dst:=d,val:=.v (.bool (decide (KnB v r)))}:=bC (bE hs.flat (qU r)) (c54 hs r) (.v _)
def HJ (s:aL) (a:sG):Prop:=a.target.aE≠wH s a.slot∨(a.target.aE≠wH s s.now∧(wH s s.now=0∨a.target.aE≠IntKind.u64.wrap (wH s s.now-1)))
noncomputable def Gy (s:aL) (v:SV) (a:sG) (V:List Int):Bool × Int :=
 if BY V (ol v.B).length≠0 then (false,BY V (ol v.B).length) else
 if HJ s a then (false,18) else
 if aN v.ns a.root<0 then (false,10) else
 if aN v.ns a.target.root<0 then (false,10) else
 if a.slot<(nd v.ns (aN v.ns a.root)).block.slot then (false,14) else
 if Fz v.ns (aN v.ns a.root) (sH s a.target.aE).1≠aN v.ns a.target.root then (false,19) else (decide (s.now≤a.slot),0)
theorem c39 {s:aL} {v:SV} (hs:SD s v) (hu:gL v.ns) (hp:s.cFg.jL≠0) (a:sG) (o:Option (List Int)) (hV:a.eZ=ov aK o) (hl:((ol o).length:Int)<1000000) :
 aB Tryz.prog 39 [.agg (aA s),.agg (iD a)]=some (.eG [.v (.bool (Gy s v a (ol o)).1),.v (.int .i64 (Gy s v a (ol o)).2)]):=by
 have hf:=hs.flat
 have LS:=fun n=>kx (c40 o hl n) (bE (bX o) (.v _)) (.v _)
 rw[cL Tryz.func39 rfl aQJ rfl];refine gX ?_
 have r1:=eQ v.ns a.root
 by_cases g1:BY (ol o) (ol v.B).length=0
 case neg =>
  have hv:Gy s v a (ol o)=(false,BY (ol o) (ol v.B).length):=by simp only[Gy,ne_eq,g1,not_false_eq_true,if_true]
  simp only[Z8,seval,hV,Xv hs,LS,bf g1];exact⟨_,dN rfl rfl rfl (by simp only[E8,seval]<;>rfl) (by simp only[E8,seval]<;>rfl),by rw[hv]⟩
 have UT:HJ s a→Gy s v a (ol o)=(false,18):=fun g=>by simp only[Gy,ne_eq,g1,not_true_eq_false,if_false,g,if_true]
 by_cases g2:a.target.aE=wH s a.slot
 case neg =>
  have hv:=UT (.inl g2)
  simp only[Z8,seval,hV,Xv hs,LS,bt g1,Nf s hp hf,bf g2];exact⟨_,dN rfl rfl rfl (by simp only[E8,seval]<;>rfl) (by simp only[E8,seval]<;>rfl),by rw[hv]⟩
 by_cases g3:a.target.aE=wH s s.now
 case neg =>
  by_cases g4:wH s s.now=0
  ·have hv:=UT (.inr ⟨g3,.inl g4⟩)
   simp only[Z8,seval,hV,Xv hs,LS,bt g1,Nf s hp hf,bt g2,bf g3,bt g4];exact⟨_,dN rfl rfl rfl (by simp only[E8,seval]<;>rfl) (by simp only[E8,seval]<;>rfl),by rw[hv]⟩
  by_cases g5:a.target.aE=IntKind.u64.wrap (wH s s.now-1)
  case neg =>
   have hv:=UT (.inr ⟨g3,.inr g5⟩)
   simp only[Z8,seval,hV,Xv hs,LS,bt g1,Nf s hp hf,bt g2,bf g3,bf g4,bf g5];exact⟨_,dN rfl rfl rfl (by simp only[E8,seval]<;>rfl) (by simp only[E8,seval]<;>rfl),by rw[hv]⟩
  have gb:¬HJ s a:=fun h=>h.elim (fun h=>h g2) fun h=>h.2.elim g4 fun h=>h g5
  by_cases g6:aN v.ns a.root<0
  ·have hv:Gy s v a (ol o)=(false,10):=by simp only[Gy,ne_eq,g1,not_true_eq_false,if_false,gb,g6,if_true]
   simp only[Z8,seval,hV,Xv hs,LS,bt g1,Nf s hp hf,bt g2,bf g3,bf g4,bt g5,hs.tree,mS _ _ hs.nn,g6];exact⟨_,dN rfl rfl rfl (by simp only[E8,seval]<;>rfl) (by simp only[E8,seval]<;>rfl),by rw[hv]⟩
  by_cases g7:aN v.ns a.target.root<0
  ·have hv:Gy s v a (ol o)=(false,10):=by simp only[Gy,ne_eq,g1,not_true_eq_false,if_false,gb,g6,g7,if_true]
   simp only[Z8,seval,hV,Xv hs,LS,bt g1,Nf s hp hf,bt g2,bf g3,bf g4,bt g5,hs.tree,mS _ _ hs.nn,g6,g7];exact⟨_,dN rfl rfl rfl (by simp only[E8,seval]<;>rfl) (by simp only[E8,seval]<;>rfl),by rw[hv]⟩
  have q0:0≤aN v.ns a.root:=by omega
  by_cases g8:a.slot<(nd v.ns (aN v.ns a.root)).block.slot
  ·have hv:Gy s v a (ol o)=(false,14):=by simp only[Gy,ne_eq,g1,not_true_eq_false,if_false,gb,g6,g7,g8,if_true]
   simp only[Z8,seval,hV,Xv hs,LS,bt g1,Nf s hp hf,bt g2,bf g3,bf g4,bt g5,hs.tree,mS _ _ hs.nn,g6,g7,q0,r1,g8];exact⟨_,dN rfl rfl rfl (by simp only[E8,seval]<;>rfl) (by simp only[E8,seval]<;>rfl),by rw[hv]⟩
  by_cases g9:Fz v.ns (aN v.ns a.root) (sH s a.target.aE).1=aN v.ns a.target.root
  ·have hv:Gy s v a (ol o)=(decide (s.now≤a.slot),0):=by simp only[Gy,ne_eq,g1,not_true_eq_false,if_false,gb,g6,g7,g8,g9]
   simp only[Z8,seval,hV,Xv hs,LS,bt g1,Nf s hp hf,bt g2,bf g3,bf g4,bt g5,hs.tree,mS _ _ hs.nn,g6,g7,q0,r1,g8,Wa s hf,dE,MG _ hu hs.nn,bt g9];exact⟨_,dN rfl rfl rfl (by simp only[E8,seval]<;>rfl) (by simp only[E8,seval]<;>rfl),by rw[hv]⟩
  ·have hv:Gy s v a (ol o)=(false,19):=by simp only[Gy,ne_eq,g1,not_true_eq_false,if_false,gb,g6,g7,g8,g9,not_false_eq_true,if_true]
   simp only[Z8,seval,hV,Xv hs,LS,bt g1,Nf s hp hf,bt g2,bf g3,bf g4,bt g5,hs.tree,mS _ _ hs.nn,g6,g7,q0,r1,g8,Wa s hf,dE,MG _ hu hs.nn,bf g9];exact⟨_,dN rfl rfl rfl (by simp only[E8,seval]<;>rfl) (by simp only[E8,seval]<;>rfl),by rw[hv]⟩
 have gb:¬HJ s a:=fun h=>h.elim (fun h=>h g2) fun h=>h.1 g3
 by_cases g6:aN v.ns a.root<0
 ·have hv:Gy s v a (ol o)=(false,10):=by simp only[Gy,ne_eq,g1,not_true_eq_false,if_false,gb,g6,if_true]
  simp only[Z8,seval,hV,Xv hs,LS,bt g1,Nf s hp hf,bt g2,bt g3,hs.tree,mS _ _ hs.nn,g6];exact⟨_,dN rfl rfl rfl (by simp only[E8,seval]<;>rfl) (by simp only[E8,seval]<;>rfl),by rw[hv]⟩
 by_cases g7:aN v.ns a.target.root<0
 ·have hv:Gy s v a (ol o)=(false,10):=by simp only[Gy,ne_eq,g1,not_true_eq_false,if_false,gb,g6,g7,if_true]
  simp only[Z8,seval,hV,Xv hs,LS,bt g1,Nf s hp hf,bt g2,bt g3,hs.tree,mS _ _ hs.nn,g6,g7];exact⟨_,dN rfl rfl rfl (by simp only[E8,seval]<;>rfl) (by simp only[E8,seval]<;>rfl),by rw[hv]⟩
 have q0:0≤aN v.ns a.root:=by omega
 by_cases g8:a.slot<(nd v.ns (aN v.ns a.root)).block.slot
 ·have hv:Gy s v a (ol o)=(false,14):=by simp only[Gy,ne_eq,g1,not_true_eq_false,if_false,gb,g6,g7,g8,if_true]
  simp only[Z8,seval,hV,Xv hs,LS,bt g1,Nf s hp hf,bt g2,bt g3,hs.tree,mS _ _ hs.nn,g6,g7,q0,r1,g8];exact⟨_,dN rfl rfl rfl (by simp only[E8,seval]<;>rfl) (by simp only[E8,seval]<;>rfl),by rw[hv]⟩
 by_cases g9:Fz v.ns (aN v.ns a.root) (sH s a.target.aE).1=aN v.ns a.target.root
 ·have hv:Gy s v a (ol o)=(decide (s.now≤a.slot),0):=by simp only[Gy,ne_eq,g1,not_true_eq_false,if_false,gb,g6,g7,g8,g9]
  simp only[Z8,seval,hV,Xv hs,LS,bt g1,Nf s hp hf,bt g2,bt g3,hs.tree,mS _ _ hs.nn,g6,g7,q0,r1,g8,Wa s hf,dE,MG _ hu hs.nn,bt g9];exact⟨_,dN rfl rfl rfl (by simp only[E8,seval]<;>rfl) (by simp only[E8,seval]<;>rfl),by rw[hv]⟩
 ·have hv:Gy s v a (ol o)=(false,19):=by simp only[Gy,ne_eq,g1,not_true_eq_false,if_false,gb,g6,g7,g8,g9,not_false_eq_true,if_true]
  simp only[Z8,seval,hV,Xv hs,LS,bt g1,Nf s hp hf,bt g2,bt g3,hs.tree,mS _ _ hs.nn,g6,g7,q0,r1,g8,Wa s hf,dE,MG _ hu hs.nn,bf g9];exact⟨_,dN rfl rfl rfl (by simp only[E8,seval]<;>rfl) (by simp only[E8,seval]<;>rfl),by rw[hv]⟩
theorem UU (ns:List Node) (s:Int) (l:List Int):zI ns s l=-1∨zI ns s l∈l:=by
 suffices h:∀(l:List Int) (a:Int),l.foldl (fun r x=>if (nd ns x).block.slot≤s then x else r) a=a∨l.foldl (fun r x=>if (nd ns x).block.slot≤s then x else r) a∈l from h l (-1)
 intro l;induction l with
 | nil=>exact fun a=>.inl rfl
 | cons x l ih =>
   intro a;rw[List.foldl_cons];split
   ·rcases ih x with h|h
    ·exact .inr (by rw[h];simp)
    ·exact .inr (by simp[h])
   ·rcases ih a with h|h
    ·exact .inl h
    ·exact .inr (by simp[h])
theorem Rh {ns:List Node} (hu:gL ns) (i s:Int):-1≤Fz ns i s∧Fz ns i s<ns.length∧Fz ns i s≤max i (-1):=by
 by_cases hi:0≤i∧i<ns.length
 ·rcases UU ns s (path ns i) with h|h
  ·rw[show Fz ns i s=-1 from h];omega
  ·have:=Nv hu i.toNat i rfl hi.1 hi.2 _ h
   rw[show Fz ns i s=zI ns s (path ns i) from rfl];omega
 ·rw[Nw s hi];omega
noncomputable def elC {α:Type} (x:AV) (k:dP→Option α) (fb:Option α):Option α:=if h:∃c,x=.agg (aW c) then k (Classical.choose h) else fb
theorem aFr {α:Type} (c:dP) (k:dP→Option α) (fb:Option α):elC (.agg (aW c)) k fb=k c:=by
 unfold elC;have h:∃c',AV.agg (aW c)=.agg (aW c'):=⟨c,rfl⟩
 rw[dif_pos h];have:=Classical.choose_spec h
 injection this with h2
 rw[← (mY _ _).1 h2]
@[congr] theorem aJR {α:Type} {x y:AV} {k:dP→Option α} {fb:Option α} (h:x=y):elC x k fb=elC y k fb:=by rw[h]
theorem S5 {call:Nat→List AV→Option AV} {ops:Array Oper} {st:St} {T:Nat} {pos:String} {eU:Array Edge} (d:Nat) (x y z w:Operand) :
 cI Tryz.prog call ops ⟨some d,.buildSlice 109 4 #[(0,x),(1,y),(2,z),(3,w)],T,pos,eU,none⟩ st =
  elC (st.ev x) (fun a=>elC (st.ev y) (fun b=>elC (st.ev z) (fun c=>elC (st.ev w) (fun e=>some ((st.new d (.row 41 33 [a,b,c,e].length (nP [a,b,c,e]))).put (some d) (.own d (st.aT d))))
   (cI Tryz.prog call ops ⟨some d,.buildSlice 109 4 #[(0,x),(1,y),(2,z),(3,w)],T,pos,eU,none⟩ st)) (cI Tryz.prog call ops ⟨some d,.buildSlice 109 4 #[(0,x),(1,y),(2,z),(3,w)],T,pos,eU,none⟩ st))
   (cI Tryz.prog call ops ⟨some d,.buildSlice 109 4 #[(0,x),(1,y),(2,z),(3,w)],T,pos,eU,none⟩ st)) (cI Tryz.prog call ops ⟨some d,.buildSlice 109 4 #[(0,x),(1,y),(2,z),(3,w)],T,pos,eU,none⟩ st):=by
 unfold elC;split
 ·rename_i h1;have h1c:=h1
  obtain⟨a,ER⟩:=h1c
  have e1:Classical.choose h1=a:=by have:=(Classical.choose_spec h1).symm.trans ER;injection this with t;exact (mY _ _).1 t
  rw[e1];split
  ·rename_i h2;have h2c:=h2
   obtain⟨b,h2'⟩:=h2c
   have e2:Classical.choose h2=b:=by have:=(Classical.choose_spec h2).symm.trans h2';injection this with t;exact (mY _ _).1 t
   rw[e2];split
   ·rename_i h3;have h3c:=h3
    obtain⟨c,h3'⟩:=h3c
    have e3:Classical.choose h3=c:=by have:=(Classical.choose_spec h3).symm.trans h3';injection this with t;exact (mY _ _).1 t
    rw[e3];split
    ·rename_i h4;have h4c:=h4
     obtain⟨e,O7⟩:=h4c
     have e4:Classical.choose h4=e:=by have:=(Classical.choose_spec h4).symm.trans O7;injection this with t;exact (mY _ _).1 t
     rw[e4,kZ,MZ];have hz:((List.range 4).flatMap fun _=>zS.map AV.v)=nP [fV,fV,fV,fV]:=by rw[Bl];rfl
     have u0:=Of [fV,fV,fV,fV] 0 a (by simp)
     have u1:=Of [a,fV,fV,fV] 1 b (by simp)
     have u2:=Of [a,b,fV,fV] 2 c (by simp)
     have u3:=Of [a,b,c,fV] 3 e (by simp)
     simp only[Int.reduceToNat,Nat.reduceMul,Nat.reduceAdd,List.set_cons_zero,List.set_cons_succ,List.set] at u0 u1 u2 u3;simp only[cO,aGK,List.toList_toArray,List.map_cons,List.map_nil,List.all_cons,List.all_nil,ER,h2',h3',O7,AV.jD,Bool.and_self,FN,NA,AV.cells,bR,Xy,hz,List.length_cons,List.length_nil,Nat.reduceMul,Nat.reduceAdd,Nat.reducePow,Nat.reduceLeDiff,Nat.reduceLT,true_or,true_and,and_true,and_self,if_true,↓reduceIte,u0,u1,u2,u3,Nat.zero_le,Nat.le_refl]
    ·rfl
   ·rfl
  ·rfl
 ·rfl
def Xz (s:aL) (v:SV) (b:Block) (c:dP):Prop:=c.aE≤s.aU.fin.aE∨(if (sH s c.aE).1<b.slot then 0≤Fz v.ns (aN v.ns b.parent) (sH s c.aE).1∧(nd v.ns (Fz v.ns (aN v.ns b.parent) (sH s c.aE).1)).block.root=c.root else b.root=c.root)
def sK (b:Block):List dP:=[b.gD,b.fin,b.cV.pj,b.cV.pf]
def Lt (s:aL) (v:SV) (b:Block):Prop:=0≤aN v.ns b.parent∧HG s b∧∀j:Nat,j<4→Xz s v b (gx fV (sK b) j)
theorem c69 {s:aL} {v:SV} (hs:SD s v) (hu:gL v.ns) (hp:s.cFg.jL≠0) (b:Block):aB Tryz.prog 69 [.agg (aA s),.agg (aP b)]=some (.v (.bool (decide (Lt s v b)))):=by
 have hf:=hs.flat
 rw[cL Tryz.func69 rfl aQK rfl];refine gX ?_
 have r1:=eQ v.ns b.parent
 by_cases g1:aN v.ns b.parent<0
 ·have hv:decide (Lt s v b)=false:=decide_eq_false (fun h=>by have:=h.1;omega)
  simp only[Z8,seval,hs.tree,mS _ _ hs.nn,g1];exact⟨_,bQ rfl (by simp only[E8,seval]<;>rfl) (by first|exact .v _|simp only[dU]),by rw[hv]⟩
 by_cases g2:HG s b
 case neg =>
  have hv:decide (Lt s v b)=false:=decide_eq_false (fun h=>g2 h.2.1)
  simp only[Z8,seval,hs.tree,mS _ _ hs.nn,g1,aK8 s hp hf,g2];exact⟨_,bQ rfl (by simp only[E8,seval]<;>rfl) (by first|exact .v _|simp only[dU]),by rw[hv]⟩
 simp only[Z8,seval,hs.tree,mS _ _ hs.nn,g1,aK8 s hp hf,g2,S5,aFr];have h4:(sK b).length=4:=rfl
 refine cC (fun m st=>∃k:Nat,(st.env 2=.ptr 2 0 0∧st.heap 2 0=some (.cells (aA s))∧st.env 3=.ptr 3 0 0∧st.heap 3 0=some (.cells (aP b))∧st.env 5=.v (.int .i64 (aN v.ns b.parent))∧st.env 6=.own 33 0∧st.heap 33 0=some (.row 41 33 (sK b).length (nP (sK b)))∧st.env 7=.v (.int .i64 k))∧(∀j:Nat,j<k→Xz s v b (gx fV (sK b) j))∧k≤4∧m=4-k)
  (fun e st=>(e=.ret∧st.env 4=.v (.bool false)∧∃j:Nat,j<4∧¬Xz s v b (gx fV (sK b) j))∨(e=.exit 0∧∀j:Nat,j<4→Xz s v b (gx fV (sK b) j))) 4 ?step ?start ?rest
 case step =>
  rintro m st ⟨k,hI,hj,hk,hm⟩
  by_cases Dc:k<4
  ·have aY:(k:Int)<(sK b).length:=by rw[h4];omega
   have q0:(0:Int)≤k:=by omega
   have hw:IntKind.i64.wrap ((k:Int)+1)=((k+1:Nat):Int):=by rw[mT _ (by omega) (by omega)];omega
   obtain⟨c,hc⟩:∃c,gx fV (sK b) k=c:=⟨_,rfl⟩
   have ra:=Rh hu (aN v.ns b.parent) (sH s c.aE).1
   have ld:∀T kk off,sL Tryz.prog T=some kk→0<kk→off+kk≤33→rE Tryz.prog T (some (.row 41 33 (sK b).length (nP (sK b)))) ((k:Int).toNat * 33+off)=fB Tryz.prog T (aW c) off:=fun T kk off h1 h2 h3=>by rw[HK q0 aY h1 h2 h3,hc]
   have ld0:∀T kk,sL Tryz.prog T=some kk→0<kk→kk≤33→rE Tryz.prog T (some (.row 41 33 (sK b).length (nP (sK b)))) ((k:Int).toNat * 33)=fB Tryz.prog T (aW c) 0:=fun T kk h1 h2 h3=>by rw[HL q0 aY h1 h2 h3,hc]
   have nxt:Xz s v b c→∀j:Nat,j<k+1→Xz s v b (gx fV (sK b) j):=fun h j O6=>(Nat.lt_succ_iff_lt_or_eq.1 O6).elim (hj j) fun e=>by subst e;rw[hc];exact h
   have TJ:=ld0 23 1 UW (by decide) (by decide)
   have ld2:=ld 27 32 1 aLr (by decide) (by decide)
   have cl:∀i:Int,(k:Int)<4:=fun _=>by omega
   have hl4:(k:Int)<((sK b).length:Int):=aY
   by_cases h1:c.aE≤s.aU.fin.aE
   ·apply oN (4-(k+1))
    ·simp only[Z8,seval,hI,aY,q0,TJ,ld2,h1,hw];rfl
    ·exact⟨k+1,by simp only[E8,seval,hI],nxt (.inl h1),by omega,rfl⟩
   by_cases h2:(sH s c.aE).1<b.slot
   ·by_cases h3:Fz v.ns (aN v.ns b.parent) (sH s c.aE).1<0
    ·apply oT (.ret)
     ·simp only[Z8,seval,hI,aY,q0,TJ,ld2,h1,h2,h3,Wa s hf,dE,hs.tree,MG _ hu hs.nn];rfl
     ·exact .inl ⟨rfl,by simp only[E8,seval],k,Dc,by rw[hc];exact fun h=>h.elim h1 fun h=>by rw[if_pos h2] at h;omega⟩
    have q3:0≤Fz v.ns (aN v.ns b.parent) (sH s c.aE).1:=by omega
    by_cases O7:(nd v.ns (Fz v.ns (aN v.ns b.parent) (sH s c.aE).1)).block.root=c.root
    ·apply oN (4-(k+1))
     ·simp only[Z8,seval,hI,aY,q0,TJ,ld2,h1,h2,h3,Wa s hf,dE,hs.tree,MG _ hu hs.nn,q3,ra,O7,hw];rfl
     ·exact⟨k+1,by simp only[E8,seval,hI],nxt (.inr (by rw[if_pos h2];exact⟨q3,O7⟩)),by omega,rfl⟩
    ·apply oT (.ret)
     ·simp only[Z8,seval,hI,aY,q0,TJ,ld2,h1,h2,h3,Wa s hf,dE,hs.tree,MG _ hu hs.nn,q3,ra,O7];rfl
     ·exact .inl ⟨rfl,by simp only[E8,seval],k,Dc,by rw[hc];exact fun h=>h.elim h1 fun h=>by rw[if_pos h2] at h;exact O7 h.2⟩
   ·by_cases O7:b.root=c.root
    ·apply oN (4-(k+1))
     ·simp only[Z8,seval,hI,aY,q0,TJ,ld2,h1,h2,Wa s hf,dE,O7,hw];rfl
     ·exact⟨k+1,by simp only[E8,seval,hI],nxt (.inr (by rw[if_neg h2];exact O7)),by omega,rfl⟩
    ·apply oT (.ret)
     ·simp only[Z8,seval,hI,aY,q0,TJ,ld2,h1,h2,Wa s hf,dE,O7];rfl
     ·exact .inl ⟨rfl,by simp only[E8,seval],k,Dc,by rw[hc];exact fun h=>h.elim h1 fun h=>by rw[if_neg h2] at h;exact O7 h⟩
  ·have aY:¬((k:Int)<(sK b).length):=by rw[h4];omega
   apply oT (.exit 0)
   ·simp only[Z8,seval,hI,aY];rfl
   ·exact .inr ⟨rfl,fun j h=>hj j (by omega)⟩
 case start=>exact⟨0,by simp only[E8,seval]<;>rfl,fun j h=>by omega,by omega,by omega⟩
 case rest =>
  rintro e st (⟨rfl,h,j,hj,hn⟩|⟨rfl,h⟩)
  ·have hv:decide (Lt s v b)=false:=decide_eq_false (fun h=>hn (h.2.2 j hj))
   simp only[Z8,seval];exact⟨_,bQ rfl (by simp only[E8,seval,h]<;>rfl) (by first|exact .v _|simp only[dU,h]),by rw[hv]⟩
  ·have hv:decide (Lt s v b)=true:=decide_eq_true ⟨by omega,g2,h⟩
   simp only[Z8,seval];exact⟨_,bQ rfl (by simp only[E8,seval]<;>rfl) (by first|exact .v _|simp only[dU]),by rw[hv]⟩
theorem O8 {s:aL} {v:SV} (hs:SD s v) (hu:gL v.ns) (hp:s.cFg.jL≠0) (b:Block) (st:St) (d:Option Nat):aM (aB Tryz.prog) 69 [.agg (aA s),.agg (aP b)] st d=some { dst:=d,val:=.v (.bool (decide (Lt s v b)))}:=bC (bE hs.flat (qL b)) (c69 hs hu hp b) (.v _)
noncomputable def Ku (s:aL) (v:SV) (b:Block):Int :=
 if b.root=dV then 2 else if KnB v b.root then 9 else if s.now<b.slot then 12 else if b.slot≤(sH s s.aU.fin.aE).1 then 13 else
 if aN v.ns b.parent<0 then 10 else if b.slot≤(nd v.ns (aN v.ns b.parent)).block.slot then 14 else if (nd v.ns (aN v.ns b.parent)).status=2 then 15 else
 if ¬Lt s v b then 16 else if ¬E9 s.cFg.CI (nd v.ns (aN v.ns b.parent)).block b then 17 else if s.cFg.lK.sM≤(v.ns.length:Int) then 11 else 0
theorem c52 {s:aL} {v:SV} (hs:SD s v) (hu:gL v.ns) (hp:s.cFg.jL≠0) (b:Block):aB Tryz.prog 52 [.agg (aA s),.agg (aP b)]=some (.v (.int .i64 (Ku s v b))):=by
 have hf:=hs.flat
 rw[cL Tryz.func52 rfl aQM rfl];refine gX ?_
 have r1:=eQ v.ns b.parent
 by_cases g1:b.root=dV
 ·simp only[Z8,seval,Wa s hf,dE,S4 hs,hs.tree,mS _ _ hs.nn,O8 hs hu hp,Xx,decide_true,decide_false,g1];exact⟨_,bQ rfl (by simp only[E8,seval]<;>rfl) (by first|exact .v _|simp only[dU]),by simp only[Ku,g1,not_true_eq_false,not_false_eq_true,if_true,if_false]⟩
 by_cases g2:KnB v b.root
 ·simp only[Z8,seval,Wa s hf,dE,S4 hs,hs.tree,mS _ _ hs.nn,O8 hs hu hp,Xx,decide_true,decide_false,g1,g2];exact⟨_,bQ rfl (by simp only[E8,seval]<;>rfl) (by first|exact .v _|simp only[dU]),by simp only[Ku,g1,g2,not_true_eq_false,not_false_eq_true,if_true,if_false]⟩
 by_cases g3:s.now<b.slot
 ·simp only[Z8,seval,Wa s hf,dE,S4 hs,hs.tree,mS _ _ hs.nn,O8 hs hu hp,Xx,decide_true,decide_false,g1,g2,g3];exact⟨_,bQ rfl (by simp only[E8,seval]<;>rfl) (by first|exact .v _|simp only[dU]),by simp only[Ku,g1,g2,g3,not_true_eq_false,not_false_eq_true,if_true,if_false]⟩
 by_cases g4:b.slot≤(sH s s.aU.fin.aE).1
 ·simp only[Z8,seval,Wa s hf,dE,S4 hs,hs.tree,mS _ _ hs.nn,O8 hs hu hp,Xx,decide_true,decide_false,g1,g2,g3,g4];exact⟨_,bQ rfl (by simp only[E8,seval]<;>rfl) (by first|exact .v _|simp only[dU]),by simp only[Ku,g1,g2,g3,g4,not_true_eq_false,not_false_eq_true,if_true,if_false]⟩
 by_cases g5:aN v.ns b.parent<0
 ·simp only[Z8,seval,Wa s hf,dE,S4 hs,hs.tree,mS _ _ hs.nn,O8 hs hu hp,Xx,decide_true,decide_false,g1,g2,g3,g4,g5];exact⟨_,bQ rfl (by simp only[E8,seval]<;>rfl) (by first|exact .v _|simp only[dU]),by simp only[Ku,g1,g2,g3,g4,g5,not_true_eq_false,not_false_eq_true,if_true,if_false]⟩
 have q0:0≤aN v.ns b.parent:=by omega
 by_cases g6:b.slot≤(nd v.ns (aN v.ns b.parent)).block.slot
 ·simp only[Z8,seval,Wa s hf,dE,S4 hs,hs.tree,mS _ _ hs.nn,O8 hs hu hp,Xx,decide_true,decide_false,g1,g2,g3,g4,g5,q0,r1,g6];exact⟨_,bQ rfl (by simp only[E8,seval]<;>rfl) (by first|exact .v _|simp only[dU]),by simp only[Ku,g1,g2,g3,g4,g5,g6,not_true_eq_false,not_false_eq_true,if_true,if_false]⟩
 by_cases g7:(nd v.ns (aN v.ns b.parent)).status=2
 ·simp only[Z8,seval,Wa s hf,dE,S4 hs,hs.tree,mS _ _ hs.nn,O8 hs hu hp,Xx,decide_true,decide_false,g1,g2,g3,g4,g5,q0,r1,g6,bt g7];exact⟨_,bQ rfl (by simp only[E8,seval]<;>rfl) (by first|exact .v _|simp only[dU]),by simp only[Ku,g1,g2,g3,g4,g5,g6,g7,not_true_eq_false,not_false_eq_true,if_true,if_false]⟩
 by_cases g8:¬Lt s v b
 ·simp only[Z8,seval,Wa s hf,dE,S4 hs,hs.tree,mS _ _ hs.nn,O8 hs hu hp,Xx,decide_true,decide_false,g1,g2,g3,g4,g5,q0,r1,g6,bf g7,g8];exact⟨_,bQ rfl (by simp only[E8,seval]<;>rfl) (by first|exact .v _|simp only[dU]),by simp only[Ku,g1,g2,g3,g4,g5,g6,g7,g8,not_true_eq_false,not_false_eq_true,if_true,if_false]⟩
 replace g8:=Classical.not_not.1 g8
 by_cases g9:¬E9 s.cFg.CI (nd v.ns (aN v.ns b.parent)).block b
 ·simp only[Z8,seval,Wa s hf,dE,S4 hs,hs.tree,mS _ _ hs.nn,O8 hs hu hp,Xx,decide_true,decide_false,g1,g2,g3,g4,g5,q0,r1,g6,bf g7,g8,g9];exact⟨_,bQ rfl (by simp only[E8,seval]<;>rfl) (by first|exact .v _|simp only[dU]),by simp only[Ku,g1,g2,g3,g4,g5,g6,g7,g8,g9,not_true_eq_false,not_false_eq_true,if_true,if_false]⟩
 replace g9:=Classical.not_not.1 g9
 by_cases S6:s.cFg.lK.sM≤(v.ns.length:Int)
 ·simp only[Z8,seval,Wa s hf,dE,S4 hs,hs.tree,mS _ _ hs.nn,O8 hs hu hp,Xx,decide_true,decide_false,g1,g2,g3,g4,g5,q0,r1,g6,bf g7,g8,g9,S6];exact⟨_,bQ rfl (by simp only[E8,seval]<;>rfl) (by first|exact .v _|simp only[dU]),by simp only[Ku,g1,g2,g3,g4,g5,g6,g7,g8,g9,S6,not_true_eq_false,not_false_eq_true,if_true,if_false]⟩
 simp only[Z8,seval,Wa s hf,dE,S4 hs,hs.tree,mS _ _ hs.nn,O8 hs hu hp,Xx,decide_true,decide_false,g1,g2,g3,g4,g5,q0,r1,g6,bf g7,g8,g9,S6];exact⟨_,bQ rfl (by simp only[E8,seval]<;>rfl) (by first|exact .v _|simp only[dU]),by simp only[Ku,g1,g2,g3,g4,g5,g6,g7,g8,g9,S6,not_true_eq_false,not_false_eq_true,if_true,if_false]⟩
theorem k52 {s:aL} {v:SV} (hs:SD s v) (hu:gL v.ns) (hp:s.cFg.jL≠0) (b:Block) (st:St) (d:Option Nat):aM (aB Tryz.prog) 52 [.agg (aA s),.agg (aP b)] st d=some { dst:=d,val:=.v (.int .i64 (Ku s v b))}:=bC (bE hs.flat (qL b)) (c52 hs hu hp b) (.v _)
def CJ (acc:Bool × dP × dP) (n:Node):Bool × dP × dP :=
 if n.status=2 then acc else (true,if acc.1=false∨acc.2.1.aE<n.block.cV.pj.aE then n.block.cV.pj else acc.2.1,if acc.1=false∨acc.2.2.aE<n.block.cV.pf.aE then n.block.cV.pf else acc.2.2)
def CK (ns:List Node):Bool × dP × dP:=ns.foldl CJ (false,fV,fV)
def zT (ns:List Node):mI:=⟨(CK ns).2.1,(CK ns).2.2⟩
theorem Ri (ns:List Node) (k:Nat) (h:k<ns.length):CK (ns.take (k+1))=CJ (CK (ns.take k)) (nd ns k):=by
 obtain⟨h',e⟩:=Lr (ns:=ns) (i:=(k:Int)) (by omega) (by omega)
 unfold CK;rw[List.take_succ_eq_append_getElem h,List.foldl_append,e];rfl
theorem c67 {s:aL} {v:SV} (hs:SD s v):aB Tryz.prog 67 [.agg (aA s)]=some (.agg (dM (zT v.ns))):=by
 have hn:=hs.nn
 rw[cL Tryz.func67 rfl aQN rfl];refine gX ?_
 simp only[Z8,seval,hs.tree];refine cC (fun m st=>∃(k:Nat) (b:Bool) (x y:dP),(st.env 1=.ptr 1 0 0∧st.heap 1 0=some (.cells (aA s))∧st.env 2=.ptr 2 0 0∧st.heap 2 0=some (.cells (dM Ev))∧st.env 3=.ptr 3 0 0∧st.heap 3 0=some (.cells (dM ⟨x,y⟩))∧st.env 4=.v (.bool b)∧st.env 5=.v (.int .i64 k))∧CK (v.ns.take k)=(b,x,y)∧k≤v.ns.length∧m=v.ns.length-k)
  (fun e st=>e=.exit 0∧∃(x y:dP),(st.env 2=.ptr 2 0 0∧st.heap 2 0=some (.cells (dM Ev))∧st.env 3=.ptr 3 0 0∧st.heap 3 0=some (.cells (dM ⟨x,y⟩)))∧zT v.ns=⟨x,y⟩) v.ns.length ?step ?start ?rest
 case step =>
  rintro m st ⟨k,b,x,y,hI,hp,hk,hm⟩
  by_cases aY:(k:Int)<v.ns.length
  ·have q0:(0:Int)≤k:=by omega
   have hw:IntKind.i64.wrap ((k:Int)+1)=((k+1:Nat):Int):=by rw[mT _ (by omega) (by omega)];omega
   have rY:=Ri v.ns k (by omega)
   rw[hp] at rY;unfold CJ at rY;by_cases h1:(nd v.ns k).status=2
   ·rw[if_pos h1] at rY;apply oN (v.ns.length-(k+1))
    ·simp only[Z8,seval,hI,aY,q0,hs.tree,bt h1,hw];rfl
    ·exact⟨k+1,b,x,y,by simp only[E8,seval,hI],rY,by omega,rfl⟩
   rw[if_neg h1] at rY;cases b
   ·simp only[true_or,if_true] at rY;apply oN (v.ns.length-(k+1))
    ·simp only[Z8,seval,hI,aY,q0,hs.tree,bf h1,hw];rfl
    ·exact⟨k+1,true,_,_,by simp only[E8,seval,hI]<;>rfl,rY,by omega,rfl⟩
   ·simp only[Bool.true_eq_false,false_or] at rY;by_cases h2:x.aE<(nd v.ns k).block.cV.pj.aE
    ·rw[if_pos h2] at rY;by_cases h3:y.aE<(nd v.ns k).block.cV.pf.aE
     ·rw[if_pos h3] at rY;apply oN (v.ns.length-(k+1))
      ·simp only[Z8,seval,hI,aY,q0,hs.tree,bf h1,h2,h3,hw];rfl
      ·exact⟨k+1,true,_,_,by simp only[E8,seval,hI]<;>rfl,rY,by omega,rfl⟩
     ·rw[if_neg h3] at rY;apply oN (v.ns.length-(k+1))
      ·simp only[Z8,seval,hI,aY,q0,hs.tree,bf h1,h2,h3,hw];rfl
      ·exact⟨k+1,true,_,_,by simp only[E8,seval,hI]<;>rfl,rY,by omega,rfl⟩
    ·rw[if_neg h2] at rY;by_cases h3:y.aE<(nd v.ns k).block.cV.pf.aE
     ·rw[if_pos h3] at rY;apply oN (v.ns.length-(k+1))
      ·simp only[Z8,seval,hI,aY,q0,hs.tree,bf h1,h2,h3,hw];rfl
      ·exact⟨k+1,true,_,_,by simp only[E8,seval,hI]<;>rfl,rY,by omega,rfl⟩
     ·rw[if_neg h3] at rY;apply oN (v.ns.length-(k+1))
      ·simp only[Z8,seval,hI,aY,q0,hs.tree,bf h1,h2,h3,hw];rfl
      ·exact⟨k+1,true,_,_,by simp only[E8,seval,hI]<;>rfl,rY,by omega,rfl⟩
  ·have Aq:k=v.ns.length:=by omega
   rw[Aq,List.take_length] at hp;apply oT (.exit 0)
   ·simp only[Z8,seval,hI,aY,hs.tree];rfl
   ·exact⟨rfl,x,y,by simp only[E8,seval,hI],by unfold zT;rw[hp]⟩
 case start=>exact⟨0,false,fV,fV,by simp only[E8,seval]<;>rfl,rfl,by omega,by omega⟩
 case rest =>
  rintro e st ⟨rfl,x,y,hI,hp⟩
  simp only[Z8,seval,hI];exact⟨_,fJ rfl (by simp only[E8,seval,hI]<;>rfl) (by simp only[Z8,seval,hI]<;>rfl) (by simp only[dU,and_self,hI]),by rw[hp]⟩
theorem k67 {s:aL} {v:SV} (hs:SD s v) (st:St) (d:Option Nat):aM (aB Tryz.prog) 67 [.agg (aA s)] st d=some { dst:=d,val:=.agg (dM (zT v.ns))}:=bC (cU hs.flat) (c67 hs) (.agg _ (yH _))
noncomputable def rP (s:aL) (c:dP):dP:=if s.aU.gD.aE<c.aE then c else s.aU.gD
noncomputable def tW (s:aL) (c:dP):dP:=if s.aU.fin.aE<c.aE then c else s.aU.fin
def jZ (s:aL) (v:SV) (J F:dP):Prop :=
 aN v.ns J.root<0∨aN v.ns F.root<0∨(nd v.ns (aN v.ns J.root)).status=2∨(nd v.ns (aN v.ns F.root)).status=2∨¬HH s v.ns (aN v.ns J.root) J.aE∨¬HH s v.ns (aN v.ns F.root) F.aE ∨
 tV v.ns (aN v.ns F.root) (aN v.ns J.root)=false∨J.aE<F.aE∨wH s s.now<J.aE∨Jn (ol v.T) J<0
noncomputable def Ke (s:aL) (v:SV) (c1 c2:dP):AV:=if jZ s v (rP s c1) (tW s c2) then .eG [.agg (aW fV),.agg (aW fV),.v (.bool false)] else .eG [.agg (aW (rP s c1)),.agg (aW (tW s c2)),.v (.bool true)]
end Go.Ab.Tryz
