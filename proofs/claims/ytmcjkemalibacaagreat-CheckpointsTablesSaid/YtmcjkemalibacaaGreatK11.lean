/-
  Part 11 of the proof: an evaluator of programs, its soundness, and what functions of this program compute.
-/
import Derived.Test.YtmcjkemalibacaaGreatK10
import Derived.Test.YtmcjkemalibacaaGreatK7
import Derived.Test.YtmcjkemalibacaaGreatK9
set_option linter.all false
set_option maxRecDepth 20000
set_option maxHeartbeats 40000000
namespace Go.Ab.Tryz
open Classical Go.Proofs Go.Ab
theorem aCe (args:List AV) (st:St) (d:Option Nat):aN (aB Tryz.prog) 247 args st d=tX (aB Tryz.prog) 247 (cM (args.map (fO st))) (decide (∀x∈args,Flat x)) st d:=jS _ _ _ _ _
theorem A9:Flat (.agg [.v (.slice none 0 0)]):=.agg _ (cU (.v _))
theorem vK (e:Int):Flat (BF e):=.eE _ (bE A9 (.v _))
def stA (o:Option (List Node)):AV :=
 match o with
 | none=>BF 21
 | some r=>.eE [.agg (cO ⟨r⟩),.v (.int .i64 0)]
theorem LN (o:Option (List Node)):Flat (stA o):=by
 cases o with
 | none=>exact vK _
 | some r=>exact .eE _ (bE (mC _) (.v _))
noncomputable def raO (ns:List Node) (i:Int):Option (List Node):=DW 1 2 (path ns i) ns
noncomputable def coO (ns:List Node) (i:Int):Option (List Node):=DW 2 1 (Fz ns i ns.length) ns
noncomputable def L3 (ns:List Node) (i:Int):AV:=if 0≤i∧i<ns.length then stA (raO ns i) else BF 10
noncomputable def L4 (ns:List Node) (i:Int):AV:=if 0≤i∧i<ns.length then stA (coO ns i) else BF 10
theorem Vb {ns:List Node} (hu:gM ns) {i:Int}:∀x∈path ns i,0≤x∧x<ns.length:=fun x hx=>vH hu hx
theorem YY (ns:List Node) (i:Int):∀x∈Fz ns i ns.length,0≤x∧x<ns.length:=fun x hx=>((YQ ns i x _).1 hx).1
theorem aPI (ns:List Node) (hu:gM ns) (hn:(ns.length:Int)<1000000) (i:Int):aB Tryz.prog 236 [.agg (cO ⟨ns⟩),.v (.int .i64 i)]=some (L3 ns i):=by
 rw[cL Tryz.func236 rfl aKq rfl];unfold L3;by_cases hm:0≤i∧i<ns.length
 ·rw[if_pos hm];have hd:(decide (0≤i) && decide (i<ns.length))=true:=by simp[hm.1,hm.2]
  have h45:=k76 ns hu hn i hm.1 hm.2
  have hpl:=Ax hu i
  have hc:=aKo ns (by omega) hn (path ns i) (by omega) (Vb hu) 1 2
  unfold raO;cases ho:DW 1 2 (path ns i) ns with
  | none =>
    rw[ho] at hc;have hK:=fun (fl:Bool) (st:St) (d:Option Nat)=>aKj (fl:=fl) (st:=st) (d:=d) hc
    simp only[ZZ,seval,SK,hd,h45,aCe,hK,dM];exact dK rfl (by simp only[bY,ZZ,seval];rfl) (by simp only[bY,EV,seval]<;>rfl) (by simp only[EV,seval]<;>rfl) (by simp only[EV,seval]<;>rfl)
  | some r =>
    rw[ho] at hc;have hK:=fun (fl:Bool) (st:St) (d:Nat)=>aKi (fl:=fl) (st:=st) (d:=d) hc (Wk r)
    simp only[ZZ,seval,SK,hd,h45,aCe,hK,dM];exact dK rfl (by simp only[bY,ZZ,seval];rfl) (by simp only[bY,EV,seval]<;>rfl) (by simp only[EV,seval]<;>rfl) (by simp only[EV,seval]<;>rfl)
 ·rw[if_neg hm];have hd:(decide (0≤i) && decide (i<ns.length))=false:=by rw[← Bool.not_eq_true];simpa using hm
  simp only[ZZ,seval,SK,hd];exact dK rfl (by simp only[bY,ZZ,seval];rfl) (by simp only[bY,EV,seval]<;>rfl) (by simp only[EV,seval]<;>rfl) (by simp only[EV,seval]<;>rfl)
theorem aPJ (ns:List Node) (hu:gM ns) (hn:(ns.length:Int)<1000000) (i:Int):aB Tryz.prog 238 [.agg (cO ⟨ns⟩),.v (.int .i64 i)]=some (L4 ns i):=by
 rw[cL Tryz.func238 rfl aKr rfl];unfold L4;by_cases hm:0≤i∧i<ns.length
 ·rw[if_pos hm];have hd:(decide (0≤i) && decide (i<ns.length))=true:=by simp[hm.1,hm.2]
  have h36:=k64 ns hu hn i (TK hu hm.1 hm.2 _ hm.2)
  have hdl:=Uz ns i ns.length
  have hc:=aKo ns (by omega) hn (Fz ns i ns.length) (by omega) (YY ns i) 2 1
  unfold coO;cases ho:DW 2 1 (Fz ns i ns.length) ns with
  | none =>
    rw[ho] at hc;have hK:=fun (fl:Bool) (st:St) (d:Option Nat)=>aKj (fl:=fl) (st:=st) (d:=d) hc
    simp only[ZZ,seval,SK,hd,h36,aCe,hK,dM];exact dK rfl (by simp only[bY,ZZ,seval];rfl) (by simp only[bY,EV,seval]<;>rfl) (by simp only[EV,seval]<;>rfl) (by simp only[EV,seval]<;>rfl)
  | some r =>
    rw[ho] at hc;have hK:=fun (fl:Bool) (st:St) (d:Nat)=>aKi (fl:=fl) (st:=st) (d:=d) hc (Wk r)
    simp only[ZZ,seval,SK,hd,h36,aCe,hK,dM];exact dK rfl (by simp only[bY,ZZ,seval];rfl) (by simp only[bY,EV,seval]<;>rfl) (by simp only[EV,seval]<;>rfl) (by simp only[EV,seval]<;>rfl)
 ·rw[if_neg hm];have hd:(decide (0≤i) && decide (i<ns.length))=false:=by rw[← Bool.not_eq_true];simpa using hm
  simp only[ZZ,seval,SK,hd];exact dK rfl (by simp only[bY,ZZ,seval];rfl) (by simp only[bY,EV,seval]<;>rfl) (by simp only[EV,seval]<;>rfl) (by simp only[EV,seval]<;>rfl)
theorem LP (ns:List Node) (i:Int):Flat (L3 ns i):=by unfold L3;split;exact LN _;exact vK _
theorem Wn (ns:List Node) (i:Int):Flat (L4 ns i):=by unfold L4;split;exact LN _;exact vK _
theorem aKs (ns:List Node) (hu:gM ns) (hn:(ns.length:Int)<1000000) (i:Int) (st:St) (d:Option Nat):aN (aB Tryz.prog) 236 [.agg (cO ⟨ns⟩),.v (.int .i64 i)] st d=some { dst:=d,val:=L3 ns i }:=bG (bE (mC _) (.v _)) (aPI ns hu hn i) (LP ns i)
theorem aKt (ns:List Node) (hu:gM ns) (hn:(ns.length:Int)<1000000) (i:Int) (st:St) (d:Option Nat):aN (aB Tryz.prog) 238 [.agg (cO ⟨ns⟩),.v (.int .i64 i)] st d=some { dst:=d,val:=L4 ns i }:=bG (bE (mC _) (.v _)) (aPJ ns hu hn i) (Wn ns i)
end Go.Ab.Tryz
namespace Go.Ab.Tryz
open Classical Go.Proofs Go.Ab
end Go.Ab.Tryz
namespace Go.Ab.Tryz
open Classical Go.Proofs Go.Ab
theorem B0 (ns:List Node) (hn:(ns.length:Int)<1000000) (i:Int):(∃e,L3 ns i=.eE [.agg [.v (.slice none 0 0)],.v (.int .i64 e)])∨∃r:List Node,L3 ns i=.eE [.agg (cO ⟨r⟩),.v (.int .i64 0)]∧(r.length:Int)<1000000:=by
 unfold L3;split
 ·cases h:raO ns i with
  | none=>exact .inl ⟨21,rfl⟩
  | some r=>exact .inr ⟨r,rfl,by rw[GG _ _ _ h];exact hn⟩
 ·exact .inl ⟨10,rfl⟩
theorem DX (ns:List Node) (hn:(ns.length:Int)<1000000) (i:Int):(∃e,L4 ns i=.eE [.agg [.v (.slice none 0 0)],.v (.int .i64 e)])∨∃r:List Node,L4 ns i=.eE [.agg (cO ⟨r⟩),.v (.int .i64 0)]∧(r.length:Int)<1000000:=by
 unfold L4;split
 ·cases h:coO ns i with
  | none=>exact .inl ⟨21,rfl⟩
  | some r=>exact .inr ⟨r,rfl,by rw[GG _ _ _ h];exact hn⟩
 ·exact .inl ⟨10,rfl⟩
def pay (ns:List Node) (x:Int):cJ:=(nd ns x).block.jK
noncomputable def zF (ns:List Node) (p:List Int):Nat→Option Nat
 | 0=>none
 | n+1=>if pay ns (it p ((p.length-(n+1):Nat):Int))=dR then zF ns p n else some (p.length-(n+1))
noncomputable def Gx (ns:List Node) (p:List Int) (h:cJ):Nat→Option Nat
 | 0=>none
 | n+1=>if pay ns (it p (n:Int))=h then some n else Gx ns p h n
noncomputable def pB (ns:List Node) (i:Int) (h:cJ):Int × Int :=
 if path ns i=[] then (-1,-1)
 else if h=dR then
  match zF ns (path ns i) (path ns i).length with
  | none=>(-1,i)
  | some k=>(if k=0 then -1 else it (path ns i) ((k:Int)-1),it (path ns i) k)
 else
  match Gx ns (path ns i) h ((path ns i).length-1) with
  | none=>(-1,i)
  | some k=>(it (path ns i) k,it (path ns i) ((k:Int)+1))
noncomputable def reA (ns:List Node) (i:Int) (h:cJ):AV:=.eE [.v (.int .i64 (pB ns i h).1),.v (.int .i64 (pB ns i h).2)]
theorem DY {ns:List Node} {p:List Int}:∀(n k:Nat),n≤p.length→zF ns p n=some k→k<p.length
 | 0,k,_,h=>by simp[zF] at h
 | n+1,k,hn,h=>by
   simp only[zF] at h;split at h
   ·exact DY n k (by omega) h
   ·simp at h;omega
theorem LQ {ns:List Node} {p:List Int} {h:cJ}:∀(n k:Nat),Gx ns p h n=some k→k<n
 | 0,k,hk=>by simp[Gx] at hk
 | n+1,k,hk=>by
   simp only[Gx] at hk;split at hk
   ·simp at hk;omega
   ·have:=LQ n k hk;omega
theorem TS {ns:List Node} {i:Int} {h:cJ} (hp:path ns i=[]):pB ns i h=(-1,-1):=if_pos hp
theorem aF2 {ns:List Node} {i j:Int} (i0:0≤i) (i1:i<ns.length) (j0:0≤j) (y:Node):nd (ns.set i.toNat y) j=if j=i then y else nd ns j:=by
 unfold nd;rw[List.getD_eq_getElem?_getD,List.getD_eq_getElem?_getD];by_cases h:j=i
 ·subst h;have:j.toNat<ns.length:=by omega
  simp[this]
 ·rw[if_neg h,List.getElem?_set_ne (by omega)]
theorem LR {to never:Int} (gR:to≠never):∀(l:List Int) (ns r:List Node),(∀x∈l,0≤x∧x<ns.length)→DW to never l ns=some r →
 (∀x∈l,(nd ns x).status≠never)∧r.length=ns.length∧∀j:Int,0≤j→j<ns.length→nd r j=if j∈l then Wm (nd ns j) to else nd ns j
 | [],ns,r,_,h=>by
   simp only[DW,Option.some.injEq] at h;subst h;exact⟨by simp,rfl,by simp⟩
 | i :: l,ns,r,hl,h=>by
   simp only[DW] at h;split at h
   ·cases h
   ·rename_i hs;obtain⟨i0,i1⟩:=hl i (by simp)
    obtain⟨h1,h2,h3⟩:=LR gR l (setAt ns i to) r (fun x hx=>by rw[Cu];exact hl x (by simp[hx])) h
    rw[Cu] at h2 h3;have hnd:∀j:Int,0≤j→nd (setAt ns i to) j=if j=i then Wm (nd ns i) to else nd ns j:=fun j j0=>aF2 i0 i1 j0 _
    refine⟨fun x hx=>?_,h2,fun j j0 j1=>?_⟩
    ·rcases List.mem_cons.1 hx with rfl|hx
     ·exact hs
     ·by_cases hxi:x=i
      ·subst hxi;exact hs
      ·have:=h1 x hx
       rw[hnd x (hl x (by simp[hx])).1,if_neg hxi] at this
       exact this
    ·rw[h3 j j0 j1,hnd j j0];by_cases hji:j=i
     ·subst hji;simp only[if_true,List.mem_cons,true_or];split<;>rfl
     ·simp[hji]
structure TT (a b:List Node):Prop where
 len:a.length=b.length
 up:∀j:Int,0≤j→j<a.length→(nd a j).up=(nd b j).up
theorem TT.aPL {a b:List Node} (h:TT a b) (hu:gM a):gM b:=fun i i0 i1=>by rw[← h.up i (by omega) (by rw[h.len];exact i1)];exact hu i i0 (by rw[h.len];exact i1)
structure Chd (ns r:List Node) (l:List Int) (to:Int):Prop where
 len:r.length=ns.length
 at_:∀j:Int,0≤j→j<ns.length→nd r j=if j∈l then Wm (nd ns j) to else nd ns j
theorem Chd.su {ns r:List Node} {l:List Int} {to:Int} (h:Chd ns r l to):TT ns r where
 len:=h.len.symm
 up:=fun j j0 j1=>by rw[h.at_ j j0 j1];split<;>rfl
theorem Chd.block {ns r:List Node} {l:List Int} {to:Int} (h:Chd ns r l to) {j:Int} (j0:0≤j) (j1:j<ns.length):(nd r j).block=(nd ns j).block:=by
 rw[h.at_ j j0 j1];split<;>rfl
theorem Chd.upE {ns r:List Node} {l:List Int} {to:Int} (h:Chd ns r l to) {j:Int} (j0:0≤j) (j1:j<ns.length):(nd r j).up=(nd ns j).up:=by
 rw[h.at_ j j0 j1];split<;>rfl
theorem Chd.st {ns r:List Node} {l:List Int} {to:Int} (h:Chd ns r l to) {j:Int} (j0:0≤j) (j1:j<ns.length):(nd r j).status=if j∈l then to else (nd ns j).status:=by
 rw[h.at_ j j0 j1];split<;>rfl
structure aF3 (ns r:List Node) (i:Int):Prop where
 c:Chd ns r (path ns i) 1
 ok:∀x∈path ns i,(nd ns x).status≠2
theorem B4 {ns r:List Node} (hu:gM ns) {i:Int} (h:raO ns i=some r):aF3 ns r i:=by
 obtain⟨h1,h2,h3⟩:=LR (by decide) _ _ _ (Vb hu) h
 exact⟨⟨h2,h3⟩,h1⟩
structure aJi (ns r:List Node) (i:Int):Prop where
 c:Chd ns r (Fz ns i ns.length) 2
 ok:∀x∈Fz ns i ns.length,(nd ns x).status≠1
theorem DZ {ns:List Node} (hu:gM ns):∀(n:Nat) (c:Int),c.toNat=n→0≤c→c<ns.length→∀k:Int,1≤k→k<(path ns c).length→(nd ns (it (path ns c) k)).up=it (path ns c) (k-1):=by
 intro n;induction n using Nat.strongRecOn with
 | _ n ih =>
   intro c hc c0 c1 k k0 k1;by_cases h:c=0
   ·subst h;rw[rG (by omega)] at k1
    simp at k1
    omega
   ·obtain⟨u0,u1⟩:=hu c (by omega) c1
    rw[pW hu (by omega) c1] at k1 ⊢
    simp at k1
    by_cases hk:k=(path ns (nd ns c).up).length
    ·rw[vI hk,kM (by omega) (by omega),hk,A8 hu u0 (by omega)]
    ·rw[kM (by omega) (by omega),kM (by omega) (by omega)]
     exact ih (nd ns c).up.toNat (by omega) _ rfl u0 (by omega) k k0 (by omega)
theorem O3 {ns:List Node} (hu:gM ns):∀(n:Nat) (c:Int),c.toNat=n→0≤c→c<ns.length→it (path ns c) 0=0:=by
 intro n;induction n using Nat.strongRecOn with
 | _ n ih =>
   intro c hc c0 c1;by_cases h:c=0
   ·subst h;rw[rG (by omega)];rfl
   ·obtain⟨u0,u1⟩:=hu c (by omega) c1
    have:=GH hu u0 (by omega)
    rw[pW hu (by omega) c1,kM (Int.le_refl _) (by omega)]
    exact ih _ (by omega) _ rfl u0 (by omega)
theorem aPN (ns:List Node) (hu:gM ns) (hr:(nd ns 0).up=-1) (hn:(ns.length:Int)<1000000) (i:Int) (h:cJ):aB Tryz.prog 237 [.agg (cO ⟨ns⟩),.v (.int .i64 i),.agg (bD h)]=some (reA ns i h):=by
 rw[cL Tryz.func237 rfl aKu rfl];unfold reA;by_cases hm:0≤i∧i<ns.length
 ·have h45:=k76 ns hu hn i hm.1 hm.2
  have hpl:=Ax hu i
  have hp0:=GH hu hm.1 hm.2
  have hin:=Vb hu (i:=i)
  have hpe:path ns i≠[]:=by intro h;rw[h] at hp0;simp at hp0
  have hq:(((path ns i).length:Int) == 0)=false:=by simp[hpe]
  have Mo:=fun k h h'=>DZ hu _ i rfl hm.1 hm.2 k h h'
  have hi0:=O3 hu _ i rfl hm.1 hm.2
  unfold pB;rw[if_neg hpe];generalize path ns i=p at h45 hpl hp0 hin hq Mo hi0
  by_cases hz:h=dR
  ·have hd:decide (h=dR)=true:=decide_eq_true hz
   rw[if_pos hz];simp only[ZZ,seval,h45,hq,hd];refine kI (fun n st=>∃k:Nat,(st.env 1=.v (.int .i64 i)∧st.env 3=.ptr 3 0 0∧st.heap 3 0=some (.cells (cO ⟨ns⟩))∧st.env 8=.own 13 0∧st.heap 13 0=some (.row 3 1 p.length (aK p))∧st.env 9=.v (.int .i64 k))∧zF ns p p.length=zF ns p (p.length-k)∧k≤p.length∧n=p.length-k)
    (fun e st=>(e=.ret∧∃k,zF ns p p.length=some k∧st.env 6=.v (.int .i64 (if k=0 then -1 else it p ((k:Int)-1)))∧st.env 7=.v (.int .i64 (it p k)))∨(e=.exit 0∧zF ns p p.length=none∧st.env 1=.v (.int .i64 i))) p.length ?step ?start ?rest
   case step =>
    rintro n st ⟨k,hI,hf,hk,Gj⟩
    by_cases bA:(k:Int)<p.length
    ·have q0:(0:Int)≤k:=by omega
     have hw:IntKind.i64.wrap ((k:Int)+1)=((k+1:Nat):Int):=by rw[Fx _ (by omega) (by omega)];omega
     obtain⟨x0,x1⟩:=hin _ (Ef q0 bA)
     obtain⟨m,hm'⟩:∃m,p.length-k=m+1:=⟨p.length-k-1,by omega⟩
     rw[hm'] at hf;simp only[zF] at hf;rw[show p.length-(m+1)=k by omega] at hf
     by_cases hpz:pay ns (it p k)=dR
     ·rw[if_pos hpz] at hf;have hd2:decide ((nd ns (it p k)).block.jK=dR)=true:=decide_eq_true hpz
      apply oN (p.length-(k+1))
      ·simp only[ZZ,seval,hI,bA,q0,x0,x1,hd2,hw];rfl
      ·exact⟨k+1,by simp only[EV,seval,hI],by rw[hf,show p.length-(k+1)=m by omega],by omega,rfl⟩
     ·rw[if_neg hpz] at hf;have hd2:decide ((nd ns (it p k)).block.jK=dR)=false:=decide_eq_false hpz
      have hupk:(nd ns (it p k)).up=if k=0 then -1 else it p ((k:Int)-1):=by
       by_cases qA:k=0
       ·rw[if_pos qA,show ((k:Int))=0 by omega,hi0,hr]
       ·rw[if_neg qA,Mo k (by omega) bA]
      apply oT (.ret)
      ·simp only[ZZ,seval,hI,bA,q0,x0,x1,hd2];rfl
      ·exact .inl ⟨rfl,k,hf,by rw[← hupk];simp only[EV,seval],by simp only[EV,seval]⟩
    ·obtain rfl:k=p.length:=by omega
     rw[Nat.sub_self] at hf;apply oT (.exit 0)
     ·simp only[ZZ,seval,hI,bA];rfl
     ·exact .inr ⟨rfl,hf,by simp only[EV,seval,hI]⟩
   case start=>exact⟨0,by simp only[EV,seval]<;>rfl,rfl,by omega,rfl⟩
   case rest =>
    rintro e st (⟨rfl,k,hf,h6,h7⟩|⟨rfl,hf,h1⟩)
    ·rw[hf];simp only[ZZ,seval];exact dK rfl (by simp only[bY,EV,seval,h6]<;>rfl) (by simp only[bY,EV,seval,h7]<;>rfl) (by simp only[EV,seval]<;>rfl) (by simp only[EV,seval]<;>rfl)
    ·rw[hf];simp only[ZZ,seval,h1];exact dK rfl (by simp only[bY,EV,seval]<;>rfl) (by simp only[bY,EV,seval]<;>rfl) (by simp only[EV,seval]<;>rfl) (by simp only[EV,seval]<;>rfl)
  ·have hd:decide (h=dR)=false:=decide_eq_false hz
   have hw0:IntKind.i64.wrap ((p.length:Int)-2)=(p.length:Int)-2:=Fx _ (by omega) (by omega)
   rw[if_neg hz];simp only[ZZ,seval,h45,hq,hd,hw0];refine kI (fun n st=>∃m:Nat,(st.env 1=.v (.int .i64 i)∧st.env 3=.ptr 3 0 0∧st.heap 3 0=some (.cells (cO ⟨ns⟩))∧st.env 5=.ptr 5 0 0∧st.heap 5 0=some (.cells (bD h))∧st.env 8=.own 13 0∧st.heap 13 0=some (.row 3 1 p.length (aK p))∧st.env 10=.v (.int .i64 ((m:Int)-1)))∧Gx ns p h (p.length-1)=Gx ns p h m∧m≤p.length-1∧n=m)
    (fun e st=>(e=.ret∧∃k,Gx ns p h (p.length-1)=some k∧st.env 6=.v (.int .i64 (it p k))∧st.env 7=.v (.int .i64 (it p ((k:Int)+1))))∨(e=.exit 2∧Gx ns p h (p.length-1)=none∧st.env 1=.v (.int .i64 i))) (p.length-1) ?step ?start ?rest
   case step =>
    rintro n st ⟨m,hI,hf,hm',Gj⟩
    by_cases bA:(0:Int)≤(m:Int)-1
    ·obtain⟨k,rfl⟩:∃k,m=k+1:=⟨m-1,by omega⟩
     have e1:((k+1:Nat):Int)-1=k:=by omega
     rw[e1] at hI bA;have k1:(k:Int)<p.length:=by omega
     have hw:IntKind.i64.wrap ((k:Int)-1)=(k:Int)-1:=Fx _ (by omega) (by omega)
     obtain⟨x0,x1⟩:=hin _ (Ef bA k1)
     simp only[Gx] at hf;by_cases hpz:pay ns (it p k)=h
     ·rw[if_pos hpz] at hf;have hd2:decide ((nd ns (it p k)).block.jK=h)=true:=decide_eq_true hpz
      have YZ:IntKind.i64.wrap ((k:Int)+1)=(k:Int)+1:=Fx _ (by omega) (by omega)
      have r0:(0:Int)≤(k:Int)+1:=by omega
      have r1:(k:Int)+1<p.length:=by omega
      apply oT (.ret)
      ·simp only[ZZ,seval,hI,bA,k1,x0,x1,hd2,YZ,r0,r1];rfl
      ·exact .inl ⟨rfl,k,hf,by simp only[EV,seval],by simp only[EV,seval]⟩
     ·rw[if_neg hpz] at hf;have hd2:decide ((nd ns (it p k)).block.jK=h)=false:=decide_eq_false hpz
      apply oN (k)
      ·simp only[ZZ,seval,hI,bA,k1,x0,x1,hd2,hw];rfl
      ·exact⟨k,by simp only[EV,seval,hI],hf,by omega,rfl⟩
    ·obtain rfl:m=0:=by omega
     apply oT (.exit 2)
     ·simp only[ZZ,seval,hI,bA];rfl
     ·exact .inr ⟨rfl,hf,by simp only[EV,seval,hI]⟩
   case start =>
    have hs:(p.length:Int)-2=((p.length-1:Nat):Int)-1:=by omega
    exact⟨p.length-1,by simp only[EV,seval,hs],rfl,by omega,rfl⟩
   case rest =>
    rintro e st (⟨rfl,k,hf,h6,h7⟩|⟨rfl,hf,h1⟩)
    ·rw[hf];simp only[ZZ,seval];exact dK rfl (by simp only[bY,EV,seval,h6]<;>rfl) (by simp only[bY,EV,seval,h7]<;>rfl) (by simp only[EV,seval]<;>rfl) (by simp only[EV,seval]<;>rfl)
    ·rw[hf];simp only[ZZ,seval,h1];exact dK rfl (by simp only[bY,EV,seval]<;>rfl) (by simp only[bY,EV,seval]<;>rfl) (by simp only[EV,seval]<;>rfl) (by simp only[EV,seval]<;>rfl)
 ·rw[TS (yN hm)];have h45:=y8 ns i hm
  simp only[ZZ,seval,h45];exact dK rfl (by simp only[bY,EV,seval]<;>rfl) (by simp only[bY,EV,seval]<;>rfl) (by simp only[EV,seval]<;>rfl) (by simp only[EV,seval]<;>rfl)
theorem O4 (ns:List Node) (i:Int) (h:cJ):Flat (reA ns i h):=.eE _ (bE (.v _) (.v _))
theorem aPO (ns:List Node) (hu:gM ns) (hr:(nd ns 0).up=-1) (hn:(ns.length:Int)<1000000) (i:Int) (h:cJ) (st:St) (d:Option Nat):aN (aB Tryz.prog) 237 [.agg (cO ⟨ns⟩),.v (.int .i64 i),.agg (bD h)] st d=some { dst:=d,val:=.eE [.v (.int .i64 (pB ns i h).1),.v (.int .i64 (pB ns i h).2)]}:=bG (mD (mC _) (.v _) (qR _)) (aPN ns hu hr hn i h) (O4 ns i h)
theorem TU {ns:List Node} (hu:gM ns) (hr:(nd ns 0).up=-1) {i:Int} (i0:0≤i) (i1:i<ns.length) (h:cJ):(pB ns i h).2∈path ns i∧((pB ns i h).1<0∨((pB ns i h).1∈path ns i∧(nd ns (pB ns i h).2).up=(pB ns i h).1)):=by
 have hp0:=GH hu i0 i1
 have hpe:path ns i≠[]:=by intro h;rw[h] at hp0;simp at hp0
 have Sr:=vG hu i0 i1
 have Mo:=fun k h h'=>DZ hu _ i rfl i0 i1 k h h'
 unfold pB;rw[if_neg hpe];by_cases hz:h=dR
 ·rw[if_pos hz];cases hf:zF ns (path ns i) (path ns i).length with
  | none=>exact⟨Sr,.inl (by simp)⟩
  | some k =>
    have hk:=DY _ _ (Nat.le_refl _) hf
    simp only
    refine⟨Ef (by omega) (by omega), ?_⟩
    by_cases qA:k=0
    ·rw[if_pos qA];exact .inl (by omega)
    ·rw[if_neg qA];exact .inr ⟨Ef (by omega) (by omega),Mo k (by omega) (by omega)⟩
 ·rw[if_neg hz];cases hf:Gx ns (path ns i) h ((path ns i).length-1) with
  | none=>exact⟨Sr,.inl (by simp)⟩
  | some k =>
    have hk:=LQ _ _ hf
    simp only
    refine⟨Ef (by omega) (by omega),.inr ⟨Ef (by omega) (by omega), ?_⟩⟩
    have:=Mo ((k:Int)+1) (by omega) (by omega)
    rw[this];congr 1
    omega
def Wo (kv:AV) (l:List Int):Prop:=kv=.sl l.length (aK l)∨(l=[]∧kv=.v (.slice none 0 0))
theorem Wo.view {kv:AV} {l:List Int} (h:Wo kv l) (st:St):aW st kv=some (l.length,aK l):=by
 rcases h with rfl|⟨rfl,rfl⟩<;>rfl
theorem Wo.idx {kv:AV} {l:List Int} (h:Wo kv l) (st:St) {k:IntKind} {i:Int} (h0:0≤i) (h1:i<l.length):bH Tryz.prog st 22 kv (.v (.int k i))=some (.ip (qS (it l i)) 0):=by
 rcases h with rfl|⟨rfl,rfl⟩
 ·exact aES st h0 h1
 ·simp at h1;omega
theorem Wo.flat {kv:AV} {l:List Int} (h:Wo kv l):Flat kv:=by
 rcases h with rfl|⟨rfl,rfl⟩
 ·exact Kx l
 ·exact .v _
def ZA (ns:List Node) (c:Int) (l:List Int):Prop:=∃k∈l,tP ns c k=true
noncomputable def O5 (ns:List Node) (i:Int) (h:cJ) (l:List Int):AV :=
 if ZA ns (pB ns i h).2 l then BF 21
 else if 0≤(pB ns i h).1 then
  match raO ns (pB ns i h).1 with
  | none=>BF 21
  | some r=>L4 r (pB ns i h).2
 else L4 ns (pB ns i h).2
noncomputable def TV (ns:List Node) (i:Int) (v:gV) (l:List Int):AV :=
 if ¬(0≤i∧i<ns.length) then BF 10
 else if v.kind=1 then L3 ns i
 else if v.kind=2 then O5 ns i v.eA l
 else if v.kind=3∨v.kind=4 then .eE [.agg (cO ⟨ns⟩),.v (.int .i64 0)]
 else BF 2
theorem B5 (ns:List Node) (i:Int) (h:cJ) (l:List Int):Flat (O5 ns i h l):=by
 unfold O5;split
 ·exact vK _
 ·split
  ·split
   ·exact vK _
   ·exact Wn _ _
  ·exact Wn _ _
theorem B6 (ns:List Node) (i:Int) (v:gV) (l:List Int):Flat (TV ns i v l):=by
 unfold TV;split
 ·exact vK _
 ·split
  ·exact LP _ _
  ·split
   ·exact B5 _ _ _ _
   ·split
    ·exact .eE _ (bE (mC _) (.v _))
    ·exact vK _
theorem aPP (ns:List Node) (hu:gM ns) (hr:(nd ns 0).up=-1) (hn:(ns.length:Int)<1000000) (i:Int) (v:gV) (l:List Int) (hl:(l.length:Int)<1000000) {kv:AV} (hkv:Wo kv l) :
 aB Tryz.prog 222 [.agg (cO ⟨ns⟩),.v (.int .i64 i),.agg (dJ v),kv]=some (TV ns i v l):=by
 rw[cL Tryz.func222 rfl aKv (by rcases hkv with rfl|⟨rfl,rfl⟩<;>rfl)]
 have h86:=SK ns i
 unfold TV;by_cases hm:0≤i∧i<ns.length
 ·obtain⟨i0,i1⟩:=hm
  have hd:(decide (0≤i) && decide (i<(ns.length:Int)))=true:=by simp[i0,i1]
  rw[hd] at h86;rw[if_neg (by simp[i0,i1])]
  by_cases h1:v.kind=1
  ·rw[if_pos h1];have b1:(v.kind == 1)=true:=by simp[h1]
   have h96:=aKs ns hu hn i
   rcases B0 ns hn i with ⟨e,he⟩|⟨q,he,_⟩
   all_goals
    rw[he] at h96;rw[he];simp only[ZZ,seval,h86,b1,h96,dM];exact dK rfl (by simp only[bY,ZZ,seval];rfl) (by simp only[bY,EV,seval]<;>rfl) (by simp only[EV,seval]<;>rfl) (by simp only[EV,seval]<;>rfl)
  ·rw[if_neg h1];have b1:(v.kind == 1)=false:=by simp[h1]
   by_cases h2:v.kind=2
   ·rw[if_pos h2];have b2:(v.kind == 2)=true:=by simp[h2]
    have b3:(v.kind == 3)=false:=by simp[h2]
    have b4:(v.kind == 4)=false:=by simp[h2]
    have hRe:=aPO ns hu hr hn i v.eA
    have hfact:=TU hu hr i0 i1 v.eA
    have hv:=hkv.view
    have ZB:=fun st (k:IntKind) (i:Int) h0 h1=>hkv.idx st (k:=k) (i:=i) h0 h1
    have h46:=Nb ns hu hn
    unfold O5;obtain⟨a,ha⟩:∃a,(pB ns i v.eA).1=a:=⟨_,rfl⟩
    obtain⟨c,hc⟩:∃c,(pB ns i v.eA).2=c:=⟨_,rfl⟩
    rw[ha,hc] at hRe hfact;rw[ha,hc];simp only[ZZ,seval,h86,b1,b2,b3,b4,hRe,dM];refine kI (fun n st=>∃k:Nat,(st.env 3=kv∧st.env 4=.ptr 4 0 0∧st.heap 4 0=some (.cells (cO ⟨ns⟩))∧st.env 8=.ptr 8 0 0∧st.heap 8 0=some (.cells [.v (.slice none 0 0)])∧st.env 10=.v (.int .i64 a)∧st.env 11=.v (.int .i64 c)∧st.env 12=.v (.int .i64 k))∧(∀j:Int,0≤j→j<k→tP ns c (it l j)=false)∧k≤l.length∧n=l.length-k)
     (fun e st=>(e=.ret∧ZA ns c l∧st.env 8=.ptr 8 0 0∧st.heap 8 0=some (.cells [.v (.slice none 0 0)])∧st.env 9=.v (.int .i64 21))∨(e=.exit 1∧¬ZA ns c l∧st.env 4=.ptr 4 0 0∧st.heap 4 0=some (.cells (cO ⟨ns⟩))∧st.env 8=.ptr 8 0 0∧st.heap 8 0=some (.cells [.v (.slice none 0 0)])∧st.env 10=.v (.int .i64 a)∧st.env 11=.v (.int .i64 c))) l.length ?step ?start ?rest
    case step =>
     rintro n st ⟨k,hI,hj,hk,Gj⟩
     by_cases bA:(k:Int)<l.length
     ·have q0:(0:Int)≤k:=by omega
      have hw:IntKind.i64.wrap ((k:Int)+1)=((k+1:Nat):Int):=by rw[Fx _ (by omega) (by omega)];omega
      cases hA:tP ns c (it l k)
      ·apply oN (l.length-(k+1))
       ·simp only[ZZ,seval,hI,bA,q0,hv,ZB,h46,hA,hw];rfl
       ·exact⟨k+1,by simp only[EV,seval,hI],fun j j0 j1=>by
        by_cases hjk:j<k
        ·exact hj j j0 hjk
        ·rw[show j=(k:Int) by omega];exact hA,by omega,rfl⟩
      ·apply oT (.ret)
       ·simp only[ZZ,seval,hI,bA,q0,hv,ZB,h46,hA];rfl
       ·exact .inl ⟨rfl,⟨_,Ef q0 bA,hA⟩,by simp only[EV,seval,hI],by simp only[EV,seval,hI],by simp only[EV,seval,hI]⟩
     ·obtain rfl:k=l.length:=by omega
      have hno:¬ZA ns c l:=by
       rintro⟨x,hx,hxa⟩
       obtain⟨j,hj',rfl⟩:=List.getElem_of_mem hx
       have:=hj j (by omega) (by omega)
       rw[show it l (j:Int)=l[j] by simp[it,hj']] at this
       rw[this] at hxa;cases hxa
      apply oT (.exit 1)
      ·simp only[ZZ,seval,hI,hv,bA];rfl
      ·exact .inr ⟨rfl,hno,by simp only[EV,seval,hI]⟩
    case start=>exact⟨0,by simp only[EV,seval],fun j _ _=>by omega,by omega,by omega⟩
    case rest =>
     rintro e st (⟨rfl,hk,hI⟩|⟨rfl,hk,hI⟩)
     ·rw[if_pos hk];simp only[ZZ,seval];exact dK rfl (by simp only[bY,ZZ,seval,hI];rfl) (by simp only[bY,EV,seval,hI]<;>rfl) (by simp only[EV,seval]<;>rfl) (by simp only[EV,seval]<;>rfl)
     ·rw[if_neg hk];by_cases h0:0≤a
      ·rw[if_pos h0];have nH:a∈path ns i:=by
        rcases hfact.2 with h|h
        ·omega
        ·exact h.1
       obtain⟨_,a1⟩:=Vb hu a nH
       have h96:=aKs ns hu hn a
       rw[show L3 ns a=stA (raO ns a) from if_pos ⟨h0,a1⟩] at h96;cases ho:raO ns a with
       | none =>
         rw[ho] at h96;simp only[stA,BF] at h96;simp only[ZZ,seval,hI,h0,h96,dM];exact dK rfl (by simp only[bY,ZZ,seval,hI];rfl) (by simp only[bY,EV,seval,hI]<;>rfl) (by simp only[EV,seval]<;>rfl) (by simp only[EV,seval]<;>rfl)
       | some r =>
         rw[ho] at h96;simp only[stA] at h96;have hR:=B4 hu ho
         have hu2:=hR.c.su.aPL hu
         have h97:=aKt r hu2 (by rw[hR.c.len];exact hn) c
         rcases DX r (by rw[hR.c.len];exact hn) c with ⟨e,he⟩|⟨q,he,_⟩
         all_goals
          rw[he] at h97;simp only[he];simp only[ZZ,seval,hI,h0,h96,h97,dM];exact dK rfl (by simp only[bY,ZZ,seval,hI];rfl) (by simp only[bY,EV,seval,hI]<;>rfl) (by simp only[EV,seval]<;>rfl) (by simp only[EV,seval]<;>rfl)
      ·rw[if_neg h0];have h97:=aKt ns hu hn c
       rcases DX ns hn c with ⟨e,he⟩|⟨q,he,_⟩
       all_goals
        rw[he] at h97;rw[he];simp only[ZZ,seval,hI,h0,h97,dM];exact dK rfl (by simp only[bY,ZZ,seval,hI];rfl) (by simp only[bY,EV,seval,hI]<;>rfl) (by simp only[EV,seval]<;>rfl) (by simp only[EV,seval]<;>rfl)
   ·rw[if_neg h2];have b2:(v.kind == 2)=false:=by simp[h2]
    by_cases h3:v.kind=3
    ·rw[if_pos (.inl h3)];have b3:(v.kind == 3)=true:=by simp[h3]
     simp only[ZZ,seval,h86,b1,b2,b3];exact dK rfl (by simp only[bY,ZZ,seval];rfl) (by simp only[bY,EV,seval]<;>rfl) (by simp only[EV,seval]<;>rfl) (by simp only[EV,seval]<;>rfl)
    ·have b3:(v.kind == 3)=false:=by simp[h3]
     by_cases h4:v.kind=4
     ·rw[if_pos (.inr h4)];have b4:(v.kind == 4)=true:=by simp[h4]
      simp only[ZZ,seval,h86,b1,b2,b3,b4];exact dK rfl (by simp only[bY,ZZ,seval];rfl) (by simp only[bY,EV,seval]<;>rfl) (by simp only[EV,seval]<;>rfl) (by simp only[EV,seval]<;>rfl)
     ·rw[if_neg (by omega)]
      have b4:(v.kind == 4)=false:=by simp[h4]
      simp only[ZZ,seval,h86,b1,b2,b3,b4];exact dK rfl (by simp only[bY,ZZ,seval];rfl) (by simp only[bY,EV,seval]<;>rfl) (by simp only[EV,seval]<;>rfl) (by simp only[EV,seval]<;>rfl)
 ·rw[if_pos hm];have hd:(decide (0≤i) && decide (i<(ns.length:Int)))=false:=by
   by_cases h0:0≤i
   ·have:¬i<ns.length:=fun h=>hm ⟨h0,h⟩
    simp[this]
   ·simp[h0]
  rw[hd] at h86;simp only[ZZ,seval,h86];exact dK rfl (by simp only[bY,ZZ,seval];rfl) (by simp only[bY,EV,seval]<;>rfl) (by simp only[EV,seval]<;>rfl) (by simp only[EV,seval]<;>rfl)
theorem yO (s:Config):Flat (.agg (bV s))↔Flat s.iP:=by
 constructor
 ·intro h;have h:∀x∈bV s,Flat x:=by cases h with|agg _ h=>exact h
  exact h _ (List.mem_of_getElem? (zG s))
 ·intro h0;exact .agg _ (tY s h0)
theorem Nj (s:uW):Flat (.agg (fD s))↔Flat s.eA∧Flat s.gW:=by
 constructor
 ·intro h;have h:∀x∈fD s,Flat x:=by cases h with|agg _ h=>exact h
  exact⟨h _ (List.mem_of_getElem? (vL s)),h _ (List.mem_of_getElem? (xK s))⟩
 ·rintro⟨h0,h1⟩
  exact .agg _ (qT s h0 h1)
theorem EA (s:zH):Flat (.agg (jU s))↔Flat s.early∧Flat s.bK:=by
 constructor
 ·intro h;have h:∀x∈jU s,Flat x:=by cases h with|agg _ h=>exact h
  exact⟨h _ (List.mem_of_getElem? (vM s)),h _ (List.mem_of_getElem? (sT s))⟩
 ·rintro⟨h0,h1⟩
  exact .agg _ (Nk s h0 h1)
theorem LS (s:Fl):Flat (.agg (mS s))↔Flat s.nodes:=by
 constructor
 ·intro h;have h:∀x∈mS s,Flat x:=by cases h with|agg _ h=>exact h
  exact h _ (List.mem_of_getElem? (xL s))
 ·intro h0;exact .agg _ (wO s h0)
theorem wP (s:aL):Flat (.agg (aA s))↔Flat s.cFg.iP∧Flat s.gH.eA∧Flat s.gH.gW∧Flat s.cD.early∧Flat s.cD.bK∧Flat s.tree.nodes∧Flat s.tables:=by
 constructor
 ·intro h;have h:∀x∈aA s,Flat x:=by cases h with|agg _ h=>exact h
  exact⟨h _ (List.mem_of_getElem? (qU s)),h _ (List.mem_of_getElem? (pC s)),h _ (List.mem_of_getElem? (qB s)),h _ (List.mem_of_getElem? (pD s)),h _ (List.mem_of_getElem? (nI s)),h _ (List.mem_of_getElem? (qV s)),h _ (List.mem_of_getElem? (vN s))⟩
 ·rintro⟨h0,h1,h2,h3,h4,h5,h6⟩
  exact .agg _ (Sw s h0 h1 h2 h3 h4 h5 h6)
theorem tZ (s:State):Flat (.agg (aP s))↔Flat s.store.cFg.iP∧Flat s.store.gH.eA∧Flat s.store.gH.gW∧Flat s.store.cD.early∧Flat s.store.cD.bK∧Flat s.store.tree.nodes∧Flat s.store.tables∧Flat s.iY∧Flat s.rI:=by
 constructor
 ·intro h;have h:∀x∈aP s,Flat x:=by cases h with|agg _ h=>exact h
  exact⟨h _ (List.mem_of_getElem? (qW s)),h _ (List.mem_of_getElem? (pO s)),h _ (List.mem_of_getElem? (qI s)),h _ (List.mem_of_getElem? (pP s)),h _ (List.mem_of_getElem? (oG s)),h _ (List.mem_of_getElem? (qX s)),h _ (List.mem_of_getElem? (uA s)),h _ (List.mem_of_getElem? (zI s)),h _ (List.mem_of_getElem? (Ba s))⟩
 ·rintro⟨h0,h1,h2,h3,h4,h5,h6,h7,h8⟩
  exact .agg _ (LU s h0 h1 h2 h3 h4 h5 h6 h7 h8)
theorem zJ (s:sC):Flat (.agg (iB s))↔Flat s.eU:=by
 constructor
 ·intro h;have h:∀x∈iB s,Flat x:=by cases h with|agg _ h=>exact h
  exact h _ (List.mem_of_getElem? (Eh s))
 ·intro h0;exact .agg _ (Qk s h0)
theorem zK (s:Claim):Flat (.agg (gU s))↔Flat s.eU:=by
 constructor
 ·intro h;have h:∀x∈gU s,Flat x:=by cases h with|agg _ h=>exact h
  exact h _ (List.mem_of_getElem? (uB s))
 ·intro h0;exact .agg _ (Gy s h0)
theorem mX (s:fW):Flat (.agg (cC s))↔Flat s.first.eU∧Flat s.second.eU:=by
 constructor
 ·intro h;have h:∀x∈cC s,Flat x:=by cases h with|agg _ h=>exact h
  exact⟨h _ (List.mem_of_getElem? (oH s)),h _ (List.mem_of_getElem? (nJ s))⟩
 ·rintro⟨h0,h1⟩
  exact .agg _ (Gz s h0 h1)
theorem iE (s:Table):Flat (.agg (cA s))↔Flat s.iP:=by
 constructor
 ·intro h;have h:∀x∈cA s,Flat x:=by cases h with|agg _ h=>exact h
  exact h _ (List.mem_of_getElem? (Cb s))
 ·intro h0;exact .agg _ (Ha s h0)
theorem TW (s:xI):Flat (.agg (kZ s))↔Flat s.Ga.eU∧Flat s.oV.first.eU∧Flat s.oV.second.eU∧Flat s.table.iP:=by
 constructor
 ·intro h;have h:∀x∈kZ s,Flat x:=by cases h with|agg _ h=>exact h
  exact⟨h _ (List.mem_of_getElem? (Cv s)),h _ (List.mem_of_getElem? (sE s)),h _ (List.mem_of_getElem? (rU s)),h _ (List.mem_of_getElem? (Bb s))⟩
 ·rintro⟨h0,h1,h2,h3⟩
  exact .agg _ (B7 s h0 h1 h2 h3)
theorem aF7 (x:Value):Flat (.v x)=True:=eq_true (.v x)
theorem LV (o:Option (List Int)):Flat (ov bJ o)=True:=eq_true (dU o)
theorem LW (o:Option (List Int)):Flat (ov aK o)=True:=eq_true (bW o)
theorem EB (o:Option (List kN)):Flat (ov dC o)=True:=eq_true (qY o)
theorem Wp (o:Option (List Block)):Flat (ov aF o)=True:=eq_true (uC o)
theorem Nl (o:Option (List Request)):Flat (ov aE o)=True:=eq_true (iZ o)
theorem LX (n:Nat) (o:List Int):Flat (.sl n (bJ o))=True:=eq_true (.sl _ _ (iF o))
theorem LY (n:Nat) (o:List Int):Flat (.sl n (aK o))=True:=eq_true (.sl _ _ (gF o))
theorem EC (n:Nat) (o:List kN):Flat (.sl n (dC o))=True:=eq_true (.sl _ _ (mY o))
theorem Wq (n:Nat) (o:List Block):Flat (.sl n (aF o))=True:=eq_true (.sl _ _ (lA o))
theorem Nm (n:Nat) (o:List Request):Flat (.sl n (aE o))=True:=eq_true (.sl _ _ (uD o))
theorem ED (n:Nat) (o:List Node):Flat (.sl n (bZ o))=True:=eq_true (.sl _ _ (iD o))
theorem ZD (r:cJ):Flat (.agg (bD r))=True:=eq_true (qR r)
theorem LZ (r:Block):Flat (.agg (aV r))=True:=eq_true (tF r)
theorem ZE (r:qN):Flat (.agg (gI r))=True:=eq_true (.agg _ (iQ r))
theorem Bc (r:dP):Flat (.agg (aY r))=True:=eq_true (.agg _ (bM r))
theorem O6 (r:Request):Flat (.agg (dD r))=True:=eq_true (.agg _ (jO r))
theorem Ws (r:gV):Flat (.agg (dJ r))=True:=eq_true (.agg _ (jP r))
theorem EE (r:pE):Flat (.agg (fL r))=True:=eq_true (.agg _ (Ei r))
theorem MA (x:AV):Flat (.agg [x])↔Flat x:=by
 constructor
 ·intro h;cases h with|agg _ h=>exact h x (by simp)
 ·intro h;exact .agg _ (by simpa using h)
theorem dV:(type_of% aF7)∧(type_of% LV)∧(type_of% LW)∧(type_of% EB)∧(type_of% Wp)∧(type_of% Nl)∧(type_of% LX)∧(type_of% LY)∧(type_of% EC)∧(type_of% Wq)∧(type_of% Nm)∧(type_of% ED)∧(type_of% ZD)∧(type_of% LZ)∧(type_of% ZE)∧(type_of% Bc)∧(type_of% O6)∧(type_of% Ws)∧(type_of% EE)∧(type_of% MA)∧(type_of% yO)∧(type_of% Nj)∧(type_of% EA)∧(type_of% LS)∧(type_of% wP)∧(type_of% tZ)∧(type_of% zJ)∧(type_of% zK)∧(type_of% mX)∧(type_of% iE)∧(type_of% TW) :=
 ⟨aF7,LV,LW,EB,Wp,Nl,LX,LY,EC,Wq,Nm,ED,ZD,LZ,ZE,Bc,O6,Ws,EE,MA,yO,Nj,EA,LS,wP,tZ,zJ,zK,mX,iE,TW⟩
structure SV where
 B:Option (List Int)
 L:Option (List kN)
 Q:Option (List Int)
 E:Option (List sC)
 O:Option (List Block)
 T:Option (List Table)
 ns:List Node
def Cw (a:sC):Prop:=∃V:Option (List Int),a.eU=ov aK V∧((ol V).length:Int)<1000000
def qJ (t:Table):Prop:=∃b:Option (List Int),t.iP=ov bJ b∧((ol b).length:Int)<1000000
structure SD (s:aL) (v:SV):Prop where
 iP:s.cFg.iP=ov bJ v.B
 eA:s.gH.eA=ov dC v.L
 gW:s.gH.gW=ov aK v.Q
 early:s.cD.early=ov dN v.E
 bK:s.cD.bK=ov aF v.O
 tree:s.tree=⟨.sl v.ns.length (bZ v.ns)⟩
 tables:s.tables=ov aI v.T
 eV:∀a∈ol v.E,Cw a
 tB:∀t∈ol v.T,qJ t
 nB:((ol v.B).length:Int)<1000000
 nL:((ol v.L).length:Int)<1000000
 nQ:((ol v.Q).length:Int)<1000000
 nE:((ol v.E).length:Int)<1000000
 nO:((ol v.O).length:Int)<1000000
 nT:((ol v.T).length:Int)<1000000
 nn:(v.ns.length:Int)<1000000
theorem Cw.fl {a:sC} (h:Cw a):Flat a.eU:=by obtain⟨V,h,_⟩:=h;rw[h];exact bW V
theorem qJ.fl {a:Table} (h:qJ a):Flat a.iP:=by obtain⟨V,h,_⟩:=h;rw[h];exact dU V
theorem SD.fE {s:aL} {v:SV} (h:SD s v):Flat (ov dN v.E):=Wt v.E fun a ha=>(h.eV a ha).fl
theorem SD.fT {s:aL} {v:SV} (h:SD s v):Flat (ov aI v.T):=fY v.T fun a ha=>(h.tB a ha).fl
theorem SD.flat {s:aL} {v:SV} (h:SD s v):Flat (.agg (aA s)):=by
 rw[wP,h.iP,h.eA,h.gW,h.early,h.bK,h.tree,h.tables];exact⟨dU _,qY _,bW _,h.fE,uC _,.sl _ _ (iD _),h.fT⟩
theorem c97 {s:aL} {v:SV} (hs:SD s v):aB Tryz.prog 97 [.agg (aA s)]=some (.v (.int .i64 (ol v.B).length)):=by
 rw[cL Tryz.func97 rfl aPR rfl];simp only[Z8,seval,hs.iP];exact bX rfl (by simp only[E8,seval]<;>rfl) (.v _)
theorem Wu {s:aL} {v:SV} (hs:SD s v) (st:St) (d:Option Nat):aN (aB Tryz.prog) 97 [.agg (aA s)] st d=some { dst:=d,val:=.v (.int .i64 (ol v.B).length)}:=bG (cU hs.flat) (c97 hs) (.v _)
noncomputable def xM (s:aL) (x:Int):Int:=IntKind.u64.wrap (x.tdiv s.cFg.kE)
theorem c98 (s:aL) (h:s.cFg.kE≠0) (x:Int):aB Tryz.prog 98 [.agg (aA s),.v (.int .u64 x)]=some (.v (.int .u64 (xM s x))):=by
 rw[cL Tryz.func98 rfl aPS rfl];have h0:(s.cFg.kE=0)=False:=eq_false h
 simp only[Z8,seval,h0];exact bX rfl (by simp only[E8,seval,xM]<;>rfl) (.v _)
theorem Mp (s:aL) (h:s.cFg.kE≠0) (hf:Flat (.agg (aA s))) (x:Int) (st:St) (d:Option Nat):aN (aB Tryz.prog) 98 [.agg (aA s),.v (.int .u64 x)] st d=some { dst:=d,val:=.v (.int .u64 (xM s x))}:=bG (bE hf (.v _)) (c98 s h x) (.v _)
noncomputable def vO (s:aL) (e:Int):Int × Int:=Nd e s.cFg.kE
theorem c99 (s:aL) (x:Int):aB Tryz.prog 99 [.agg (aA s),.v (.int .u64 x)]=some (.eE [.v (.int .u64 (vO s x).1),.v (.bool ((vO s x).2 == 0))]):=by
 rw[cL Tryz.func99 rfl aPU rfl];simp only[Z8,seval,aPh,dM];exact dK rfl rfl rfl (by simp only[E8,seval,vO]<;>rfl) (by simp only[E8,seval,vO]<;>rfl)
theorem Vc (s:aL) (hf:Flat (.agg (aA s))) (x:Int) (st:St) (d:Option Nat):aN (aB Tryz.prog) 99 [.agg (aA s),.v (.int .u64 x)] st d=some { dst:=d,val:=.eE [.v (.int .u64 (vO s x).1),.v (.bool ((vO s x).2 == 0))]}:=bG (bE hf (.v _)) (c99 s x) (.eE _ (bE (.v _) (.v _)))
theorem aPV {s:aL} {v:SV} (hs:SD s v) (i:Int):aB Tryz.prog 251 [.agg (aA s),.v (.int .i64 i)]=some (.v (.bool (decide (0≤i) && decide (i<v.ns.length)))):=by
 rw[cL Tryz.func251 rfl aKx rfl];by_cases h:0≤i
 all_goals
  simp only[Z8,seval,h,hs.tree,decide_true,decide_false,Bool.true_and,Bool.false_and];exact bX rfl (by simp only[E8,seval,h,decide_true,decide_false,Bool.true_and,Bool.false_and]<;>rfl) (.v _)
theorem Wv {s:aL} {v:SV} (hs:SD s v) (i:Int) (st:St) (d:Option Nat):aN (aB Tryz.prog) 251 [.agg (aA s),.v (.int .i64 i)] st d=some { dst:=d,val:=.v (.bool (decide (0≤i) && decide (i<v.ns.length)))}:=bG (bE hs.flat (.v _)) (aPV hs i) (.v _)
def O7 (s:aL) (b:Block):Prop:=b.fin.aG≤b.gJ.aG∧b.gJ.aG≤b.dW.pj.aG∧b.fin.aG≤b.dW.pf.aG∧b.dW.pf.aG≤b.dW.pj.aG∧b.dW.pj.aG≤xM s b.slot
theorem aPW (s:aL) (h:s.cFg.kE≠0) (hf:Flat (.agg (aA s))) (b:Block):aB Tryz.prog 137 [.agg (aA s),.agg (aV b)]=some (.v (.bool (decide (O7 s b)))):=by
 rw[cL Tryz.func137 rfl aKy rfl];have h98:=Mp s h hf
 unfold O7;by_cases h1:b.fin.aG≤b.gJ.aG
 ·by_cases h2:b.gJ.aG≤b.dW.pj.aG
  ·by_cases h3:b.fin.aG≤b.dW.pf.aG
   ·by_cases h4:b.dW.pf.aG≤b.dW.pj.aG
    ·simp only[*,true_and,false_and,and_true,and_false,decide_true,decide_false];simp only[Z8,seval, *];exact bX rfl (by simp only[E8,seval, *]<;>rfl) (.v _)
    ·simp only[*,true_and,false_and,and_true,and_false,decide_true,decide_false];simp only[Z8,seval, *];exact bX rfl (by simp only[E8,seval, *]<;>rfl) (.v _)
   ·simp only[*,true_and,false_and,and_true,and_false,decide_true,decide_false];simp only[Z8,seval, *];exact bX rfl (by simp only[E8,seval, *]<;>rfl) (.v _)
  ·simp only[*,true_and,false_and,and_true,and_false,decide_true,decide_false];simp only[Z8,seval, *];exact bX rfl (by simp only[E8,seval, *]<;>rfl) (.v _)
 ·simp only[*,true_and,false_and,and_true,and_false,decide_true,decide_false];simp only[Z8,seval, *];exact bX rfl (by simp only[E8,seval, *]<;>rfl) (.v _)
theorem aKz (s:aL) (h:s.cFg.kE≠0) (hf:Flat (.agg (aA s))) (b:Block) (st:St) (d:Option Nat):aN (aB Tryz.prog) 137 [.agg (aA s),.agg (aV b)] st d=some { dst:=d,val:=.v (.bool (decide (O7 s b)))}:=bG (bE hf (tF _)) (aPW s h hf b) (.v _)
noncomputable def GJ (s:aL) (ns:List Node) (i e:Int):Prop:=(vO s e).2≠0∨(nd ns i).block.slot≤(vO s e).1
theorem aPX {s:aL} {v:SV} (hs:SD s v) (i e:Int) (i0:0≤i) (i1:i<v.ns.length):aB Tryz.prog 122 [.agg (aA s),.v (.int .i64 i),.v (.int .u64 e)]=some (.v (.bool (decide (GJ s v.ns i e)))):=by
 rw[cL Tryz.func122 rfl aKA rfl];unfold GJ;by_cases h:(vO s e).2=0
 ·have hq:((vO s e).2 == 0)=true:=by simp[h]
  simp only[h,ne_eq,not_true_eq_false,false_or];simp only[Z8,seval,Vc s hs.flat,dM,hq,hs.tree,i0,i1];exact bX rfl (by simp only[E8,seval]<;>rfl) (.v _)
 ·have hq:((vO s e).2 == 0)=false:=by simp[h]
  simp only[h,ne_eq,not_false_eq_true,true_or,decide_true];simp only[Z8,seval,Vc s hs.flat,dM,hq,hs.tree,i0,i1];exact bX rfl (by simp only[E8,seval]<;>rfl) (.v _)
theorem aKB {s:aL} {v:SV} (hs:SD s v) (i e:Int) (i0:0≤i) (i1:i<v.ns.length) (st:St) (d:Option Nat):aN (aB Tryz.prog) 122 [.agg (aA s),.v (.int .i64 i),.v (.int .u64 e)] st d=some { dst:=d,val:=.v (.bool (decide (GJ s v.ns i e)))}:=bG (mD hs.flat (.v _) (.v _)) (aPX hs i e i0 i1) (.v _)
theorem mZ (x:Int) (h1:-9223372036854775808≤x) (h2:x≤9223372036854775807):IntKind.i64.wrap x=x:=wrap_i64 x h1 h2
theorem yP {α:Type} (z:α) (p:α→Bool) (l:List α) (k:Nat) (h:k<l.length):(l.take (k+1)).filter p=(l.take k).filter p++if p (gx z l k)=true then [gx z l k] else []:=by
 have hg:gx z l k=l[k]:=by simp[gx,h]
 rw[List.take_succ_eq_append_getElem h,List.filter_append,hg];congr 1
 by_cases hp:p l[k]=true<;>simp[hp]
noncomputable def uF (p:Nat→Prop):Nat→Int
 | 0=>-1
 | k+1=>if 0≤uF p k then uF p k else if p k then k else -1
theorem tG {p:Nat→Prop}:∀n:Nat,(∀j,j<n→¬p j)→uF p n=-1
 | 0,_=>rfl
 | n+1,h=>by
   simp only[uF];rw[tG n fun j hj=>h j (by omega),if_neg (by omega),if_neg (h n (by omega))]
theorem Bd {p:Nat→Prop} {k:Nat} (hk:p k) (hj:∀j,j<k→¬p j):∀n:Nat,k<n→uF p n=k
 | 0,h=>by omega
 | n+1,h=>by
   simp only[uF];by_cases Az:k=n
   ·subst Az;rw[tG k hj,if_neg (by omega),if_pos hk]
   ·rw[Bd hk hj n (by omega),if_pos (by omega)]
theorem qZ (p:Nat→Prop) (n:Nat):(uF p n=-1∧∀j,j<n→¬p j)∨∃k:Nat,k<n∧p k∧(∀j,j<k→¬p j)∧uF p n=k:=by
 by_cases h:∃k,k<n∧p k
 ·obtain⟨k,⟨hk,hp⟩,hm⟩:=Ej h
  have hj:∀j,j<k→¬p j:=fun j hj hpj=>by have:=hm j ⟨by omega,hpj⟩;omega
  exact .inr ⟨k,hk,hp,hj,Bd hp hj n hk⟩
 ·have h':∀j,j<n→¬p j:=fun j hj hp=>h ⟨j,hj,hp⟩
  exact .inl ⟨tG n h',h'⟩
theorem TX (p:Nat→Prop) (n:Nat):-1≤uF p n∧uF p n<n:=by
 rcases qZ p n with ⟨h,_⟩|⟨k,hk,_,_,h⟩<;>rw[h]<;>omega
noncomputable def Ja (l:List Table) (c:dP):Int:=uF (fun k=>(gx dX l k).ck=c) l.length
theorem c65 (o:Option (List Table)) (hn:((ol o).length:Int)<1000000) (c:dP):aB Tryz.prog 65 [ov aI o,.agg (aY c)]=some (.v (.int .i64 (Ja (ol o) c))):=by
 rw[cL Tryz.func65 rfl aPY (by cases o<;>rfl)]
 simp only[Z8,seval];refine kI (fun m st=>∃k:Nat,(st.env 0=ov aI o∧st.env 3=.ptr 3 0 0∧st.heap 3 0=some (.cells (aY c))∧st.env 5=.v (.int .i64 k))∧(∀j:Nat,j<k→¬((gx dX (ol o) (j:Int)).ck=c))∧k≤(ol o).length∧m=(ol o).length-k)
  (fun e st=>(e=.ret∧∃k:Nat,k<(ol o).length∧((gx dX (ol o) (k:Int)).ck=c)∧(∀j:Nat,j<k→¬((gx dX (ol o) (j:Int)).ck=c))∧st.env 4=.v (.int .i64 (k:Nat)))∨(e=.exit 0∧(∀j:Nat,j<(ol o).length→¬((gx dX (ol o) (j:Int)).ck=c))∧st.env 0=ov aI o∧st.env 3=.ptr 3 0 0∧st.heap 3 0=some (.cells (aY c)))) ((ol o).length) ?step ?start ?rest
 case step =>
  rintro m st ⟨k,hI,hj,hk,hm⟩
  by_cases bA:(k:Int)<(ol o).length
  ·have q0:(0:Int)≤k:=by omega
   have hw:IntKind.i64.wrap ((k:Int)+1)=((k+1:Nat):Int):=by rw[mZ _ (by omega) (by omega)];omega
   by_cases hh:(gx dX (ol o) (k:Int)).ck=c
   ·apply oT (.ret)
    ·simp only[Z8,seval,hI,bA,q0,hh];rfl
    ·exact .inl ⟨rfl,k,by omega,hh,hj,by simp only[E8,seval]⟩
   ·apply oN ((ol o).length-(k+1))
    ·simp only[Z8,seval,hI,bA,q0,hh,hw];rfl
    ·exact⟨k+1,by simp only[E8,seval,hI],fun j h=>(Nat.lt_succ_iff_lt_or_eq.1 h).elim (hj j) fun e=>by subst e;exact hh,by omega,rfl⟩
  ·apply oT (.exit 0)
   ·simp only[Z8,seval,hI,bA];rfl
   ·exact .inr ⟨rfl,fun j h=>hj j (by omega),by simp only[E8,seval,hI]⟩
 case start=>exact⟨0,by simp only[E8,seval]<;>rfl,fun j h=>by omega,by omega,by omega⟩
 case rest =>
  rintro e st (⟨rfl,k,hk,hh,hj,h⟩|⟨rfl,hj,h⟩)
  ·have hv:Ja (ol o) c=k:=Bd hh hj _ hk
   simp only[Z8,seval];exact bX rfl (by simp only[E8,seval,h,hv]<;>rfl) (.v _)
  ·have hv:Ja (ol o) c=-1:=tG _ hj
   simp only[Z8,seval];exact bX rfl (by simp only[E8,seval,h,hv]<;>rfl) (.v _)
theorem SL (o:Option (List Table)) (hn:((ol o).length:Int)<1000000) (hf:Flat (ov aI o)) (c:dP) (st:St) (d:Option Nat):aN (aB Tryz.prog) 65 [ov aI o,.agg (aY c)] st d=some { dst:=d,val:=.v (.int .i64 (Ja (ol o) c))}:=bG (bE hf (.agg _ (bM c))) (c65 o hn c) (.v _)
noncomputable def nz {α:Type} (l:List α):Option (List α):=if l=[] then none else some l
theorem nA {α:Type} (l:List α):ol (nz l)=l:=by unfold nz;split<;>simp[ol, *]
noncomputable def rV (l:List Table) (x:Int):List Table:=l.filter fun t=>decide (x≤t.ck.aG)
noncomputable def Nn (e sz:Nat) {α:Type} (c:List α→List AV) (l:List α):AV:=if l=[] then .v (.slice none 0 0) else .uniq e sz l.length (c l)
theorem aPZ (o:Option (List Table)) (hn:((ol o).length:Int)<1000000) (ht:∀t∈ol o,Flat t.iP) (x:Int):aB Tryz.prog 128 [ov aI o,.v (.int .u64 x)]=some (Nn 118 34 aI (rV (ol o) x)):=by
 rw[cL Tryz.func128 rfl aKC (by cases o<;>rfl)]
 have SM:∀l:List Table,(∀t∈l,t∈ol o)→∀y∈aI l,Flat y:=fun l h=>jV l fun t m=>ht t (h t m)
 simp only[Z8,seval];refine kI (fun m st=>∃k:Nat,(st.env 0=ov aI o∧st.env 1=.v (.int .u64 x)∧st.env 6=.v (.int .i64 k))∧(((((ol o).take k).filter (fun t=>decide (x≤t.ck.aG)))=[]∧st.env 5=.v (.slice none 0 0))∨((((ol o).take k).filter (fun t=>decide (x≤t.ck.aG)))≠[]∧∃g,st.env 5=.own 27 g∧g<st.aQ 27∧st.heap 27 g=some (.row 118 34 (((ol o).take k).filter (fun t=>decide (x≤t.ck.aG))).length (aI (((ol o).take k).filter (fun t=>decide (x≤t.ck.aG)))))))∧k≤(ol o).length∧m=(ol o).length-k)
  (fun e st=>e=.exit 0∧(((((ol o).take (ol o).length).filter (fun t=>decide (x≤t.ck.aG)))=[]∧st.env 5=.v (.slice none 0 0))∨((((ol o).take (ol o).length).filter (fun t=>decide (x≤t.ck.aG)))≠[]∧∃g,st.env 5=.own 27 g∧g<st.aQ 27∧st.heap 27 g=some (.row 118 34 (((ol o).take (ol o).length).filter (fun t=>decide (x≤t.ck.aG))).length (aI (((ol o).take (ol o).length).filter (fun t=>decide (x≤t.ck.aG)))))))∧st.env 0=ov aI o∧st.env 1=.v (.int .u64 x)) ((ol o).length) ?step ?start ?rest
 case step =>
  rintro m st ⟨k,hI,h5,hk,hm⟩
  have Gk:(((((ol o).take k).filter (fun t=>decide (x≤t.ck.aG))).length:Nat):Int)<1000000:=by have:=List.length_filter_le (fun t=>decide (x≤t.ck.aG)) ((ol o).take k);have h2:=List.length_take_le' k (ol o);omega
  by_cases bA:(k:Int)<(ol o).length
  ·have q0:(0:Int)≤k:=by omega
   have hw:IntKind.i64.wrap ((k:Int)+1)=((k+1:Nat):Int):=by rw[mZ _ (by omega) (by omega)];omega
   have hs:=yP dX (fun t=>decide (x≤t.ck.aG)) (ol o) k (by omega)
   have aF8:Flat (.agg (cA (gx dX (ol o) (k:Int)))):=(iE _).2 (ht _ (pF q0 bA))
   by_cases hh:x≤(gx dX (ol o) (k:Int)).ck.aG
   ·rw[if_pos (decide_eq_true hh)] at hs;rcases h5 with ⟨hy,h5⟩|⟨hy,g,h5⟩
    ·rw[hy] at hs;apply oN ((ol o).length-(k+1))
     ·simp only[Z8,seval,hI,h5,bA,hw,q0,aF8,hh];rfl
     ·exact⟨k+1,by simp only[E8,seval,hI],.inr ⟨by rw[hs];simp,_,by simp only[E8,seval]<;>rfl,(by simp only[E8,seval]<;>omega),(by rw[hs];simp only[E8,seval]<;>rfl)⟩,by omega,rfl⟩
    ·apply oN ((ol o).length-(k+1))
     ·simp only[Z8,seval,hI,h5,Gk,bA,hw,q0,aF8,hh];rfl
     ·exact⟨k+1,by simp only[E8,seval,hI],.inr ⟨by rw[hs];simp,_,by simp only[E8,seval]<;>rfl,(by simp only[E8,seval]<;>omega),(by rw[hs];simp only[E8,seval]<;>rfl)⟩,by omega,rfl⟩
   ·rw[if_neg (by simpa using hh),List.append_nil] at hs
    apply oN ((ol o).length-(k+1))
    ·simp only[Z8,seval,hI,bA,hw,q0,aF8,hh];rfl
    ·exact⟨k+1,by simp only[E8,seval,hI],by rw[hs];simpa only[E8,seval] using h5,by omega,rfl⟩
  ·have Az:k=(ol o).length:=by omega
   rw[Az] at h5;apply oT (.exit 0)
   ·simp only[Z8,seval,hI,bA];rfl
   ·exact⟨rfl,by simpa only[E8,seval] using h5,by simp only[E8,seval,hI]⟩
 case start=>exact⟨0,by simp only[E8,seval]<;>rfl,.inl ⟨rfl,by simp only[E8,seval]⟩,by omega,by omega⟩
 case rest =>
  rintro e st ⟨rfl,⟨hy,h5⟩|⟨hy,g,h5,hg,Ak⟩,hI⟩
  ·rw[List.take_length] at hy;rw[show Nn 118 34 aI (rV (ol o) x)=.v (.slice none 0 0) from if_pos hy];simp only[Z8,seval,h5];exact bX rfl (by simp only[E8,seval]<;>rfl) (.v _)
  ·rw[List.take_length] at hy Ak;rw[show Nn 118 34 aI (rV (ol o) x)=.uniq 118 34 (rV (ol o) x).length (aI (rV (ol o) x)) from if_neg hy];simp only[Z8,seval,h5,Ak];exact tO rfl (by simp only[E8,seval];rfl) (by simp only[E8,seval,Ak];rfl) (SM _ fun t m=>(List.mem_filter.1 m).1)
theorem GK {T n sz:Nat} (ha:jJ Tryz.prog T=some (n,sz)) (st:St) (x:AV) {k:IntKind} {i:Int} (h0:0≤i) (h1:i<n):bH Tryz.prog st T x (.v (.int k i))=vF x (i.toNat * sz):=by
 simp only[bH,ha];rw[if_pos ⟨h0,h1⟩]
theorem TY (st:St) (x:AV) {k:IntKind} {i:Int} (h0:0≤i) (h1:i<32):bH Tryz.prog st 27 x (.v (.int k i))=vF x (i.toNat * 1):=GK aF9 st x h0 h1
theorem Hb (st:St) (x:AV) {k:IntKind} {i:Int} (h0:0≤i) (h1:i<4):bH Tryz.prog st 33 x (.v (.int k i))=vF x (i.toNat * 1):=GK aKD st x h0 h1
def rb (r:cJ) (i:Int):Int:=r.toList.getD i.toNat 0
def wb (r:qN) (i:Int):Int:=r.toList.getD i.toNat 0
theorem EF (r:cJ) {i:Int} (h0:0≤i) (h1:i<32):(bD r)[i.toNat]? = some (.v (.int .u8 (rb r i))):=by
 have h:i.toNat<r.toList.length:=by simp;omega
 unfold bD rb;rw[List.getElem?_map,List.getElem?_eq_getElem h,List.getD_eq_getElem?_getD,List.getElem?_eq_getElem h];rfl
theorem Ql (r:qN) {i:Int} (h0:0≤i) (h1:i<4):(gI r)[i.toNat]? = some (.v (.int .u64 (wb r i))):=by
 have h:i.toNat<r.toList.length:=by simp;omega
 unfold gI wb;rw[List.getElem?_map,List.getElem?_eq_getElem h,List.getD_eq_getElem?_getD,List.getElem?_eq_getElem h];rfl
theorem aKE (a b:cJ):∃c:Int,aB Tryz.prog 176 [.agg (bD a),.agg (bD b)]=some (.v (.int .i64 c)):=by
 rw[cL Tryz.func176 rfl aKF rfl];suffices h:∃r,cS (zC Tryz.prog _ (St.init [.agg (bD a),.agg (bD b)])) (Al Tryz.prog 176 Tryz.f176)=some r∧∃c:Int,r=.v (.int .i64 c) by
  obtain⟨r,h,c,rfl⟩:=h;exact⟨c,h⟩
 simp only[Z8,seval];refine cF (fun m st=>∃k:Nat,(st.env 2=.ptr 2 0 0∧st.heap 2 0=some (.cells (bD a))∧st.env 3=.ptr 3 0 0∧st.heap 3 0=some (.cells (bD b))∧st.env 5=.v (.int .i64 k))∧k≤32∧m=32-k)
  (fun e st=>(e=.ret∧∃c:Int,st.env 4=.v (.int .i64 c))∨e=.exit 0) 32 ?step ?start ?rest
 case step =>
  rintro m st ⟨k,hI,hk,hm⟩
  by_cases bA:(k:Int)<32
  ·have q0:(0:Int)≤k:=by omega
   have hw:IntKind.i64.wrap ((k:Int)+1)=((k+1:Nat):Int):=by rw[mZ _ (by omega) (by omega)];omega
   have ga:=EF a q0 bA
   have gb:=EF b q0 bA
   by_cases h1:rb a k<rb b k
   ·apply oT (.ret)
    ·simp only[Z8,seval,hI,bA,q0,TY,ga,gb,h1];rfl
    ·exact .inl ⟨rfl,-1,by simp only[E8,seval]⟩
   ·by_cases h2:rb b k<rb a k
    ·apply oT (.ret)
     ·simp only[Z8,seval,hI,bA,q0,TY,ga,gb,h1,h2];rfl
     ·exact .inl ⟨rfl,1,by simp only[E8,seval]⟩
    ·apply oN (32-(k+1))
     ·simp only[Z8,seval,hI,bA,q0,TY,ga,gb,h1,h2,hw];rfl
     ·exact⟨k+1,by simp only[E8,seval,hI],by omega,rfl⟩
  ·apply oT (.exit 0)
   ·simp only[Z8,seval,hI,bA];rfl
   ·exact .inr rfl
 case start=>exact⟨0,by simp only[E8,seval]<;>rfl,by omega,by omega⟩
 case rest =>
  rintro e st (⟨rfl,c,h⟩|rfl)
  ·simp only[Z8,seval];exact⟨_,bX rfl h (.v _),c,rfl⟩
  ·simp only[Z8,seval];exact⟨_,bX rfl (by simp only[E8,seval]<;>rfl) (.v _),0,rfl⟩
noncomputable def aKG (a b:cJ):Int:=Classical.choose (aKE a b)
theorem aGa (a b:cJ) (st:St) (d:Option Nat):aN (aB Tryz.prog) 176 [.agg (bD a),.agg (bD b)] st d=some { dst:=d,val:=.v (.int .i64 (aKG a b))}:=bG (bE (qR a) (qR b)) (Classical.choose_spec (aKE a b)) (.v _)
theorem aKH (a b:qN):∃c:Int,aB Tryz.prog 170 [.agg (gI a),.agg (gI b)]=some (.v (.int .i64 c)):=by
 rw[cL Tryz.func170 rfl aKI rfl];suffices h:∃r,cS (zC Tryz.prog _ (St.init [.agg (gI a),.agg (gI b)])) (Al Tryz.prog 170 Tryz.f170)=some r∧∃c:Int,r=.v (.int .i64 c) by
  obtain⟨r,h,c,rfl⟩:=h;exact⟨c,h⟩
 simp only[Z8,seval];refine cF (fun m st=>∃k:Nat,(st.env 2=.ptr 2 0 0∧st.heap 2 0=some (.cells (gI a))∧st.env 3=.ptr 3 0 0∧st.heap 3 0=some (.cells (gI b))∧st.env 5=.v (.int .i64 ((k:Int)-1)))∧k≤4∧m=k)
  (fun e st=>(e=.ret∧∃c:Int,st.env 4=.v (.int .i64 c))∨e=.exit 0) 4 ?step ?start ?rest
 case step =>
  rintro m st ⟨k,hI,hk,hm⟩
  by_cases bA:(0:Int)≤(k:Int)-1
  ·have q1:(k:Int)-1<4:=by omega
   have hw:IntKind.i64.wrap ((k:Int)-1-1)=((k-1:Nat):Int)-1:=by rw[mZ _ (by omega) (by omega)];omega
   have ga:=Ql a bA q1
   have gb:=Ql b bA q1
   by_cases h1:wb a ((k:Int)-1)<wb b ((k:Int)-1)
   ·apply oT (.ret)
    ·simp only[Z8,seval,hI,bA,q1,Hb,ga,gb,h1];rfl
    ·exact .inl ⟨rfl,-1,by simp only[E8,seval]⟩
   ·by_cases h2:wb b ((k:Int)-1)<wb a ((k:Int)-1)
    ·apply oT (.ret)
     ·simp only[Z8,seval,hI,bA,q1,Hb,ga,gb,h1,h2];rfl
     ·exact .inl ⟨rfl,1,by simp only[E8,seval]⟩
    ·apply oN (k-1)
     ·simp only[Z8,seval,hI,bA,q1,Hb,ga,gb,h1,h2,hw];rfl
     ·exact⟨k-1,by simp only[E8,seval,hI],by omega,rfl⟩
  ·apply oT (.exit 0)
   ·simp only[Z8,seval,hI,bA];rfl
   ·exact .inr rfl
 case start=>exact⟨4,by simp only[E8,seval]<;>rfl,by omega,by omega⟩
 case rest =>
  rintro e st (⟨rfl,c,h⟩|rfl)
  ·simp only[Z8,seval];exact⟨_,bX rfl h (.v _),c,rfl⟩
  ·simp only[Z8,seval];exact⟨_,bX rfl (by simp only[E8,seval]<;>rfl) (.v _),0,rfl⟩
noncomputable def aCi (a b:qN):Int:=Classical.choose (aKH a b)
theorem aKJ (a b:qN) (st:St) (d:Option Nat):aN (aB Tryz.prog) 170 [.agg (gI a),.agg (gI b)] st d=some { dst:=d,val:=.v (.int .i64 (aCi a b))}:=bG (bE (.agg _ (iQ a)) (.agg _ (iQ b))) (Classical.choose_spec (aKH a b)) (.v _)
theorem aP0 (p b:Block):aB Tryz.prog 169 [.agg (aV p),.agg (aV b)]=some (.v (.bool (!decide (b.jK=dR) && decide (p.jK=dR)))):=by
 rw[cL Tryz.func169 rfl aKK rfl];by_cases h:b.jK=dR
 all_goals
  simp only[h,decide_true,decide_false,Bool.not_true,Bool.not_false,Bool.true_and,Bool.false_and];simp only[Z8,seval,h,decide_true,decide_false];exact bX rfl (by simp only[E8,seval]<;>rfl) (.v _)
theorem aGb (p b:Block) (st:St) (d:Option Nat):aN (aB Tryz.prog) 169 [.agg (aV p),.agg (aV b)] st d=some { dst:=d,val:=.v (.bool (!decide (b.jK=dR) && decide (p.jK=dR)))}:=bG (bE (tF p) (tF b)) (aP0 p b) (.v _)
def B8 (BG:qN) (p b:Block):Prop:=(b.jK=dR→p.jK=dR)∧(b.jK≠dR→p.jK=dR→aCi b.EG BG<0∧0≤aCi b.diff BG)
theorem aP1 (BG:qN) (p b:Block):aB Tryz.prog 114 [.agg (gI BG),.agg (aV p),.agg (aV b)]=some (.v (.bool (decide (B8 BG p b)))):=by
 rw[cL Tryz.func114 rfl aKL rfl];unfold B8;by_cases h:b.jK=dR
 ·simp only[h,forall_const,ne_eq,not_true_eq_false,false_implies,and_true];simp only[Z8,seval,h,decide_true];exact bX rfl (by simp only[E8,seval]<;>rfl) (.v _)
 ·by_cases hp:p.jK=dR
  ·simp only[h,hp,ne_eq,not_false_eq_true,forall_const,false_implies,true_and];by_cases h1:aCi b.EG BG<0
   ·simp only[h1,true_and];simp only[Z8,seval,h,hp,aGb,aKJ,h1,decide_true,decide_false,Bool.not_false,Bool.true_and];exact bX rfl (by simp only[E8,seval]<;>rfl) (.v _)
   ·simp only[h1,false_and,decide_false];simp only[Z8,seval,h,hp,aGb,aKJ,h1,decide_true,decide_false,Bool.not_false,Bool.true_and];exact bX rfl (by simp only[E8,seval]<;>rfl) (.v _)
  ·simp only[h,hp,ne_eq,not_false_eq_true,forall_const,false_implies,and_self,decide_true];simp only[Z8,seval,h,hp,aGb,decide_false,Bool.not_false,Bool.true_and];exact bX rfl (by simp only[E8,seval]<;>rfl) (.v _)
theorem Ww (BG:qN) (p b:Block) (st:St) (d:Option Nat):aN (aB Tryz.prog) 114 [.agg (gI BG),.agg (aV p),.agg (aV b)] st d=some { dst:=d,val:=.v (.bool (decide (B8 BG p b)))}:=bG (mD (.agg _ (iQ BG)) (tF p) (tF b)) (aP1 BG p b) (.v _)
noncomputable def Ty (b:Block):Int:=if b.jK=dR then 1 else 0
theorem aP2 (b:Block):aB Tryz.prog 233 [.agg (aV b)]=some (.v (.int .i64 (Ty b))):=by
 rw[cL Tryz.func233 rfl aKM rfl];unfold Ty;by_cases h:b.jK=dR
 ·simp only[h,if_true];simp only[Z8,seval,h,decide_true];exact bX rfl (by simp only[E8,seval]<;>rfl) (.v _)
 ·simp only[h,if_false];simp only[Z8,seval,h,decide_false];exact bX rfl (by simp only[E8,seval]<;>rfl) (.v _)
theorem aKN (b:Block) (st:St) (d:Option Nat):aN (aB Tryz.prog) 233 [.agg (aV b)] st d=some { dst:=d,val:=.v (.int .i64 (Ty b))}:=bG (cU (tF b)) (aP2 b) (.v _)
theorem kx {g:Nat} {args:List AV} {r:AV} (h:aB Tryz.prog g args=some r) (hf:∀x∈args,Flat x) (hr:Flat r):∀(st:St) (d:Option Nat),aN (aB Tryz.prog) g args st d=some { dst:=d,val:=r }:=fun st d=>bG hf h hr
theorem bf {x y:Int} (h:¬x=y):(x == y)=false∧(x != y)=true:=by simp[h]
theorem bt {x y:Int} (h:x=y):(x == y)=true∧(x != y)=false:=by simp[h]
def Tz (l:List Int) (n:Int) (k:Nat):Prop:=gx (0:Int) l k<0∨n≤gx (0:Int) l k∨(0<k∧gx (0:Int) l k≤gx (0:Int) l ((k:Int)-1))
noncomputable def AW (l:List Int) (n:Int):Int:=if l=[] then 2 else if uF (Tz l n) l.length<0 then 0 else if gx (0:Int) l (uF (Tz l n) l.length)<0∨n≤gx (0:Int) l (uF (Tz l n) l.length) then 3 else 8
theorem c40 (o:Option (List Int)) (hn:((ol o).length:Int)<1000000) (n:Int):aB Tryz.prog 40 [ov aK o,.v (.int .i64 n)]=some (.v (.int .i64 (AW (ol o) n))):=by
 rw[cL Tryz.func40 rfl aP3 (by cases o<;>rfl)]
 refine iN ?_
 by_cases h0:ol o=[]
 ·have hv:AW (ol o) n=2:=if_pos h0
  have hl:(ol o).length=0:=by rw[h0];rfl
  simp only[Z8,seval,hl];exact⟨_,bX rfl (by simp only[E8,seval,hv]<;>rfl) (by first|exact .v _|simp only[dV,hv]),rfl⟩
 have hl:=bf (x:=((ol o).length:Int)) (y:=0) (by have:=List.length_pos_iff.2 h0;omega)
 simp only[Z8,seval,hl];refine cF (fun m st=>∃k:Nat,(st.env 0=ov aK o∧st.env 1=.v (.int .i64 n)∧st.env 5=.v (.int .i64 k))∧(∀j:Nat,j<k→¬Tz (ol o) n j)∧k≤(ol o).length∧m=(ol o).length-k)
  (fun e st=>(e=.ret∧∃k:Nat,k<(ol o).length∧Tz (ol o) n k∧(∀j:Nat,j<k→¬Tz (ol o) n j)∧st.env 4=.v (.int .i64 (if gx (0:Int) (ol o) k<0∨n≤gx (0:Int) (ol o) k then 3 else 8)))∨(e=.exit 0∧∀j:Nat,j<(ol o).length→¬Tz (ol o) n j)) (ol o).length ?step ?start ?rest
 case step =>
  rintro m st ⟨k,hI,hj,hk,hm⟩
  by_cases bA:(k:Int)<(ol o).length
  ·have q0:(0:Int)≤k:=by omega
   have hw:IntKind.i64.wrap ((k:Int)+1)=((k+1:Nat):Int):=by rw[mZ _ (by omega) (by omega)];omega
   by_cases h1:gx (0:Int) (ol o) k<0
   ·apply oT (.ret)
    ·simp only[Z8,seval,hI,bA,q0,h1];rfl
    ·exact .inl ⟨rfl,k,by omega,.inl h1,hj,by simp only[E8,seval,h1,true_or]⟩
   by_cases h2:n≤gx (0:Int) (ol o) k
   ·apply oT (.ret)
    ·simp only[Z8,seval,hI,bA,q0,h1,h2];rfl
    ·exact .inl ⟨rfl,k,by omega,.inr (.inl h2),hj,by simp only[E8,seval,h2,or_true]⟩
   by_cases h3:(0:Int)<k
   ·have q1:(0:Int)≤(k:Int)-1:=by omega
    have q2:(k:Int)-1<(ol o).length:=by omega
    have YZ:IntKind.i64.wrap ((k:Int)-1)=(k:Int)-1:=by rw[mZ _ (by omega) (by omega)]
    by_cases h4:gx (0:Int) (ol o) k≤gx (0:Int) (ol o) ((k:Int)-1)
    ·apply oT (.ret)
     ·simp only[Z8,seval,hI,bA,q0,q1,q2,YZ,h1,h2,h3,h4];rfl
     ·exact .inl ⟨rfl,k,by omega,.inr (.inr ⟨by omega,h4⟩),hj,by simp only[E8,seval,h1,h2,or_self]⟩
    ·apply oN ((ol o).length-(k+1))
     ·simp only[Z8,seval,hI,bA,q0,q1,q2,YZ,h1,h2,h3,h4,hw];rfl
     ·exact⟨k+1,by simp only[E8,seval,hI],fun j h=>(Nat.lt_succ_iff_lt_or_eq.1 h).elim (hj j) fun e=>by subst e;unfold Tz;simp only[h1,h2,h4,and_false,or_self,not_false_eq_true],by omega,rfl⟩
   ·have h5:¬(0<k):=by omega
    apply oN ((ol o).length-(k+1))
    ·simp only[Z8,seval,hI,bA,q0,h1,h2,h3,hw];rfl
    ·exact⟨k+1,by simp only[E8,seval,hI],fun j h=>(Nat.lt_succ_iff_lt_or_eq.1 h).elim (hj j) fun e=>by subst e;unfold Tz;simp only[h1,h2,h5,false_and,or_self,not_false_eq_true],by omega,rfl⟩
  ·apply oT (.exit 0)
   ·simp only[Z8,seval,hI,bA];rfl
   ·exact .inr ⟨rfl,fun j h=>hj j (by omega)⟩
 case start=>exact⟨0,by simp only[E8,seval]<;>rfl,fun j h=>by omega,by omega,by omega⟩
 case rest =>
  rintro e st (⟨rfl,k,hk,hh,hj,h⟩|⟨rfl,hj⟩)
  ·have hv:AW (ol o) n=if gx (0:Int) (ol o) k<0∨n≤gx (0:Int) (ol o) k then 3 else 8:=by
    unfold AW;rw[if_neg h0,Bd hh hj _ hk,if_neg (by omega)]
   rw[← hv] at h;simp only[Z8,seval];exact⟨_,bX rfl (by simp only[E8,seval,h]<;>rfl) (by first|exact .v _|simp only[dV,h]),rfl⟩
  ·have hv:AW (ol o) n=0:=by
    unfold AW;rw[if_neg h0,tG _ hj,if_pos (by omega)]
   simp only[Z8,seval];exact⟨_,bX rfl (by simp only[E8,seval,hv]<;>rfl) (by first|exact .v _|simp only[dV,hv]),rfl⟩
theorem aCj (a b:Int):(BE a b).2≠21:=by unfold BE;split<;>simp
theorem TZ (l:List Int) (n:Int):AW l n≠21:=by unfold AW;split;simp;split;simp;split<;>simp
theorem aKO (o:Option (List Int)) (hn:((ol o).length:Int)<1000000):∃r,aB Tryz.prog 175 [ov bJ o]=some r∧∃a e:Int,r=.eE [.v (.int .u64 a),.v (.int .i64 e)]∧e≠21:=by
 rw[cL Tryz.func175 rfl aEU (by cases o<;>rfl)]
 simp only[Z8,seval];refine cF (fun m st=>∃(k:Nat) (a:Int),(st.env 0=ov bJ o∧st.env 4=.v (.int .u64 a)∧st.env 5=.v (.int .i64 k))∧k≤(ol o).length∧m=(ol o).length-k)
  (fun e st=>(e=.ret∧∃a e:Int,st.env 2=.v (.int .u64 a)∧st.env 3=.v (.int .i64 e)∧e≠21)∨(e=.exit 0∧∃a:Int,st.env 4=.v (.int .u64 a))) (ol o).length ?step ?start ?rest
 case step =>
  rintro m st ⟨k,a,hI,hk,hm⟩
  by_cases bA:(k:Int)<(ol o).length
  ·have q0:(0:Int)≤k:=by omega
   have hw:IntKind.i64.wrap ((k:Int)+1)=((k+1:Nat):Int):=by rw[mZ _ (by omega) (by omega)];omega
   by_cases h1:(BE a (gx (0:Int) (ol o) k)).2=0
   ·apply oN ((ol o).length-(k+1))
    ·simp only[Z8,seval,hI,bA,q0,aFX,dM,h1,hw];rfl
    ·exact⟨k+1,_,by simp only[E8,seval,hI]<;>rfl,by omega,rfl⟩
   ·apply oT (.ret)
    ·simp only[Z8,seval,hI,bA,q0,aFX,dM,bf h1];rfl
    ·exact .inl ⟨rfl,_,_,by simp only[E8,seval]<;>rfl,by simp only[E8,seval]<;>rfl,aCj _ _⟩
  ·apply oT (.exit 0)
   ·simp only[Z8,seval,hI,bA];rfl
   ·exact .inr ⟨rfl,a,by simp only[E8,seval,hI]⟩
 case start=>exact⟨0,0,by simp only[E8,seval]<;>exact⟨rfl,rfl⟩,by omega,by omega⟩
 case rest =>
  rintro e st (⟨rfl,a,e,h,h',gR⟩|⟨rfl,a,h⟩)
  ·simp only[Z8,seval];exact⟨_,dK rfl rfl rfl (by simp only[E8,seval,h,h']<;>rfl) (by simp only[E8,seval,h,h']<;>rfl),_,_,rfl,gR⟩
  ·simp only[Z8,seval,h];exact⟨_,dK rfl rfl rfl (by simp only[E8,seval,h]<;>rfl) (by simp only[E8,seval,h]<;>rfl),_,_,rfl,by decide⟩
theorem aEV (t:Table) (b:Option (List Int)) (hb:t.iP=ov bJ b) (hl:((ol b).length:Int)<1000000) (n:Int):∃r,aB Tryz.prog 130 [.agg (cA t),.v (.int .i64 n)]=some r∧∃e:Int,r=.v (.int .i64 e)∧e≠21∧(e=0→((ol b).length:Int)=n):=by
 obtain⟨r,hr,a,e,rfl,he⟩:=aKO b hl
 have B9:=kx hr (cU (dU b)) (.eE _ (bE (.v _) (.v _)))
 rw[cL Tryz.func130 rfl aEW rfl];by_cases h1:((ol b).length:Int)=n
 ·by_cases h2:e=0
  ·by_cases h3:4611686018427387904<a
   all_goals
    simp only[Z8,seval,hb,bt h1,bt h2,h3,B9,dM];exact⟨_,bX rfl (by simp only[E8,seval]<;>rfl) (by first|exact .v _|simp only[dV]),_,rfl,by decide,fun _=>h1⟩
  ·simp only[Z8,seval,hb,bt h1,bf h2,B9,dM];exact⟨_,bX rfl (by simp only[E8,seval]<;>rfl) (by first|exact .v _|simp only[dV]),_,rfl,by decide,fun _=>h1⟩
 ·simp only[Z8,seval,hb,bf h1];exact⟨_,bX rfl (by simp only[E8,seval]<;>rfl) (by first|exact .v _|simp only[dV]),_,rfl,by decide,fun h=>by cases h⟩
theorem aP4 (t:Table) (ht:qJ t) (n:Int):∃r,aB Tryz.prog 130 [.agg (cA t),.v (.int .i64 n)]=some r∧∃e:Int,r=.v (.int .i64 e)∧e≠21:=by
 obtain⟨b,hb,hl⟩:=ht
 obtain⟨r,hr,e,h1,h2,_⟩:=aEV t b hb hl n
 exact⟨r,hr,e,h1,h2⟩
theorem aGc (a b:dP):∃r,aB Tryz.prog 131 [.agg (aY a),.agg (aY b)]=some r∧∃e:Int,r=.v (.int .i64 e):=by
 rw[cL Tryz.func131 rfl aKP rfl];by_cases h1:a.aG=b.aG
 ·simp only[Z8,seval,bt h1,aGa];exact⟨_,bX rfl (by simp only[E8,seval]<;>rfl) (by first|exact .v _|simp only[dV]),_,rfl⟩
 ·by_cases h2:a.aG<b.aG
  all_goals
   simp only[Z8,seval,bf h1,h2];exact⟨_,bX rfl (by simp only[E8,seval]<;>rfl) (by first|exact .v _|simp only[dV]),_,rfl⟩
noncomputable def aKQ (a b:dP):Int:=Classical.choose (Classical.choose_spec (aGc a b)).2
theorem aKR (a b:dP) (st:St) (d:Option Nat):aN (aB Tryz.prog) 131 [.agg (aY a),.agg (aY b)] st d=some { dst:=d,val:=.v (.int .i64 (aKQ a b))}:=by
 have h:=(Classical.choose_spec (aGc a b)).1
 rw[Classical.choose_spec (Classical.choose_spec (aGc a b)).2] at h;exact bG (bE (.agg _ (bM a)) (.agg _ (bM b))) h (.v _)
def KnB (v:SV) (r:cJ):Prop:=(∃j:Nat,j<(ol v.O).length∧(gx dY (ol v.O) j).root=r)∨0≤aM v.ns r
theorem c54 {s:aL} {v:SV} (hs:SD s v) (r:cJ):aB Tryz.prog 54 [.agg (aA s),.agg (bD r)]=some (.v (.bool (decide (KnB v r)))):=by
 have hn:=hs.nO
 rw[cL Tryz.func54 rfl aP5 rfl];refine iN ?_
 simp only[Z8,seval,hs.bK];refine cF (fun m st=>∃k:Nat,(st.env 2=.ptr 2 0 0∧st.heap 2 0=some (.cells (aA s))∧st.env 3=.ptr 3 0 0∧st.heap 3 0=some (.cells (bD r))∧st.env 5=.v (.int .i64 k))∧(∀j:Nat,j<k→¬((gx dY (ol v.O) (j:Int)).root=r))∧k≤(ol v.O).length∧m=(ol v.O).length-k)
  (fun e st=>(e=.ret∧∃k:Nat,k<(ol v.O).length∧((gx dY (ol v.O) (k:Int)).root=r)∧(∀j:Nat,j<k→¬((gx dY (ol v.O) (j:Int)).root=r))∧st.env 4=.v (.bool true))∨(e=.exit 0∧(∀j:Nat,j<(ol v.O).length→¬((gx dY (ol v.O) (j:Int)).root=r))∧st.env 2=.ptr 2 0 0∧st.heap 2 0=some (.cells (aA s))∧st.env 3=.ptr 3 0 0∧st.heap 3 0=some (.cells (bD r)))) ((ol v.O).length) ?step ?start ?rest
 case step =>
  rintro m st ⟨k,hI,hj,hk,hm⟩
  by_cases bA:(k:Int)<(ol v.O).length
  ·have q0:(0:Int)≤k:=by omega
   have hw:IntKind.i64.wrap ((k:Int)+1)=((k+1:Nat):Int):=by rw[mZ _ (by omega) (by omega)];omega
   by_cases hh:(gx dY (ol v.O) (k:Int)).root=r
   ·apply oT (.ret)
    ·simp only[Z8,seval,hI,bA,q0,hs.bK,hh];rfl
    ·exact .inl ⟨rfl,k,by omega,hh,hj,by simp only[E8,seval,hs.bK]⟩
   ·apply oN ((ol v.O).length-(k+1))
    ·simp only[Z8,seval,hI,bA,q0,hs.bK,hh,hw];rfl
    ·exact⟨k+1,by simp only[E8,seval,hI],fun j h=>(Nat.lt_succ_iff_lt_or_eq.1 h).elim (hj j) fun e=>by subst e;exact hh,by omega,rfl⟩
  ·apply oT (.exit 0)
   ·simp only[Z8,seval,hI,bA,hs.bK];rfl
   ·exact .inr ⟨rfl,fun j h=>hj j (by omega),by simp only[E8,seval,hI]⟩
 case start=>exact⟨0,by simp only[E8,seval]<;>rfl,fun j h=>by omega,by omega,by omega⟩
 case rest =>
  rintro e st (⟨rfl,k,hk,hh,hj,h⟩|⟨rfl,hj,hI⟩)
  ·have hv:decide (KnB v r)=true:=decide_eq_true (.inl ⟨k,hk,hh⟩)
   simp only[Z8,seval];exact⟨_,bX rfl (by simp only[E8,seval,h]<;>rfl) (by first|exact .v _|simp only[dV,h]),by rw[hv]⟩
  ·have hv:decide (KnB v r)=decide (0≤aM v.ns r):=by
    refine decide_eq_decide.2 ⟨fun h=>h.elim (fun ⟨j,hj1,hj2⟩=>absurd hj2 (hj j hj1)) id,.inr⟩
   simp only[Z8,seval,hI,hs.tree,mQ _ _ hs.nn];exact⟨_,bX rfl (by simp only[E8,seval]<;>rfl) (by first|exact .v _|simp only[dV]),by rw[hv]⟩
theorem O8 {s:aL} {v:SV} (hs:SD s v) (r:cJ) (st:St) (d:Option Nat):aN (aB Tryz.prog) 54 [.agg (aA s),.agg (bD r)] st d=some { dst:=d,val:=.v (.bool (decide (KnB v r)))}:=bG (bE hs.flat (qR r)) (c54 hs r) (.v _)
def GL (s:aL) (a:sC):Prop:=a.target.aG≠xM s a.slot∨(a.target.aG≠xM s s.now∧(xM s s.now=0∨a.target.aG≠IntKind.u64.wrap (xM s s.now-1)))
noncomputable def Gl (s:aL) (v:SV) (a:sC) (V:List Int):Bool × Int :=
 if AW V (ol v.B).length≠0 then (false,AW V (ol v.B).length) else
 if GL s a then (false,18) else
 if aM v.ns a.root<0 then (false,10) else
 if aM v.ns a.target.root<0 then (false,10) else
 if a.slot<(nd v.ns (aM v.ns a.root)).block.slot then (false,14) else
 if GC v.ns (aM v.ns a.root) (vO s a.target.aG).1≠aM v.ns a.target.root then (false,19) else (decide (s.now≤a.slot),0)
theorem c39 {s:aL} {v:SV} (hs:SD s v) (hu:gM v.ns) (hp:s.cFg.kE≠0) (a:sC) (o:Option (List Int)) (hV:a.eU=ov aK o) (hl:((ol o).length:Int)<1000000) :
 aB Tryz.prog 39 [.agg (aA s),.agg (iB a)]=some (.eE [.v (.bool (Gl s v a (ol o)).1),.v (.int .i64 (Gl s v a (ol o)).2)]):=by
 have hf:=hs.flat
 have KS:=fun n=>kx (c40 o hl n) (bE (bW o) (.v _)) (.v _)
 rw[cL Tryz.func39 rfl aP6 rfl];refine iN ?_
 have r1:=eZ v.ns a.root
 by_cases g1:AW (ol o) (ol v.B).length=0
 case neg =>
  have hv:Gl s v a (ol o)=(false,AW (ol o) (ol v.B).length):=by simp only[Gl,ne_eq,g1,not_false_eq_true,if_true]
  simp only[Z8,seval,hV,Wu hs,KS,bf g1];exact⟨_,dK rfl rfl rfl (by simp only[E8,seval]<;>rfl) (by simp only[E8,seval]<;>rfl),by rw[hv]⟩
 have UA:GL s a→Gl s v a (ol o)=(false,18):=fun g=>by simp only[Gl,ne_eq,g1,not_true_eq_false,if_false,g,if_true]
 by_cases g2:a.target.aG=xM s a.slot
 case neg =>
  have hv:=UA (.inl g2)
  simp only[Z8,seval,hV,Wu hs,KS,bt g1,Mp s hp hf,bf g2];exact⟨_,dK rfl rfl rfl (by simp only[E8,seval]<;>rfl) (by simp only[E8,seval]<;>rfl),by rw[hv]⟩
 by_cases g3:a.target.aG=xM s s.now
 case neg =>
  by_cases g4:xM s s.now=0
  ·have hv:=UA (.inr ⟨g3,.inl g4⟩)
   simp only[Z8,seval,hV,Wu hs,KS,bt g1,Mp s hp hf,bt g2,bf g3,bt g4];exact⟨_,dK rfl rfl rfl (by simp only[E8,seval]<;>rfl) (by simp only[E8,seval]<;>rfl),by rw[hv]⟩
  by_cases g5:a.target.aG=IntKind.u64.wrap (xM s s.now-1)
  case neg =>
   have hv:=UA (.inr ⟨g3,.inr g5⟩)
   simp only[Z8,seval,hV,Wu hs,KS,bt g1,Mp s hp hf,bt g2,bf g3,bf g4,bf g5];exact⟨_,dK rfl rfl rfl (by simp only[E8,seval]<;>rfl) (by simp only[E8,seval]<;>rfl),by rw[hv]⟩
  have gb:¬GL s a:=fun h=>h.elim (fun h=>h g2) fun h=>h.2.elim g4 fun h=>h g5
  by_cases g6:aM v.ns a.root<0
  ·have hv:Gl s v a (ol o)=(false,10):=by simp only[Gl,ne_eq,g1,not_true_eq_false,if_false,gb,g6,if_true]
   simp only[Z8,seval,hV,Wu hs,KS,bt g1,Mp s hp hf,bt g2,bf g3,bf g4,bt g5,hs.tree,mQ _ _ hs.nn,g6];exact⟨_,dK rfl rfl rfl (by simp only[E8,seval]<;>rfl) (by simp only[E8,seval]<;>rfl),by rw[hv]⟩
  by_cases g7:aM v.ns a.target.root<0
  ·have hv:Gl s v a (ol o)=(false,10):=by simp only[Gl,ne_eq,g1,not_true_eq_false,if_false,gb,g6,g7,if_true]
   simp only[Z8,seval,hV,Wu hs,KS,bt g1,Mp s hp hf,bt g2,bf g3,bf g4,bt g5,hs.tree,mQ _ _ hs.nn,g6,g7];exact⟨_,dK rfl rfl rfl (by simp only[E8,seval]<;>rfl) (by simp only[E8,seval]<;>rfl),by rw[hv]⟩
  have q0:0≤aM v.ns a.root:=by omega
  by_cases g8:a.slot<(nd v.ns (aM v.ns a.root)).block.slot
  ·have hv:Gl s v a (ol o)=(false,14):=by simp only[Gl,ne_eq,g1,not_true_eq_false,if_false,gb,g6,g7,g8,if_true]
   simp only[Z8,seval,hV,Wu hs,KS,bt g1,Mp s hp hf,bt g2,bf g3,bf g4,bt g5,hs.tree,mQ _ _ hs.nn,g6,g7,q0,r1,g8];exact⟨_,dK rfl rfl rfl (by simp only[E8,seval]<;>rfl) (by simp only[E8,seval]<;>rfl),by rw[hv]⟩
  by_cases g9:GC v.ns (aM v.ns a.root) (vO s a.target.aG).1=aM v.ns a.target.root
  ·have hv:Gl s v a (ol o)=(decide (s.now≤a.slot),0):=by simp only[Gl,ne_eq,g1,not_true_eq_false,if_false,gb,g6,g7,g8,g9]
   simp only[Z8,seval,hV,Wu hs,KS,bt g1,Mp s hp hf,bt g2,bf g3,bf g4,bt g5,hs.tree,mQ _ _ hs.nn,g6,g7,q0,r1,g8,Vc s hf,dM,LF _ hu hs.nn,bt g9];exact⟨_,dK rfl rfl rfl (by simp only[E8,seval]<;>rfl) (by simp only[E8,seval]<;>rfl),by rw[hv]⟩
  ·have hv:Gl s v a (ol o)=(false,19):=by simp only[Gl,ne_eq,g1,not_true_eq_false,if_false,gb,g6,g7,g8,g9,not_false_eq_true,if_true]
   simp only[Z8,seval,hV,Wu hs,KS,bt g1,Mp s hp hf,bt g2,bf g3,bf g4,bt g5,hs.tree,mQ _ _ hs.nn,g6,g7,q0,r1,g8,Vc s hf,dM,LF _ hu hs.nn,bf g9];exact⟨_,dK rfl rfl rfl (by simp only[E8,seval]<;>rfl) (by simp only[E8,seval]<;>rfl),by rw[hv]⟩
 have gb:¬GL s a:=fun h=>h.elim (fun h=>h g2) fun h=>h.1 g3
 by_cases g6:aM v.ns a.root<0
 ·have hv:Gl s v a (ol o)=(false,10):=by simp only[Gl,ne_eq,g1,not_true_eq_false,if_false,gb,g6,if_true]
  simp only[Z8,seval,hV,Wu hs,KS,bt g1,Mp s hp hf,bt g2,bt g3,hs.tree,mQ _ _ hs.nn,g6];exact⟨_,dK rfl rfl rfl (by simp only[E8,seval]<;>rfl) (by simp only[E8,seval]<;>rfl),by rw[hv]⟩
 by_cases g7:aM v.ns a.target.root<0
 ·have hv:Gl s v a (ol o)=(false,10):=by simp only[Gl,ne_eq,g1,not_true_eq_false,if_false,gb,g6,g7,if_true]
  simp only[Z8,seval,hV,Wu hs,KS,bt g1,Mp s hp hf,bt g2,bt g3,hs.tree,mQ _ _ hs.nn,g6,g7];exact⟨_,dK rfl rfl rfl (by simp only[E8,seval]<;>rfl) (by simp only[E8,seval]<;>rfl),by rw[hv]⟩
 have q0:0≤aM v.ns a.root:=by omega
 by_cases g8:a.slot<(nd v.ns (aM v.ns a.root)).block.slot
 ·have hv:Gl s v a (ol o)=(false,14):=by simp only[Gl,ne_eq,g1,not_true_eq_false,if_false,gb,g6,g7,g8,if_true]
  simp only[Z8,seval,hV,Wu hs,KS,bt g1,Mp s hp hf,bt g2,bt g3,hs.tree,mQ _ _ hs.nn,g6,g7,q0,r1,g8];exact⟨_,dK rfl rfl rfl (by simp only[E8,seval]<;>rfl) (by simp only[E8,seval]<;>rfl),by rw[hv]⟩
 by_cases g9:GC v.ns (aM v.ns a.root) (vO s a.target.aG).1=aM v.ns a.target.root
 ·have hv:Gl s v a (ol o)=(decide (s.now≤a.slot),0):=by simp only[Gl,ne_eq,g1,not_true_eq_false,if_false,gb,g6,g7,g8,g9]
  simp only[Z8,seval,hV,Wu hs,KS,bt g1,Mp s hp hf,bt g2,bt g3,hs.tree,mQ _ _ hs.nn,g6,g7,q0,r1,g8,Vc s hf,dM,LF _ hu hs.nn,bt g9];exact⟨_,dK rfl rfl rfl (by simp only[E8,seval]<;>rfl) (by simp only[E8,seval]<;>rfl),by rw[hv]⟩
 ·have hv:Gl s v a (ol o)=(false,19):=by simp only[Gl,ne_eq,g1,not_true_eq_false,if_false,gb,g6,g7,g8,g9,not_false_eq_true,if_true]
  simp only[Z8,seval,hV,Wu hs,KS,bt g1,Mp s hp hf,bt g2,bt g3,hs.tree,mQ _ _ hs.nn,g6,g7,q0,r1,g8,Vc s hf,dM,LF _ hu hs.nn,bf g9];exact⟨_,dK rfl rfl rfl (by simp only[E8,seval]<;>rfl) (by simp only[E8,seval]<;>rfl),by rw[hv]⟩
theorem UB (ns:List Node) (s:Int) (l:List Int):Ee ns s l=-1∨Ee ns s l∈l:=by
 suffices h:∀(l:List Int) (a:Int),l.foldl (fun r x=>if (nd ns x).block.slot≤s then x else r) a=a∨l.foldl (fun r x=>if (nd ns x).block.slot≤s then x else r) a∈l from h l (-1)
 intro l;induction l with
 | nil=>exact fun a=>.inl rfl
 | cons x l ih =>
   intro a;rw[List.foldl_cons];split
   ·rcases ih x with h|h
    ·exact .inr (by rw[h];simp)
    ·exact .inr (by simp[h])
   ·rcases ih a with h|h
    ·exact .inl h
    ·exact .inr (by simp[h])
theorem EH {ns:List Node} (hu:gM ns) (i s:Int):-1≤GC ns i s∧GC ns i s<ns.length∧GC ns i s≤max i (-1):=by
 by_cases hi:0≤i∧i<ns.length
 ·rcases UB ns s (path ns i) with h|h
  ·rw[show GC ns i s=-1 from h];omega
  ·have:=Nf hu i.toNat i rfl hi.1 hi.2 _ h
   rw[show GC ns i s=Ee ns s (path ns i) from rfl];omega
 ·rw[LD s hi];omega
noncomputable def elC {α:Type} (x:AV) (k:dP→Option α) (fb:Option α):Option α:=if h:∃c,x=.agg (aY c) then k (Classical.choose h) else fb
theorem aKS {α:Type} (c:dP) (k:dP→Option α) (fb:Option α):elC (.agg (aY c)) k fb=k c:=by
 unfold elC;have h:∃c',AV.agg (aY c)=.agg (aY c'):=⟨c,rfl⟩
 rw[dif_pos h];have:=Classical.choose_spec h
 injection this with h2
 rw[← (mU _ _).1 h2]
@[congr] theorem aJk {α:Type} {x y:AV} {k:dP→Option α} {fb:Option α} (h:x=y):elC x k fb=elC y k fb:=by rw[h]
theorem aGd {call:Nat→List AV→Option AV} {ops:Array Oper} {st:St} {T:Nat} {pos:String} {eQ:Array Edge} (d:Nat) (x y z w:Operand) :
 cH Tryz.prog call ops ⟨some d,.buildSlice 109 4 #[(0,x),(1,y),(2,z),(3,w)],T,pos,eQ,none⟩ st =
  elC (st.ev x) (fun a=>elC (st.ev y) (fun b=>elC (st.ev z) (fun c=>elC (st.ev w) (fun e=>some ((st.new d (.row 41 33 [a,b,c,e].length (pG [a,b,c,e]))).put (some d) (.own d (st.aQ d))))
   (cH Tryz.prog call ops ⟨some d,.buildSlice 109 4 #[(0,x),(1,y),(2,z),(3,w)],T,pos,eQ,none⟩ st)) (cH Tryz.prog call ops ⟨some d,.buildSlice 109 4 #[(0,x),(1,y),(2,z),(3,w)],T,pos,eQ,none⟩ st))
   (cH Tryz.prog call ops ⟨some d,.buildSlice 109 4 #[(0,x),(1,y),(2,z),(3,w)],T,pos,eQ,none⟩ st)) (cH Tryz.prog call ops ⟨some d,.buildSlice 109 4 #[(0,x),(1,y),(2,z),(3,w)],T,pos,eQ,none⟩ st):=by
 unfold elC;split
 ·rename_i h1;have h1c:=h1
  obtain⟨a,DM⟩:=h1c
  have e1:Classical.choose h1=a:=by have:=(Classical.choose_spec h1).symm.trans DM;injection this with t;exact (mU _ _).1 t
  rw[e1];split
  ·rename_i h2;have h2c:=h2
   obtain⟨b,h2'⟩:=h2c
   have e2:Classical.choose h2=b:=by have:=(Classical.choose_spec h2).symm.trans h2';injection this with t;exact (mU _ _).1 t
   rw[e2];split
   ·rename_i h3;have h3c:=h3
    obtain⟨c,h3'⟩:=h3c
    have e3:Classical.choose h3=c:=by have:=(Classical.choose_spec h3).symm.trans h3';injection this with t;exact (mU _ _).1 t
    rw[e3];split
    ·rename_i h4;have h4c:=h4
     obtain⟨e,L5⟩:=h4c
     have e4:Classical.choose h4=e:=by have:=(Classical.choose_spec h4).symm.trans L5;injection this with t;exact (mU _ _).1 t
     rw[e4,kY,MB];have hz:((List.range 4).flatMap fun _=>zL.map AV.v)=pG [gN,gN,gN,gN]:=by rw[Be];rfl
     have u0:=Np [gN,gN,gN,gN] 0 a (by simp)
     have u1:=Np [a,gN,gN,gN] 1 b (by simp)
     have u2:=Np [a,b,gN,gN] 2 c (by simp)
     have u3:=Np [a,b,c,gN] 3 e (by simp)
     simp only[Int.reduceToNat,Nat.reduceMul,Nat.reduceAdd,List.set_cons_zero,List.set_cons_succ,List.set] at u0 u1 u2 u3;simp only[cK,aGe,List.toList_toArray,List.map_cons,List.map_nil,List.all_cons,List.all_nil,DM,h2',h3',L5,AV.jD,Bool.and_self,EI,MC,AV.cells,bU,Wx,hz,List.length_cons,List.length_nil,Nat.reduceMul,Nat.reduceAdd,Nat.reducePow,Nat.reduceLeDiff,Nat.reduceLT,true_or,true_and,and_true,and_self,if_true,↓reduceIte,u0,u1,u2,u3,Nat.zero_le,Nat.le_refl]
    ·rfl
   ·rfl
  ·rfl
 ·rfl
def C0 (s:aL) (v:SV) (b:Block) (c:dP):Prop:=c.aG≤s.aU.fin.aG∨(if (vO s c.aG).1<b.slot then 0≤GC v.ns (aM v.ns b.parent) (vO s c.aG).1∧(nd v.ns (GC v.ns (aM v.ns b.parent) (vO s c.aG).1)).block.root=c.root else b.root=c.root)
def Jp (b:Block):List dP:=[b.gJ,b.fin,b.dW.pj,b.dW.pf]
def GM (s:aL) (v:SV) (b:Block):Prop:=0≤aM v.ns b.parent∧O7 s b∧∀j:Nat,j<4→C0 s v b (gx gN (Jp b) j)
theorem c69 {s:aL} {v:SV} (hs:SD s v) (hu:gM v.ns) (hp:s.cFg.kE≠0) (b:Block):aB Tryz.prog 69 [.agg (aA s),.agg (aV b)]=some (.v (.bool (decide (GM s v b)))):=by
 have hf:=hs.flat
 rw[cL Tryz.func69 rfl aP7 rfl];refine iN ?_
 have r1:=eZ v.ns b.parent
 by_cases g1:aM v.ns b.parent<0
 ·have hv:decide (GM s v b)=false:=decide_eq_false (fun h=>by have:=h.1;omega)
  simp only[Z8,seval,hs.tree,mQ _ _ hs.nn,g1];exact⟨_,bX rfl (by simp only[E8,seval]<;>rfl) (by first|exact .v _|simp only[dV]),by rw[hv]⟩
 by_cases g2:O7 s b
 case neg =>
  have hv:decide (GM s v b)=false:=decide_eq_false (fun h=>g2 h.2.1)
  simp only[Z8,seval,hs.tree,mQ _ _ hs.nn,g1,aKz s hp hf,g2];exact⟨_,bX rfl (by simp only[E8,seval]<;>rfl) (by first|exact .v _|simp only[dV]),by rw[hv]⟩
 simp only[Z8,seval,hs.tree,mQ _ _ hs.nn,g1,aKz s hp hf,g2,aGd,aKS];have h4:(Jp b).length=4:=rfl
 refine cF (fun m st=>∃k:Nat,(st.env 2=.ptr 2 0 0∧st.heap 2 0=some (.cells (aA s))∧st.env 3=.ptr 3 0 0∧st.heap 3 0=some (.cells (aV b))∧st.env 5=.v (.int .i64 (aM v.ns b.parent))∧st.env 6=.own 33 0∧st.heap 33 0=some (.row 41 33 (Jp b).length (pG (Jp b)))∧st.env 7=.v (.int .i64 k))∧(∀j:Nat,j<k→C0 s v b (gx gN (Jp b) j))∧k≤4∧m=4-k)
  (fun e st=>(e=.ret∧st.env 4=.v (.bool false)∧∃j:Nat,j<4∧¬C0 s v b (gx gN (Jp b) j))∨(e=.exit 0∧∀j:Nat,j<4→C0 s v b (gx gN (Jp b) j))) 4 ?step ?start ?rest
 case step =>
  rintro m st ⟨k,hI,hj,hk,hm⟩
  by_cases Fw:k<4
  ·have bA:(k:Int)<(Jp b).length:=by rw[h4];omega
   have q0:(0:Int)≤k:=by omega
   have hw:IntKind.i64.wrap ((k:Int)+1)=((k+1:Nat):Int):=by rw[mZ _ (by omega) (by omega)];omega
   obtain⟨c,hc⟩:∃c,gx gN (Jp b) k=c:=⟨_,rfl⟩
   have ra:=EH hu (aM v.ns b.parent) (vO s c.aG).1
   have ld:∀T kk off,sO Tryz.prog T=some kk→0<kk→off+kk≤33→rW Tryz.prog T (some (.row 41 33 (Jp b).length (pG (Jp b)))) ((k:Int).toNat * 33+off)=fB Tryz.prog T (aY c) off:=fun T kk off h1 h2 h3=>by rw[GN q0 bA h1 h2 h3,hc]
   have ld0:∀T kk,sO Tryz.prog T=some kk→0<kk→kk≤33→rW Tryz.prog T (some (.row 41 33 (Jp b).length (pG (Jp b)))) ((k:Int).toNat * 33)=fB Tryz.prog T (aY c) 0:=fun T kk h1 h2 h3=>by rw[ZF q0 bA h1 h2 h3,hc]
   have nxt:C0 s v b c→∀j:Nat,j<k+1→C0 s v b (gx gN (Jp b) j):=fun h j hj'=>(Nat.lt_succ_iff_lt_or_eq.1 hj').elim (hj j) fun e=>by subst e;rw[hc];exact h
   have L6:=ld0 23 1 UC (by decide) (by decide)
   have ld2:=ld 27 32 1 aKT (by decide) (by decide)
   have cl:∀i:Int,(k:Int)<4:=fun _=>by omega
   have hl4:(k:Int)<((Jp b).length:Int):=bA
   by_cases h1:c.aG≤s.aU.fin.aG
   ·apply oN (4-(k+1))
    ·simp only[Z8,seval,hI,bA,q0,L6,ld2,h1,hw];rfl
    ·exact⟨k+1,by simp only[E8,seval,hI],nxt (.inl h1),by omega,rfl⟩
   by_cases h2:(vO s c.aG).1<b.slot
   ·by_cases h3:GC v.ns (aM v.ns b.parent) (vO s c.aG).1<0
    ·apply oT (.ret)
     ·simp only[Z8,seval,hI,bA,q0,L6,ld2,h1,h2,h3,Vc s hf,dM,hs.tree,LF _ hu hs.nn];rfl
     ·exact .inl ⟨rfl,by simp only[E8,seval],k,Fw,by rw[hc];exact fun h=>h.elim h1 fun h=>by rw[if_pos h2] at h;omega⟩
    have q3:0≤GC v.ns (aM v.ns b.parent) (vO s c.aG).1:=by omega
    by_cases L5:(nd v.ns (GC v.ns (aM v.ns b.parent) (vO s c.aG).1)).block.root=c.root
    ·apply oN (4-(k+1))
     ·simp only[Z8,seval,hI,bA,q0,L6,ld2,h1,h2,h3,Vc s hf,dM,hs.tree,LF _ hu hs.nn,q3,ra,L5,hw];rfl
     ·exact⟨k+1,by simp only[E8,seval,hI],nxt (.inr (by rw[if_pos h2];exact⟨q3,L5⟩)),by omega,rfl⟩
    ·apply oT (.ret)
     ·simp only[Z8,seval,hI,bA,q0,L6,ld2,h1,h2,h3,Vc s hf,dM,hs.tree,LF _ hu hs.nn,q3,ra,L5];rfl
     ·exact .inl ⟨rfl,by simp only[E8,seval],k,Fw,by rw[hc];exact fun h=>h.elim h1 fun h=>by rw[if_pos h2] at h;exact L5 h.2⟩
   ·by_cases L5:b.root=c.root
    ·apply oN (4-(k+1))
     ·simp only[Z8,seval,hI,bA,q0,L6,ld2,h1,h2,Vc s hf,dM,L5,hw];rfl
     ·exact⟨k+1,by simp only[E8,seval,hI],nxt (.inr (by rw[if_neg h2];exact L5)),by omega,rfl⟩
    ·apply oT (.ret)
     ·simp only[Z8,seval,hI,bA,q0,L6,ld2,h1,h2,Vc s hf,dM,L5];rfl
     ·exact .inl ⟨rfl,by simp only[E8,seval],k,Fw,by rw[hc];exact fun h=>h.elim h1 fun h=>by rw[if_neg h2] at h;exact L5 h⟩
  ·have bA:¬((k:Int)<(Jp b).length):=by rw[h4];omega
   apply oT (.exit 0)
   ·simp only[Z8,seval,hI,bA];rfl
   ·exact .inr ⟨rfl,fun j h=>hj j (by omega)⟩
 case start=>exact⟨0,by simp only[E8,seval]<;>rfl,fun j h=>by omega,by omega,by omega⟩
 case rest =>
  rintro e st (⟨rfl,h,j,hj,hn⟩|⟨rfl,h⟩)
  ·have hv:decide (GM s v b)=false:=decide_eq_false (fun h=>hn (h.2.2 j hj))
   simp only[Z8,seval];exact⟨_,bX rfl (by simp only[E8,seval,h]<;>rfl) (by first|exact .v _|simp only[dV,h]),by rw[hv]⟩
  ·have hv:decide (GM s v b)=true:=decide_eq_true ⟨by omega,g2,h⟩
   simp only[Z8,seval];exact⟨_,bX rfl (by simp only[E8,seval]<;>rfl) (by first|exact .v _|simp only[dV]),by rw[hv]⟩
theorem O9 {s:aL} {v:SV} (hs:SD s v) (hu:gM v.ns) (hp:s.cFg.kE≠0) (b:Block) (st:St) (d:Option Nat):aN (aB Tryz.prog) 69 [.agg (aA s),.agg (aV b)] st d=some { dst:=d,val:=.v (.bool (decide (GM s v b)))}:=bG (bE hs.flat (tF b)) (c69 hs hu hp b) (.v _)
noncomputable def Kg (s:aL) (v:SV) (b:Block):Int :=
 if b.root=dR then 2 else if KnB v b.root then 9 else if s.now<b.slot then 12 else if b.slot≤(vO s s.aU.fin.aG).1 then 13 else
 if aM v.ns b.parent<0 then 10 else if b.slot≤(nd v.ns (aM v.ns b.parent)).block.slot then 14 else if (nd v.ns (aM v.ns b.parent)).status=2 then 15 else
 if ¬GM s v b then 16 else if ¬B8 s.cFg.BG (nd v.ns (aM v.ns b.parent)).block b then 17 else if s.cFg.lG.sF≤(v.ns.length:Int) then 11 else 0
theorem c52 {s:aL} {v:SV} (hs:SD s v) (hu:gM v.ns) (hp:s.cFg.kE≠0) (b:Block):aB Tryz.prog 52 [.agg (aA s),.agg (aV b)]=some (.v (.int .i64 (Kg s v b))):=by
 have hf:=hs.flat
 rw[cL Tryz.func52 rfl aP9 rfl];refine iN ?_
 have r1:=eZ v.ns b.parent
 by_cases g1:b.root=dR
 ·simp only[Z8,seval,Vc s hf,dM,O8 hs,hs.tree,mQ _ _ hs.nn,O9 hs hu hp,Ww,decide_true,decide_false,g1];exact⟨_,bX rfl (by simp only[E8,seval]<;>rfl) (by first|exact .v _|simp only[dV]),by simp only[Kg,g1,not_true_eq_false,not_false_eq_true,if_true,if_false]⟩
 by_cases g2:KnB v b.root
 ·simp only[Z8,seval,Vc s hf,dM,O8 hs,hs.tree,mQ _ _ hs.nn,O9 hs hu hp,Ww,decide_true,decide_false,g1,g2];exact⟨_,bX rfl (by simp only[E8,seval]<;>rfl) (by first|exact .v _|simp only[dV]),by simp only[Kg,g1,g2,not_true_eq_false,not_false_eq_true,if_true,if_false]⟩
 by_cases g3:s.now<b.slot
 ·simp only[Z8,seval,Vc s hf,dM,O8 hs,hs.tree,mQ _ _ hs.nn,O9 hs hu hp,Ww,decide_true,decide_false,g1,g2,g3];exact⟨_,bX rfl (by simp only[E8,seval]<;>rfl) (by first|exact .v _|simp only[dV]),by simp only[Kg,g1,g2,g3,not_true_eq_false,not_false_eq_true,if_true,if_false]⟩
 by_cases g4:b.slot≤(vO s s.aU.fin.aG).1
 ·simp only[Z8,seval,Vc s hf,dM,O8 hs,hs.tree,mQ _ _ hs.nn,O9 hs hu hp,Ww,decide_true,decide_false,g1,g2,g3,g4];exact⟨_,bX rfl (by simp only[E8,seval]<;>rfl) (by first|exact .v _|simp only[dV]),by simp only[Kg,g1,g2,g3,g4,not_true_eq_false,not_false_eq_true,if_true,if_false]⟩
 by_cases g5:aM v.ns b.parent<0
 ·simp only[Z8,seval,Vc s hf,dM,O8 hs,hs.tree,mQ _ _ hs.nn,O9 hs hu hp,Ww,decide_true,decide_false,g1,g2,g3,g4,g5];exact⟨_,bX rfl (by simp only[E8,seval]<;>rfl) (by first|exact .v _|simp only[dV]),by simp only[Kg,g1,g2,g3,g4,g5,not_true_eq_false,not_false_eq_true,if_true,if_false]⟩
 have q0:0≤aM v.ns b.parent:=by omega
 by_cases g6:b.slot≤(nd v.ns (aM v.ns b.parent)).block.slot
 ·simp only[Z8,seval,Vc s hf,dM,O8 hs,hs.tree,mQ _ _ hs.nn,O9 hs hu hp,Ww,decide_true,decide_false,g1,g2,g3,g4,g5,q0,r1,g6];exact⟨_,bX rfl (by simp only[E8,seval]<;>rfl) (by first|exact .v _|simp only[dV]),by simp only[Kg,g1,g2,g3,g4,g5,g6,not_true_eq_false,not_false_eq_true,if_true,if_false]⟩
 by_cases g7:(nd v.ns (aM v.ns b.parent)).status=2
 ·simp only[Z8,seval,Vc s hf,dM,O8 hs,hs.tree,mQ _ _ hs.nn,O9 hs hu hp,Ww,decide_true,decide_false,g1,g2,g3,g4,g5,q0,r1,g6,bt g7];exact⟨_,bX rfl (by simp only[E8,seval]<;>rfl) (by first|exact .v _|simp only[dV]),by simp only[Kg,g1,g2,g3,g4,g5,g6,g7,not_true_eq_false,not_false_eq_true,if_true,if_false]⟩
 by_cases g8:¬GM s v b
 ·simp only[Z8,seval,Vc s hf,dM,O8 hs,hs.tree,mQ _ _ hs.nn,O9 hs hu hp,Ww,decide_true,decide_false,g1,g2,g3,g4,g5,q0,r1,g6,bf g7,g8];exact⟨_,bX rfl (by simp only[E8,seval]<;>rfl) (by first|exact .v _|simp only[dV]),by simp only[Kg,g1,g2,g3,g4,g5,g6,g7,g8,not_true_eq_false,not_false_eq_true,if_true,if_false]⟩
 replace g8:=Classical.not_not.1 g8
 by_cases g9:¬B8 s.cFg.BG (nd v.ns (aM v.ns b.parent)).block b
 ·simp only[Z8,seval,Vc s hf,dM,O8 hs,hs.tree,mQ _ _ hs.nn,O9 hs hu hp,Ww,decide_true,decide_false,g1,g2,g3,g4,g5,q0,r1,g6,bf g7,g8,g9];exact⟨_,bX rfl (by simp only[E8,seval]<;>rfl) (by first|exact .v _|simp only[dV]),by simp only[Kg,g1,g2,g3,g4,g5,g6,g7,g8,g9,not_true_eq_false,not_false_eq_true,if_true,if_false]⟩
 replace g9:=Classical.not_not.1 g9
 by_cases P0:s.cFg.lG.sF≤(v.ns.length:Int)
 ·simp only[Z8,seval,Vc s hf,dM,O8 hs,hs.tree,mQ _ _ hs.nn,O9 hs hu hp,Ww,decide_true,decide_false,g1,g2,g3,g4,g5,q0,r1,g6,bf g7,g8,g9,P0];exact⟨_,bX rfl (by simp only[E8,seval]<;>rfl) (by first|exact .v _|simp only[dV]),by simp only[Kg,g1,g2,g3,g4,g5,g6,g7,g8,g9,P0,not_true_eq_false,not_false_eq_true,if_true,if_false]⟩
 simp only[Z8,seval,Vc s hf,dM,O8 hs,hs.tree,mQ _ _ hs.nn,O9 hs hu hp,Ww,decide_true,decide_false,g1,g2,g3,g4,g5,q0,r1,g6,bf g7,g8,g9,P0];exact⟨_,bX rfl (by simp only[E8,seval]<;>rfl) (by first|exact .v _|simp only[dV]),by simp only[Kg,g1,g2,g3,g4,g5,g6,g7,g8,g9,P0,not_true_eq_false,not_false_eq_true,if_true,if_false]⟩
theorem k52 {s:aL} {v:SV} (hs:SD s v) (hu:gM v.ns) (hp:s.cFg.kE≠0) (b:Block) (st:St) (d:Option Nat):aN (aB Tryz.prog) 52 [.agg (aA s),.agg (aV b)] st d=some { dst:=d,val:=.v (.int .i64 (Kg s v b))}:=bG (bE hs.flat (tF b)) (c52 hs hu hp b) (.v _)
def MD (acc:Bool × dP × dP) (n:Node):Bool × dP × dP :=
 if n.status=2 then acc else (true,if acc.1=false∨acc.2.1.aG<n.block.dW.pj.aG then n.block.dW.pj else acc.2.1,if acc.1=false∨acc.2.2.aG<n.block.dW.pf.aG then n.block.dW.pf else acc.2.2)
def C1 (ns:List Node):Bool × dP × dP:=ns.foldl MD (false,gN,gN)
def Jq (ns:List Node):pE:=⟨(C1 ns).2.1,(C1 ns).2.2⟩
theorem C2 (ns:List Node) (k:Nat) (h:k<ns.length):C1 (ns.take (k+1))=MD (C1 (ns.take k)) (nd ns k):=by
 obtain⟨h',e⟩:=Lc (ns:=ns) (i:=(k:Int)) (by omega) (by omega)
 unfold C1;rw[List.take_succ_eq_append_getElem h,List.foldl_append,e];rfl
theorem c67 {s:aL} {v:SV} (hs:SD s v):aB Tryz.prog 67 [.agg (aA s)]=some (.agg (fL (Jq v.ns))):=by
 have hn:=hs.nn
 rw[cL Tryz.func67 rfl aQa rfl];refine iN ?_
 simp only[Z8,seval,hs.tree];refine cF (fun m st=>∃(k:Nat) (b:Bool) (x y:dP),(st.env 1=.ptr 1 0 0∧st.heap 1 0=some (.cells (aA s))∧st.env 2=.ptr 2 0 0∧st.heap 2 0=some (.cells (fL Nq))∧st.env 3=.ptr 3 0 0∧st.heap 3 0=some (.cells (fL ⟨x,y⟩))∧st.env 4=.v (.bool b)∧st.env 5=.v (.int .i64 k))∧C1 (v.ns.take k)=(b,x,y)∧k≤v.ns.length∧m=v.ns.length-k)
  (fun e st=>e=.exit 0∧∃(x y:dP),(st.env 2=.ptr 2 0 0∧st.heap 2 0=some (.cells (fL Nq))∧st.env 3=.ptr 3 0 0∧st.heap 3 0=some (.cells (fL ⟨x,y⟩)))∧Jq v.ns=⟨x,y⟩) v.ns.length ?step ?start ?rest
 case step =>
  rintro m st ⟨k,b,x,y,hI,hp,hk,hm⟩
  by_cases bA:(k:Int)<v.ns.length
  ·have q0:(0:Int)≤k:=by omega
   have hw:IntKind.i64.wrap ((k:Int)+1)=((k+1:Nat):Int):=by rw[mZ _ (by omega) (by omega)];omega
   have yB:=C2 v.ns k (by omega)
   rw[hp] at yB;unfold MD at yB;by_cases h1:(nd v.ns k).status=2
   ·rw[if_pos h1] at yB;apply oN (v.ns.length-(k+1))
    ·simp only[Z8,seval,hI,bA,q0,hs.tree,bt h1,hw];rfl
    ·exact⟨k+1,b,x,y,by simp only[E8,seval,hI],yB,by omega,rfl⟩
   rw[if_neg h1] at yB;cases b
   ·simp only[true_or,if_true] at yB;apply oN (v.ns.length-(k+1))
    ·simp only[Z8,seval,hI,bA,q0,hs.tree,bf h1,hw];rfl
    ·exact⟨k+1,true,_,_,by simp only[E8,seval,hI]<;>rfl,yB,by omega,rfl⟩
   ·simp only[Bool.true_eq_false,false_or] at yB;by_cases h2:x.aG<(nd v.ns k).block.dW.pj.aG
    ·rw[if_pos h2] at yB;by_cases h3:y.aG<(nd v.ns k).block.dW.pf.aG
     ·rw[if_pos h3] at yB;apply oN (v.ns.length-(k+1))
      ·simp only[Z8,seval,hI,bA,q0,hs.tree,bf h1,h2,h3,hw];rfl
      ·exact⟨k+1,true,_,_,by simp only[E8,seval,hI]<;>rfl,yB,by omega,rfl⟩
     ·rw[if_neg h3] at yB;apply oN (v.ns.length-(k+1))
      ·simp only[Z8,seval,hI,bA,q0,hs.tree,bf h1,h2,h3,hw];rfl
      ·exact⟨k+1,true,_,_,by simp only[E8,seval,hI]<;>rfl,yB,by omega,rfl⟩
    ·rw[if_neg h2] at yB;by_cases h3:y.aG<(nd v.ns k).block.dW.pf.aG
     ·rw[if_pos h3] at yB;apply oN (v.ns.length-(k+1))
      ·simp only[Z8,seval,hI,bA,q0,hs.tree,bf h1,h2,h3,hw];rfl
      ·exact⟨k+1,true,_,_,by simp only[E8,seval,hI]<;>rfl,yB,by omega,rfl⟩
     ·rw[if_neg h3] at yB;apply oN (v.ns.length-(k+1))
      ·simp only[Z8,seval,hI,bA,q0,hs.tree,bf h1,h2,h3,hw];rfl
      ·exact⟨k+1,true,_,_,by simp only[E8,seval,hI]<;>rfl,yB,by omega,rfl⟩
  ·have Az:k=v.ns.length:=by omega
   rw[Az,List.take_length] at hp;apply oT (.exit 0)
   ·simp only[Z8,seval,hI,bA,hs.tree];rfl
   ·exact⟨rfl,x,y,by simp only[E8,seval,hI],by unfold Jq;rw[hp]⟩
 case start=>exact⟨0,false,gN,gN,by simp only[E8,seval]<;>rfl,rfl,by omega,by omega⟩
 case rest =>
  rintro e st ⟨rfl,x,y,hI,hp⟩
  simp only[Z8,seval,hI];exact⟨_,fK rfl (by simp only[E8,seval,hI]<;>rfl) (by simp only[Z8,seval,hI]<;>rfl) (by simp only[dV,and_self,hI]),by rw[hp]⟩
theorem k67 {s:aL} {v:SV} (hs:SD s v) (st:St) (d:Option Nat):aN (aB Tryz.prog) 67 [.agg (aA s)] st d=some { dst:=d,val:=.agg (fL (Jq v.ns))}:=bG (cU hs.flat) (c67 hs) (.agg _ (Ei _))
noncomputable def rK (s:aL) (c:dP):dP:=if s.aU.gJ.aG<c.aG then c else s.aU.gJ
noncomputable def tQ (s:aL) (c:dP):dP:=if s.aU.fin.aG<c.aG then c else s.aU.fin
def jW (s:aL) (v:SV) (J F:dP):Prop :=
 aM v.ns J.root<0∨aM v.ns F.root<0∨(nd v.ns (aM v.ns J.root)).status=2∨(nd v.ns (aM v.ns F.root)).status=2∨¬GJ s v.ns (aM v.ns J.root) J.aG∨¬GJ s v.ns (aM v.ns F.root) F.aG ∨
 tP v.ns (aM v.ns F.root) (aM v.ns J.root)=false∨J.aG<F.aG∨xM s s.now<J.aG∨Ja (ol v.T) J<0
noncomputable def Jr (s:aL) (v:SV) (c1 c2:dP):AV:=if jW s v (rK s c1) (tQ s c2) then .eE [.agg (aY gN),.agg (aY gN),.v (.bool false)] else .eE [.agg (aY (rK s c1)),.agg (aY (tQ s c2)),.v (.bool true)]
end Go.Ab.Tryz
section
namespace Go.Ab.Tryz
open Classical Go.Proofs Go.Ab
end Go.Ab.Tryz
namespace Go.Ab
theorem Vd {α β:Type} {x:Option α} {k:α→Option β} {R:β→Prop} (Q:α→Prop) (h:∃a,x=some a∧Q a) (rest:∀a,Q a→∃r,k a=some r∧R r):∃r,cS x k=some r∧R r:=by
 obtain⟨a,h1,h2⟩:=h
 rw[h1];exact rest a h2
end Go.Ab
namespace Go.Ab.Tryz
open Classical Go.Proofs Go.Ab
theorem Cx:aC 7 73 (some 41)=[]∧aC 7 72 (some 41)=[]:=⟨rfl,rfl⟩
theorem lS {α:Type} (a:α) (l m:List α):List.append (a :: l) m=a :: List.append l m:=rfl
theorem lU {α:Type} (m:List α):List.append ([]:List α) m=m:=rfl
theorem c59 {s:aL} {v:SV} (hs:SD s v) (hu:gM v.ns) (hp:s.cFg.kE≠0) (c1 c2:dP):aB Tryz.prog 59 [.agg (aA s),.agg (aY c1),.agg (aY c2)]=some (Jr s v c1 c2):=by
 have hf:=hs.flat
 have SM:=hs.fT
 rw[cG Tryz.func59 rfl aQb (by kernel_rfl) rfl]
 refine iN ?_
 unfold Jr;obtain⟨J,eJ⟩:∃J,rK s c1=J:=⟨_,rfl⟩
 obtain⟨F,eF⟩:∃F,tQ s c2=F:=⟨_,rfl⟩
 rw[eJ,eF];simp only[ZG,seval,Bool.false_and,Prod.mk.injEq,Qm,Cx,lS,lU];refine Vd (fun a=>a.1=.normal∧a.2.env 3=.ptr 3 0 0∧a.2.heap 3 0=some (.cells (aA s))∧a.2.env 5=.ptr 5 0 0∧a.2.heap 5 0=some (.cells (aY c2))∧a.2.env 6=.ptr 6 0 0∧a.2.heap 6 0=some (.cells (aY gN))∧a.2.env 7=.ptr 7 0 0∧a.2.heap 7 0=some (.cells (aY gN))∧a.2.env 9=.ptr 9 0 0∧a.2.heap 9 0=some (.cells (aY J))∧a.2.env 10=.ptr 10 0 0∧a.2.heap 10 0=some (.cells (aY s.aU.fin))) ?m1 ?r1
 case m1 =>
  unfold rK at eJ;by_cases a1:s.aU.gJ.aG<c1.aG
  ·rw[if_pos a1] at eJ;simp only[a1,decide_true,if_true];exact⟨_,rfl,rfl,by simp only[E8,seval,eJ]<;>exact⟨rfl,rfl⟩⟩
  ·rw[if_neg a1] at eJ;simp only[a1,decide_false,Bool.false_eq_true,if_false];exact⟨_,rfl,rfl,by simp only[E8,seval,eJ]<;>exact⟨rfl,rfl⟩⟩
 case r1 =>
  rintro⟨_,st⟩ ⟨rfl,hI⟩
  dsimp only at hI
  simp only[ZG,seval,Bool.false_and,Prod.mk.injEq,Qm,Cx,lS,lU,hI];refine Vd (fun a=>a.1=.normal∧a.2.env 3=.ptr 3 0 0∧a.2.heap 3 0=some (.cells (aA s))∧a.2.env 6=.ptr 6 0 0∧a.2.heap 6 0=some (.cells (aY gN))∧a.2.env 7=.ptr 7 0 0∧a.2.heap 7 0=some (.cells (aY gN))∧a.2.env 9=.ptr 9 0 0∧a.2.heap 9 0=some (.cells (aY J))∧a.2.env 10=.ptr 10 0 0∧a.2.heap 10 0=some (.cells (aY F))) ?m2 ?r2
  case m2 =>
   unfold tQ at eF;by_cases a2:s.aU.fin.aG<c2.aG
   ·rw[if_pos a2] at eF;simp only[a2,decide_true,if_true];exact⟨_,rfl,rfl,by simp only[E8,seval,hI,eF]⟩
   ·rw[if_neg a2] at eF;simp only[a2,decide_false,Bool.false_eq_true,if_false];exact⟨_,rfl,rfl,by simp only[E8,seval,hI,eF]⟩
  case r2 =>
   rintro⟨_,st⟩ ⟨rfl,hK⟩
   dsimp only at hK
   have r1:=eZ v.ns J.root
   have r2:=eZ v.ns F.root
   by_cases g1:aM v.ns J.root<0
   ·simp only[ZG,seval,Bool.false_and,Prod.mk.injEq,Qm,Cx,lS,lU,hK,hs.tree,mQ _ _ hs.nn,Nb _ hu hs.nn,Mp s hp hf,hs.tables,SL _ hs.nT SM,decide_true,decide_false,g1];exact⟨_,by apply fM;rfl;all_goals simp only[aH,bY,Z8,seval,hK]<;>rfl,by rw[if_pos (show jW s v J F by simp only[jW,g1,not_true_eq_false,not_false_eq_true,true_or,or_true])]⟩
   by_cases g2:aM v.ns F.root<0
   ·simp only[ZG,seval,Bool.false_and,Prod.mk.injEq,Qm,Cx,lS,lU,hK,hs.tree,mQ _ _ hs.nn,Nb _ hu hs.nn,Mp s hp hf,hs.tables,SL _ hs.nT SM,decide_true,decide_false,g1,g2];exact⟨_,by apply fM;rfl;all_goals simp only[aH,bY,Z8,seval,hK]<;>rfl,by rw[if_pos (show jW s v J F by simp only[jW,g1,g2,not_true_eq_false,not_false_eq_true,true_or,or_true])]⟩
   have q1:0≤aM v.ns J.root:=by omega
   have q2:0≤aM v.ns F.root:=by omega
   by_cases g3:(nd v.ns (aM v.ns J.root)).status=2
   ·simp only[ZG,seval,Bool.false_and,Prod.mk.injEq,Qm,Cx,lS,lU,hK,hs.tree,mQ _ _ hs.nn,Nb _ hu hs.nn,Mp s hp hf,hs.tables,SL _ hs.nT SM,decide_true,decide_false,g1,g2,q1,q2,r1,r2,bt g3];exact⟨_,by apply fM;rfl;all_goals simp only[aH,bY,Z8,seval,hK]<;>rfl,by rw[if_pos (show jW s v J F by simp only[jW,g1,g2,g3,not_true_eq_false,not_false_eq_true,true_or,or_true])]⟩
   by_cases g4:(nd v.ns (aM v.ns F.root)).status=2
   ·simp only[ZG,seval,Bool.false_and,Prod.mk.injEq,Qm,Cx,lS,lU,hK,hs.tree,mQ _ _ hs.nn,Nb _ hu hs.nn,Mp s hp hf,hs.tables,SL _ hs.nT SM,decide_true,decide_false,g1,g2,q1,q2,r1,r2,bf g3,bt g4];exact⟨_,by apply fM;rfl;all_goals simp only[aH,bY,Z8,seval,hK]<;>rfl,by rw[if_pos (show jW s v J F by simp only[jW,g1,g2,g3,g4,not_true_eq_false,not_false_eq_true,true_or,or_true])]⟩
   have ke1:=aKB hs (aM v.ns J.root) J.aG q1 r1.2
   have ke2:=aKB hs (aM v.ns F.root) F.aG q2 r2.2
   by_cases g5:¬GJ s v.ns (aM v.ns J.root) J.aG
   ·simp only[ZG,seval,Bool.false_and,Prod.mk.injEq,Qm,Cx,lS,lU,hK,hs.tree,mQ _ _ hs.nn,Nb _ hu hs.nn,Mp s hp hf,hs.tables,SL _ hs.nT SM,decide_true,decide_false,g1,g2,q1,q2,r1,r2,bf g3,bf g4,ke1,ke2,g5];exact⟨_,by apply fM;rfl;all_goals simp only[aH,bY,Z8,seval,hK]<;>rfl,by rw[if_pos (show jW s v J F by simp only[jW,g1,g2,g3,g4,g5,not_true_eq_false,not_false_eq_true,true_or,or_true])]⟩
   replace g5:=Classical.not_not.1 g5
   by_cases g6:¬GJ s v.ns (aM v.ns F.root) F.aG
   ·simp only[ZG,seval,Bool.false_and,Prod.mk.injEq,Qm,Cx,lS,lU,hK,hs.tree,mQ _ _ hs.nn,Nb _ hu hs.nn,Mp s hp hf,hs.tables,SL _ hs.nT SM,decide_true,decide_false,g1,g2,q1,q2,r1,r2,bf g3,bf g4,ke1,ke2,g5,g6];exact⟨_,by apply fM;rfl;all_goals simp only[aH,bY,Z8,seval,hK]<;>rfl,by rw[if_pos (show jW s v J F by simp only[jW,g1,g2,g3,g4,g5,g6,not_true_eq_false,not_false_eq_true,true_or,or_true])]⟩
   replace g6:=Classical.not_not.1 g6
   by_cases g7:tP v.ns (aM v.ns F.root) (aM v.ns J.root)=false
   ·simp only[ZG,seval,Bool.false_and,Prod.mk.injEq,Qm,Cx,lS,lU,hK,hs.tree,mQ _ _ hs.nn,Nb _ hu hs.nn,Mp s hp hf,hs.tables,SL _ hs.nT SM,decide_true,decide_false,g1,g2,q1,q2,r1,r2,bf g3,bf g4,ke1,ke2,g5,g6,g7];exact⟨_,by apply fM;rfl;all_goals simp only[aH,bY,Z8,seval,hK]<;>rfl,by rw[if_pos (show jW s v J F by simp only[jW,g1,g2,g3,g4,g5,g6,g7,not_true_eq_false,not_false_eq_true,true_or,or_true])]⟩
   replace g7:=(by simpa using g7:tP v.ns _ _=true)
   by_cases g8:J.aG<F.aG
   ·simp only[ZG,seval,Bool.false_and,Prod.mk.injEq,Qm,Cx,lS,lU,hK,hs.tree,mQ _ _ hs.nn,Nb _ hu hs.nn,Mp s hp hf,hs.tables,SL _ hs.nT SM,decide_true,decide_false,g1,g2,q1,q2,r1,r2,bf g3,bf g4,ke1,ke2,g5,g6,g7,g7,g8];exact⟨_,by apply fM;rfl;all_goals simp only[aH,bY,Z8,seval,hK]<;>rfl,by rw[if_pos (show jW s v J F by simp only[jW,g1,g2,g3,g4,g5,g6,g7,g8,not_true_eq_false,not_false_eq_true,true_or,or_true])]⟩
   by_cases g9:xM s s.now<J.aG
   ·simp only[ZG,seval,Bool.false_and,Prod.mk.injEq,Qm,Cx,lS,lU,hK,hs.tree,mQ _ _ hs.nn,Nb _ hu hs.nn,Mp s hp hf,hs.tables,SL _ hs.nT SM,decide_true,decide_false,g1,g2,q1,q2,r1,r2,bf g3,bf g4,ke1,ke2,g5,g6,g7,g7,g8,g9];exact⟨_,by apply fM;rfl;all_goals simp only[aH,bY,Z8,seval,hK]<;>rfl,by rw[if_pos (show jW s v J F by simp only[jW,g1,g2,g3,g4,g5,g6,g7,g8,g9,not_true_eq_false,not_false_eq_true,true_or,or_true])]⟩
   by_cases P0:Ja (ol v.T) J<0
   ·simp only[ZG,seval,Bool.false_and,Prod.mk.injEq,Qm,Cx,lS,lU,hK,hs.tree,mQ _ _ hs.nn,Nb _ hu hs.nn,Mp s hp hf,hs.tables,SL _ hs.nT SM,decide_true,decide_false,g1,g2,q1,q2,r1,r2,bf g3,bf g4,ke1,ke2,g5,g6,g7,g7,g8,g9,P0];exact⟨_,by apply fM;rfl;all_goals simp only[aH,bY,Z8,seval,hK]<;>rfl,by rw[if_pos (show jW s v J F by simp only[jW,g1,g2,g3,g4,g5,g6,g7,g8,g9,P0,not_true_eq_false,not_false_eq_true,true_or,or_true])]⟩
   simp only[ZG,seval,Bool.false_and,Prod.mk.injEq,Qm,Cx,lS,lU,hK,hs.tree,mQ _ _ hs.nn,Nb _ hu hs.nn,Mp s hp hf,hs.tables,SL _ hs.nT SM,decide_true,decide_false,g1,g2,q1,q2,r1,r2,bf g3,bf g4,ke1,ke2,g5,g6,g7,g7,g8,g9,P0];exact⟨_,by apply fM;rfl;all_goals simp only[aH,bY,Z8,seval,hK]<;>rfl,by rw[if_neg (show ¬jW s v J F by simp only[jW,g1,g2,g3,g4,g5,g6,g7,g8,g9,P0,not_true_eq_false,not_false_eq_true,or_self,Bool.true_eq_false])]⟩
theorem k59 {s:aL} {v:SV} (hs:SD s v) (hu:gM v.ns) (hp:s.cFg.kE≠0) (c1 c2:dP) (st:St) (d:Option Nat):aN (aB Tryz.prog) 59 [.agg (aA s),.agg (aY c1),.agg (aY c2)] st d=some { dst:=d,val:=Jr s v c1 c2 }:=bG (mD hs.flat (.agg _ (bM c1)) (.agg _ (bM c2))) (c59 hs hu hp c1 c2) (by unfold Jr;split<;>exact .eE _ (mD (.agg _ (bM _)) (.agg _ (bM _)) (.v _)))
end Go.Ab.Tryz
end
