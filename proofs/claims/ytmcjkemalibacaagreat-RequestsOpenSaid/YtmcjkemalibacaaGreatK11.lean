/-
  Part 11 of the proof: an evaluator of programs, its soundness, and what functions of this program compute.
-/
import Derived.Test.YtmcjkemalibacaaGreatK10
import Derived.Test.YtmcjkemalibacaaGreatK9
set_option linter.all false
set_option maxRecDepth 20000
set_option maxHeartbeats 40000000
namespace Go.Ab.Tryz
open Classical Go.Proofs Go.Ab
theorem GD {ns:List Node} (hu:iA ns):∀(n:Nat) (c:Int),c.toNat=n→0≤c→c<ns.length→∀k:Int,1≤k→k<(path ns c).length→(nd ns (it (path ns c) k)).up=it (path ns c) (k-1):=by
 intro n;induction n using Nat.strongRecOn with
 | _ n ih =>
   intro c hc c0 c1 k k0 k1;by_cases h:c=0
   ·subst h;rw[rI (by omega)] at k1
    simp at k1
    omega
   ·obtain⟨u0,u1⟩:=hu c (by omega) c1
    rw[rK hu (by omega) c1] at k1 ⊢
    simp at k1
    by_cases hk:k=(path ns (nd ns c).up).length
    ·rw[Dh hk,mC (by omega) (by omega),hk,D1 hu u0 (by omega)]
    ·rw[mC (by omega) (by omega),mC (by omega) (by omega)]
     exact ih (nd ns c).up.toNat (by omega) _ rfl u0 (by omega) k k0 (by omega)
theorem P5 {ns:List Node} (hu:iA ns):∀(n:Nat) (c:Int),c.toNat=n→0≤c→c<ns.length→it (path ns c) 0=0:=by
 intro n;induction n using Nat.strongRecOn with
 | _ n ih =>
   intro c hc c0 c1;by_cases h:c=0
   ·subst h;rw[rI (by omega)];rfl
   ·obtain⟨u0,u1⟩:=hu c (by omega) c1
    have:=IG hu u0 (by omega)
    rw[rK hu (by omega) c1,mC (Int.le_refl _) (by omega)]
    exact ih _ (by omega) _ rfl u0 (by omega)
theorem aOR (ns:List Node) (hu:iA ns) (hr:(nd ns 0).up=-1) (hn:(ns.length:Int)<1000000) (i:Int) (h:cA):aC Tryz.prog 237 [.agg (cT ⟨ns⟩),.v (.int .i64 i),.agg (aV h)]=some (reA ns i h):=by
 rw[cL Tryz.func237 rfl aJM rfl];unfold reA;by_cases hm:0≤i∧i<ns.length
 ·have h45:=k76 ns hu hn i hm.1 hm.2
  have hpl:=Bi hu i
  have hp0:=IG hu hm.1 hm.2
  have hin:=Xe hu (i:=i)
  have hpe:path ns i≠[]:=by intro h;rw[h] at hp0;simp at hp0
  have hq:(((path ns i).length:Int) == 0)=false:=by simp[hpe]
  have Yj:=fun k h h'=>GD hu _ i rfl hm.1 hm.2 k h h'
  have hi0:=P5 hu _ i rfl hm.1 hm.2
  unfold pA;rw[if_neg hpe];generalize path ns i=p at h45 hpl hp0 hin hq Yj hi0
  by_cases hz:h=dE
  ·have hd:decide (h=dE)=true:=decide_eq_true hz
   rw[if_pos hz];simp only[ZZ,seval,h45,hq,hd];refine lM (fun n st=>∃k:Nat,(st.env 1=.v (.int .i64 i)∧st.env 3=.ptr 3 0 0∧st.heap 3 0=some (.cells (cT ⟨ns⟩))∧st.env 8=.own 13 0∧st.heap 13 0=some (.row 3 1 p.length (aJ p))∧st.env 9=.v (.int .i64 k))∧zL ns p p.length=zL ns p (p.length-k)∧k≤p.length∧n=p.length-k)
    (fun e st=>(e=.ret∧∃k,zL ns p p.length=some k∧st.env 6=.v (.int .i64 (if k=0 then -1 else it p ((k:Int)-1)))∧st.env 7=.v (.int .i64 (it p k)))∨(e=.exit 0∧zL ns p p.length=none∧st.env 1=.v (.int .i64 i))) p.length ?step ?start ?rest
   case step =>
    rintro n st ⟨k,hI,hf,hk,Ju⟩
    by_cases aY:(k:Int)<p.length
    ·have q0:(0:Int)≤k:=by omega
     have hw:IntKind.i64.wrap ((k:Int)+1)=((k+1:Nat):Int):=by rw[Ia _ (by omega) (by omega)];omega
     obtain⟨x0,x1⟩:=hin _ (Fq q0 aY)
     obtain⟨m,hm'⟩:∃m,p.length-k=m+1:=⟨p.length-k-1,by omega⟩
     rw[hm'] at hf;simp only[zL] at hf;rw[show p.length-(m+1)=k by omega] at hf
     by_cases hpz:pay ns (it p k)=dE
     ·rw[if_pos hpz] at hf;have hd2:decide ((nd ns (it p k)).block.iO=dE)=true:=decide_eq_true hpz
      apply oN (p.length-(k+1))
      ·simp only[ZZ,seval,hI,aY,q0,x0,x1,hd2,hw];rfl
      ·exact⟨k+1,by simp only[EV,seval,hI],by rw[hf,show p.length-(k+1)=m by omega],by omega,rfl⟩
     ·rw[if_neg hpz] at hf;have hd2:decide ((nd ns (it p k)).block.iO=dE)=false:=decide_eq_false hpz
      have hupk:(nd ns (it p k)).up=if k=0 then -1 else it p ((k:Int)-1):=by
       by_cases uW:k=0
       ·rw[if_pos uW,show ((k:Int))=0 by omega,hi0,hr]
       ·rw[if_neg uW,Yj k (by omega) aY]
      apply oT (.ret)
      ·simp only[ZZ,seval,hI,aY,q0,x0,x1,hd2];rfl
      ·exact .inl ⟨rfl,k,hf,by rw[← hupk];simp only[EV,seval],by simp only[EV,seval]⟩
    ·obtain rfl:k=p.length:=by omega
     rw[Nat.sub_self] at hf;apply oT (.exit 0)
     ·simp only[ZZ,seval,hI,aY];rfl
     ·exact .inr ⟨rfl,hf,by simp only[EV,seval,hI]⟩
   case start=>exact⟨0,by simp only[EV,seval]<;>rfl,rfl,by omega,rfl⟩
   case rest =>
    rintro e st (⟨rfl,k,hf,h6,h7⟩|⟨rfl,hf,h1⟩)
    ·rw[hf];simp only[ZZ,seval];exact dO rfl (by simp only[bT,EV,seval,h6]<;>rfl) (by simp only[bT,EV,seval,h7]<;>rfl) (by simp only[EV,seval]<;>rfl) (by simp only[EV,seval]<;>rfl)
    ·rw[hf];simp only[ZZ,seval,h1];exact dO rfl (by simp only[bT,EV,seval]<;>rfl) (by simp only[bT,EV,seval]<;>rfl) (by simp only[EV,seval]<;>rfl) (by simp only[EV,seval]<;>rfl)
  ·have hd:decide (h=dE)=false:=decide_eq_false hz
   have hw0:IntKind.i64.wrap ((p.length:Int)-2)=(p.length:Int)-2:=Ia _ (by omega) (by omega)
   rw[if_neg hz];simp only[ZZ,seval,h45,hq,hd,hw0];refine lM (fun n st=>∃m:Nat,(st.env 1=.v (.int .i64 i)∧st.env 3=.ptr 3 0 0∧st.heap 3 0=some (.cells (cT ⟨ns⟩))∧st.env 5=.ptr 5 0 0∧st.heap 5 0=some (.cells (aV h))∧st.env 8=.own 13 0∧st.heap 13 0=some (.row 3 1 p.length (aJ p))∧st.env 10=.v (.int .i64 ((m:Int)-1)))∧Ie ns p h (p.length-1)=Ie ns p h m∧m≤p.length-1∧n=m)
    (fun e st=>(e=.ret∧∃k,Ie ns p h (p.length-1)=some k∧st.env 6=.v (.int .i64 (it p k))∧st.env 7=.v (.int .i64 (it p ((k:Int)+1))))∨(e=.exit 2∧Ie ns p h (p.length-1)=none∧st.env 1=.v (.int .i64 i))) (p.length-1) ?step ?start ?rest
   case step =>
    rintro n st ⟨m,hI,hf,hm',Ju⟩
    by_cases aY:(0:Int)≤(m:Int)-1
    ·obtain⟨k,rfl⟩:∃k,m=k+1:=⟨m-1,by omega⟩
     have e1:((k+1:Nat):Int)-1=k:=by omega
     rw[e1] at hI aY;have k1:(k:Int)<p.length:=by omega
     have hw:IntKind.i64.wrap ((k:Int)-1)=(k:Int)-1:=Ia _ (by omega) (by omega)
     obtain⟨x0,x1⟩:=hin _ (Fq aY k1)
     simp only[Ie] at hf;by_cases hpz:pay ns (it p k)=h
     ·rw[if_pos hpz] at hf;have hd2:decide ((nd ns (it p k)).block.iO=h)=true:=decide_eq_true hpz
      have P6:IntKind.i64.wrap ((k:Int)+1)=(k:Int)+1:=Ia _ (by omega) (by omega)
      have r0:(0:Int)≤(k:Int)+1:=by omega
      have r1:(k:Int)+1<p.length:=by omega
      apply oT (.ret)
      ·simp only[ZZ,seval,hI,aY,k1,x0,x1,hd2,P6,r0,r1];rfl
      ·exact .inl ⟨rfl,k,hf,by simp only[EV,seval],by simp only[EV,seval]⟩
     ·rw[if_neg hpz] at hf;have hd2:decide ((nd ns (it p k)).block.iO=h)=false:=decide_eq_false hpz
      apply oN (k)
      ·simp only[ZZ,seval,hI,aY,k1,x0,x1,hd2,hw];rfl
      ·exact⟨k,by simp only[EV,seval,hI],hf,by omega,rfl⟩
    ·obtain rfl:m=0:=by omega
     apply oT (.exit 2)
     ·simp only[ZZ,seval,hI,aY];rfl
     ·exact .inr ⟨rfl,hf,by simp only[EV,seval,hI]⟩
   case start =>
    have hs:(p.length:Int)-2=((p.length-1:Nat):Int)-1:=by omega
    exact⟨p.length-1,by simp only[EV,seval,hs],rfl,by omega,rfl⟩
   case rest =>
    rintro e st (⟨rfl,k,hf,h6,h7⟩|⟨rfl,hf,h1⟩)
    ·rw[hf];simp only[ZZ,seval];exact dO rfl (by simp only[bT,EV,seval,h6]<;>rfl) (by simp only[bT,EV,seval,h7]<;>rfl) (by simp only[EV,seval]<;>rfl) (by simp only[EV,seval]<;>rfl)
    ·rw[hf];simp only[ZZ,seval,h1];exact dO rfl (by simp only[bT,EV,seval]<;>rfl) (by simp only[bT,EV,seval]<;>rfl) (by simp only[EV,seval]<;>rfl) (by simp only[EV,seval]<;>rfl)
 ·rw[VB (yQ hm)];have h45:=A9 ns i hm
  simp only[ZZ,seval,h45];exact dO rfl (by simp only[bT,EV,seval]<;>rfl) (by simp only[bT,EV,seval]<;>rfl) (by simp only[EV,seval]<;>rfl) (by simp only[EV,seval]<;>rfl)
theorem P7 (ns:List Node) (i:Int) (h:cA):Flat (reA ns i h):=.eG _ (bG (.v _) (.v _))
theorem aOT (ns:List Node) (hu:iA ns) (hr:(nd ns 0).up=-1) (hn:(ns.length:Int)<1000000) (i:Int) (h:cA) (st:St) (d:Option Nat):aM (aC Tryz.prog) 237 [.agg (cT ⟨ns⟩),.v (.int .i64 i),.agg (aV h)] st d=some { dst:=d,val:=.eG [.v (.int .i64 (pA ns i h).1),.v (.int .i64 (pA ns i h).2)]}:=bI (nA (mZ _) (.v _) (qP _)) (aOR ns hu hr hn i h) (P7 ns i h)
theorem VD {ns:List Node} (hu:iA ns) (hr:(nd ns 0).up=-1) {i:Int} (i0:0≤i) (i1:i<ns.length) (h:cA):(pA ns i h).2∈path ns i∧((pA ns i h).1<0∨((pA ns i h).1∈path ns i∧(nd ns (pA ns i h).2).up=(pA ns i h).1)):=by
 have hp0:=IG hu i0 i1
 have hpe:path ns i≠[]:=by intro h;rw[h] at hp0;simp at hp0
 have GF:=yR hu i0 i1
 have Yj:=fun k h h'=>GD hu _ i rfl i0 i1 k h h'
 unfold pA;rw[if_neg hpe];by_cases hz:h=dE
 ·rw[if_pos hz];cases hf:zL ns (path ns i) (path ns i).length with
  | none=>exact⟨GF,.inl (by simp)⟩
  | some k =>
    have hk:=GC _ _ (Nat.le_refl _) hf
    simp only
    refine⟨Fq (by omega) (by omega), ?_⟩
    by_cases uW:k=0
    ·rw[if_pos uW];exact .inl (by omega)
    ·rw[if_neg uW];exact .inr ⟨Fq (by omega) (by omega),Yj k (by omega) (by omega)⟩
 ·rw[if_neg hz];cases hf:Ie ns (path ns i) h ((path ns i).length-1) with
  | none=>exact⟨GF,.inl (by simp)⟩
  | some k =>
    have hk:=NS _ _ hf
    simp only
    refine⟨Fq (by omega) (by omega),.inr ⟨Fq (by omega) (by omega), ?_⟩⟩
    have:=Yj ((k:Int)+1) (by omega) (by omega)
    rw[this];congr 1
    omega
def Yr (kv:AV) (l:List Int):Prop:=kv=.sl l.length (aJ l)∨(l=[]∧kv=.v (.slice none 0 0))
theorem Yr.view {kv:AV} {l:List Int} (h:Yr kv l) (st:St):aQ st kv=some (l.length,aJ l):=by
 rcases h with rfl|⟨rfl,rfl⟩<;>rfl
theorem Yr.idx {kv:AV} {l:List Int} (h:Yr kv l) (st:St) {k:IntKind} {i:Int} (h0:0≤i) (h1:i<l.length):bD Tryz.prog st 22 kv (.v (.int k i))=some (.ip (pX (it l i)) 0):=by
 rcases h with rfl|⟨rfl,rfl⟩
 ·exact aEj st h0 h1
 ·simp at h1;omega
theorem Yr.flat {kv:AV} {l:List Int} (h:Yr kv l):Flat kv:=by
 rcases h with rfl|⟨rfl,rfl⟩
 ·exact Sl l
 ·exact .v _
def j8 (ns:List Node) (c:Int) (l:List Int):Prop:=∃k∈l,Bj ns c k=true
noncomputable def P8 (ns:List Node) (i:Int) (h:cA) (l:List Int):AV :=
 if j8 ns (pA ns i h).2 l then DI 21
 else if 0≤(pA ns i h).1 then
  match raO ns (pA ns i h).1 with
  | none=>DI 21
  | some r=>N4 r (pA ns i h).2
 else N4 ns (pA ns i h).2
noncomputable def VE (ns:List Node) (i:Int) (v:fL) (l:List Int):AV :=
 if ¬(0≤i∧i<ns.length) then DI 10
 else if v.kind=1 then N3 ns i
 else if v.kind=2 then P8 ns i v.dT l
 else if v.kind=3∨v.kind=4 then .eG [.agg (cT ⟨ns⟩),.v (.int .i64 0)]
 else DI 2
theorem D5 (ns:List Node) (i:Int) (h:cA) (l:List Int):Flat (P8 ns i h l):=by
 unfold P8;split
 ·exact vQ _
 ·split
  ·split
   ·exact vQ _
   ·exact Yq _ _
  ·exact Yq _ _
theorem D6 (ns:List Node) (i:Int) (v:fL) (l:List Int):Flat (VE ns i v l):=by
 unfold VE;split
 ·exact vQ _
 ·split
  ·exact NR _ _
  ·split
   ·exact D5 _ _ _ _
   ·split
    ·exact .eG _ (bG (mZ _) (.v _))
    ·exact vQ _
theorem aOU (ns:List Node) (hu:iA ns) (hr:(nd ns 0).up=-1) (hn:(ns.length:Int)<1000000) (i:Int) (v:fL) (l:List Int) (hl:(l.length:Int)<1000000) {kv:AV} (hkv:Yr kv l) :
 aC Tryz.prog 222 [.agg (cT ⟨ns⟩),.v (.int .i64 i),.agg (bW v),kv]=some (VE ns i v l):=by
 rw[cL Tryz.func222 rfl aJN (by rcases hkv with rfl|⟨rfl,rfl⟩<;>rfl)]
 have h86:=UC ns i
 unfold VE;by_cases hm:0≤i∧i<ns.length
 ·obtain⟨i0,i1⟩:=hm
  have hd:(decide (0≤i) && decide (i<(ns.length:Int)))=true:=by simp[i0,i1]
  rw[hd] at h86;rw[if_neg (by simp[i0,i1])]
  by_cases h1:v.kind=1
  ·rw[if_pos h1];have b1:(v.kind == 1)=true:=by simp[h1]
   have h96:=aJK ns hu hn i
   rcases D3 ns hn i with ⟨e,he⟩|⟨q,he,_⟩
   all_goals
    rw[he] at h96;rw[he];simp only[ZZ,seval,h86,b1,h96,dY];exact dO rfl (by simp only[bT,ZZ,seval];rfl) (by simp only[bT,EV,seval]<;>rfl) (by simp only[EV,seval]<;>rfl) (by simp only[EV,seval]<;>rfl)
  ·rw[if_neg h1];have b1:(v.kind == 1)=false:=by simp[h1]
   by_cases h2:v.kind=2
   ·rw[if_pos h2];have b2:(v.kind == 2)=true:=by simp[h2]
    have b3:(v.kind == 3)=false:=by simp[h2]
    have b4:(v.kind == 4)=false:=by simp[h2]
    have hRe:=aOT ns hu hr hn i v.dT
    have hfact:=VD hu hr i0 i1 v.dT
    have hv:=hkv.view
    have hix:=fun st (k:IntKind) (i:Int) h0 h1=>hkv.idx st (k:=k) (i:=i) h0 h1
    have h46:=Pj ns hu hn
    unfold P8;obtain⟨a,ha⟩:∃a,(pA ns i v.dT).1=a:=⟨_,rfl⟩
    obtain⟨c,hc⟩:∃c,(pA ns i v.dT).2=c:=⟨_,rfl⟩
    rw[ha,hc] at hRe hfact;rw[ha,hc];simp only[ZZ,seval,h86,b1,b2,b3,b4,hRe,dY];refine lM (fun n st=>∃k:Nat,(st.env 3=kv∧st.env 4=.ptr 4 0 0∧st.heap 4 0=some (.cells (cT ⟨ns⟩))∧st.env 8=.ptr 8 0 0∧st.heap 8 0=some (.cells [.v (.slice none 0 0)])∧st.env 10=.v (.int .i64 a)∧st.env 11=.v (.int .i64 c)∧st.env 12=.v (.int .i64 k))∧(∀j:Int,0≤j→j<k→Bj ns c (it l j)=false)∧k≤l.length∧n=l.length-k)
     (fun e st=>(e=.ret∧j8 ns c l∧st.env 8=.ptr 8 0 0∧st.heap 8 0=some (.cells [.v (.slice none 0 0)])∧st.env 9=.v (.int .i64 21))∨(e=.exit 1∧¬j8 ns c l∧st.env 4=.ptr 4 0 0∧st.heap 4 0=some (.cells (cT ⟨ns⟩))∧st.env 8=.ptr 8 0 0∧st.heap 8 0=some (.cells [.v (.slice none 0 0)])∧st.env 10=.v (.int .i64 a)∧st.env 11=.v (.int .i64 c))) l.length ?step ?start ?rest
    case step =>
     rintro n st ⟨k,hI,hj,hk,Ju⟩
     by_cases aY:(k:Int)<l.length
     ·have q0:(0:Int)≤k:=by omega
      have hw:IntKind.i64.wrap ((k:Int)+1)=((k+1:Nat):Int):=by rw[Ia _ (by omega) (by omega)];omega
      cases hA:Bj ns c (it l k)
      ·apply oN (l.length-(k+1))
       ·simp only[ZZ,seval,hI,aY,q0,hv,hix,h46,hA,hw];rfl
       ·exact⟨k+1,by simp only[EV,seval,hI],fun j j0 j1=>by
        by_cases hjk:j<k
        ·exact hj j j0 hjk
        ·rw[show j=(k:Int) by omega];exact hA,by omega,rfl⟩
      ·apply oT (.ret)
       ·simp only[ZZ,seval,hI,aY,q0,hv,hix,h46,hA];rfl
       ·exact .inl ⟨rfl,⟨_,Fq q0 aY,hA⟩,by simp only[EV,seval,hI],by simp only[EV,seval,hI],by simp only[EV,seval,hI]⟩
     ·obtain rfl:k=l.length:=by omega
      have hno:¬j8 ns c l:=by
       rintro⟨x,hx,hxa⟩
       obtain⟨j,UD,rfl⟩:=List.getElem_of_mem hx
       have:=hj j (by omega) (by omega)
       rw[show it l (j:Int)=l[j] by simp[it,UD]] at this
       rw[this] at hxa;cases hxa
      apply oT (.exit 1)
      ·simp only[ZZ,seval,hI,hv,aY];rfl
      ·exact .inr ⟨rfl,hno,by simp only[EV,seval,hI]⟩
    case start=>exact⟨0,by simp only[EV,seval],fun j _ _=>by omega,by omega,by omega⟩
    case rest =>
     rintro e st (⟨rfl,hk,hI⟩|⟨rfl,hk,hI⟩)
     ·rw[if_pos hk];simp only[ZZ,seval];exact dO rfl (by simp only[bT,ZZ,seval,hI];rfl) (by simp only[bT,EV,seval,hI]<;>rfl) (by simp only[EV,seval]<;>rfl) (by simp only[EV,seval]<;>rfl)
     ·rw[if_neg hk];by_cases h0:0≤a
      ·rw[if_pos h0];have nP:a∈path ns i:=by
        rcases hfact.2 with h|h
        ·omega
        ·exact h.1
       obtain⟨_,a1⟩:=Xe hu a nP
       have h96:=aJK ns hu hn a
       rw[show N3 ns a=stA (raO ns a) from if_pos ⟨h0,a1⟩] at h96;cases ho:raO ns a with
       | none =>
         rw[ho] at h96;simp only[stA,DI] at h96;simp only[ZZ,seval,hI,h0,h96,dY];exact dO rfl (by simp only[bT,ZZ,seval,hI];rfl) (by simp only[bT,EV,seval,hI]<;>rfl) (by simp only[EV,seval]<;>rfl) (by simp only[EV,seval]<;>rfl)
       | some r =>
         rw[ho] at h96;simp only[stA] at h96;have hR:=D4 hu ho
         have hu2:=hR.c.su.aOP hu
         have h97:=aJL r hu2 (by rw[hR.c.len];exact hn) c
         rcases GB r (by rw[hR.c.len];exact hn) c with ⟨e,he⟩|⟨q,he,_⟩
         all_goals
          rw[he] at h97;simp only[he];simp only[ZZ,seval,hI,h0,h96,h97,dY];exact dO rfl (by simp only[bT,ZZ,seval,hI];rfl) (by simp only[bT,EV,seval,hI]<;>rfl) (by simp only[EV,seval]<;>rfl) (by simp only[EV,seval]<;>rfl)
      ·rw[if_neg h0];have h97:=aJL ns hu hn c
       rcases GB ns hn c with ⟨e,he⟩|⟨q,he,_⟩
       all_goals
        rw[he] at h97;rw[he];simp only[ZZ,seval,hI,h0,h97,dY];exact dO rfl (by simp only[bT,ZZ,seval,hI];rfl) (by simp only[bT,EV,seval,hI]<;>rfl) (by simp only[EV,seval]<;>rfl) (by simp only[EV,seval]<;>rfl)
   ·rw[if_neg h2];have b2:(v.kind == 2)=false:=by simp[h2]
    by_cases h3:v.kind=3
    ·rw[if_pos (.inl h3)];have b3:(v.kind == 3)=true:=by simp[h3]
     simp only[ZZ,seval,h86,b1,b2,b3];exact dO rfl (by simp only[bT,ZZ,seval];rfl) (by simp only[bT,EV,seval]<;>rfl) (by simp only[EV,seval]<;>rfl) (by simp only[EV,seval]<;>rfl)
    ·have b3:(v.kind == 3)=false:=by simp[h3]
     by_cases h4:v.kind=4
     ·rw[if_pos (.inr h4)];have b4:(v.kind == 4)=true:=by simp[h4]
      simp only[ZZ,seval,h86,b1,b2,b3,b4];exact dO rfl (by simp only[bT,ZZ,seval];rfl) (by simp only[bT,EV,seval]<;>rfl) (by simp only[EV,seval]<;>rfl) (by simp only[EV,seval]<;>rfl)
     ·rw[if_neg (by omega)]
      have b4:(v.kind == 4)=false:=by simp[h4]
      simp only[ZZ,seval,h86,b1,b2,b3,b4];exact dO rfl (by simp only[bT,ZZ,seval];rfl) (by simp only[bT,EV,seval]<;>rfl) (by simp only[EV,seval]<;>rfl) (by simp only[EV,seval]<;>rfl)
 ·rw[if_pos hm];have hd:(decide (0≤i) && decide (i<(ns.length:Int)))=false:=by
   by_cases h0:0≤i
   ·have:¬i<ns.length:=fun h=>hm ⟨h0,h⟩
    simp[this]
   ·simp[h0]
  rw[hd] at h86;simp only[ZZ,seval,h86];exact dO rfl (by simp only[bT,ZZ,seval];rfl) (by simp only[bT,EV,seval]<;>rfl) (by simp only[EV,seval]<;>rfl) (by simp only[EV,seval]<;>rfl)
theorem yU (s:Config):Flat (.agg (bR s))↔Flat s.jO:=by
 constructor
 ·intro h;have h:∀x∈bR s,Flat x:=by cases h with|agg _ h=>exact h
  exact h _ (List.mem_of_getElem? (zM s))
 ·intro h0;exact .agg _ (uD s h0)
theorem Ps (s:vD):Flat (.agg (fC s))↔Flat s.dT∧Flat s.iB:=by
 constructor
 ·intro h;have h:∀x∈fC s,Flat x:=by cases h with|agg _ h=>exact h
  exact⟨h _ (List.mem_of_getElem? (vR s)),h _ (List.mem_of_getElem? (xO s))⟩
 ·rintro⟨h0,h1⟩
  exact .agg _ (qQ s h0 h1)
theorem GG (s:zN):Flat (.agg (jT s))↔Flat s.early∧Flat s.bV:=by
 constructor
 ·intro h;have h:∀x∈jT s,Flat x:=by cases h with|agg _ h=>exact h
  exact⟨h _ (List.mem_of_getElem? (vS s)),h _ (List.mem_of_getElem? (tD s))⟩
 ·rintro⟨h0,h1⟩
  exact .agg _ (Pt s h0 h1)
theorem NU (s:Gw):Flat (.agg (mT s))↔Flat s.nodes:=by
 constructor
 ·intro h;have h:∀x∈mT s,Flat x:=by cases h with|agg _ h=>exact h
  exact h _ (List.mem_of_getElem? (xP s))
 ·intro h0;exact .agg _ (wX s h0)
theorem Ig (s:aN):Flat (.agg (aB s))↔Flat s.cFg.jO∧Flat s.gE.dT∧Flat s.gE.iB∧Flat s.dS.early∧Flat s.dS.bV∧Flat s.tree.nodes∧Flat s.tables:=by
 constructor
 ·intro h;have h:∀x∈aB s,Flat x:=by cases h with|agg _ h=>exact h
  exact⟨h _ (List.mem_of_getElem? (qR s)),h _ (List.mem_of_getElem? (pB s)),h _ (List.mem_of_getElem? (pY s)),h _ (List.mem_of_getElem? (pC s)),h _ (List.mem_of_getElem? (nU s)),h _ (List.mem_of_getElem? (qS s)),h _ (List.mem_of_getElem? (vT s))⟩
 ·rintro⟨h0,h1,h2,h3,h4,h5,h6⟩
  exact .agg _ (Uz s h0 h1 h2 h3 h4 h5 h6)
theorem oG (s:State):Flat (.agg (aF s))↔Flat s.store.cFg.jO∧Flat s.store.gE.dT∧Flat s.store.gE.iB∧Flat s.store.dS.early∧Flat s.store.dS.bV∧Flat s.store.tree.nodes∧Flat s.store.tables∧Flat s.cY∧Flat s.oD:=by
 constructor
 ·intro h;have h:∀x∈aF s,Flat x:=by cases h with|agg _ h=>exact h
  exact⟨h _ (List.mem_of_getElem? (qT s)),h _ (List.mem_of_getElem? (pM s)),h _ (List.mem_of_getElem? (qI s)),h _ (List.mem_of_getElem? (pN s)),h _ (List.mem_of_getElem? (oH s)),h _ (List.mem_of_getElem? (qU s)),h _ (List.mem_of_getElem? (uF s)),h _ (List.mem_of_getElem? (zO s)),h _ (List.mem_of_getElem? (Bm s))⟩
 ·rintro⟨h0,h1,h2,h3,h4,h5,h6,h7,h8⟩
  exact .agg _ (NV s h0 h1 h2 h3 h4 h5 h6 h7 h8)
theorem zP (s:sH):Flat (.agg (gY s))↔Flat s.eU:=by
 constructor
 ·intro h;have h:∀x∈gY s,Flat x:=by cases h with|agg _ h=>exact h
  exact h _ (List.mem_of_getElem? (Fw s))
 ·intro h0;exact .agg _ (So s h0)
theorem zQ (s:Claim):Flat (.agg (gT s))↔Flat s.eU:=by
 constructor
 ·intro h;have h:∀x∈gT s,Flat x:=by cases h with|agg _ h=>exact h
  exact h _ (List.mem_of_getElem? (uG s))
 ·intro h0;exact .agg _ (Ih s h0)
theorem nD (s:fY):Flat (.agg (bZ s))↔Flat s.first.eU∧Flat s.second.eU:=by
 constructor
 ·intro h;have h:∀x∈bZ s,Flat x:=by cases h with|agg _ h=>exact h
  exact⟨h _ (List.mem_of_getElem? (oI s)),h _ (List.mem_of_getElem? (nX s))⟩
 ·rintro⟨h0,h1⟩
  exact .agg _ (Ii s h0 h1)
theorem kF (s:Table):Flat (.agg (cI s))↔Flat s.jO:=by
 constructor
 ·intro h;have h:∀x∈cI s,Flat x:=by cases h with|agg _ h=>exact h
  exact h _ (List.mem_of_getElem? (Cm s))
 ·intro h0;exact .agg _ (Ij s h0)
theorem VF (s:xL):Flat (.agg (kY s))↔Flat s.Hl.eU∧Flat s.oU.first.eU∧Flat s.oU.second.eU∧Flat s.table.jO:=by
 constructor
 ·intro h;have h:∀x∈kY s,Flat x:=by cases h with|agg _ h=>exact h
  exact⟨h _ (List.mem_of_getElem? (Dj s)),h _ (List.mem_of_getElem? (sO s)),h _ (List.mem_of_getElem? (rX s)),h _ (List.mem_of_getElem? (Bn s))⟩
 ·rintro⟨h0,h1,h2,h3⟩
  exact .agg _ (D7 s h0 h1 h2 h3)
theorem aFz (x:Value):Flat (.v x)=True:=eq_true (.v x)
theorem NX (o:Option (List Int)):Flat (ov bE o)=True:=eq_true (dP o)
theorem NY (o:Option (List Int)):Flat (ov aJ o)=True:=eq_true (bO o)
theorem GH (o:Option (List kM)):Flat (ov cP o)=True:=eq_true (qV o)
theorem Ys (o:Option (List Block)):Flat (ov aH o)=True:=eq_true (Fx o)
theorem Pu (o:Option (List Request)):Flat (ov aA o)=True:=eq_true (dK o)
theorem NZ (n:Nat) (o:List Int):Flat (.sl n (bE o))=True:=eq_true (.sl _ _ (iC o))
theorem OA (n:Nat) (o:List Int):Flat (.sl n (aJ o))=True:=eq_true (.sl _ _ (gD o))
theorem GJ (n:Nat) (o:List kM):Flat (.sl n (cP o))=True:=eq_true (.sl _ _ (nF o))
theorem Yt (n:Nat) (o:List Block):Flat (.sl n (aH o))=True:=eq_true (.sl _ _ (pD o))
theorem Pv (n:Nat) (o:List Request):Flat (.sl n (aA o))=True:=eq_true (.sl _ _ (fJ o))
theorem GK (n:Nat) (o:List Node):Flat (.sl n (cB o))=True:=eq_true (.sl _ _ (jZ o))
theorem j9 (r:cA):Flat (.agg (aV r))=True:=eq_true (qP r)
theorem OB (r:Block):Flat (.agg (aT r))=True:=eq_true (vC r)
theorem l4 (r:rL):Flat (.agg (gF r))=True:=eq_true (.agg _ (iM r))
theorem Bo (r:fV):Flat (.agg (bX r))=True:=eq_true (.agg _ (dB r))
theorem P9 (r:Request):Flat (.agg (bN r))=True:=eq_true (.agg _ (gL r))
theorem Yu (r:fL):Flat (.agg (bW r))=True:=eq_true (.agg _ (gM r))
theorem GL (r:pE):Flat (.agg (fM r))=True:=eq_true (.agg _ (Fy r))
theorem OC (x:AV):Flat (.agg [x])↔Flat x:=by
 constructor
 ·intro h;cases h with|agg _ h=>exact h x (by simp)
 ·intro h;exact .agg _ (by simpa using h)
theorem dU:(type_of% aFz)∧(type_of% NX)∧(type_of% NY)∧(type_of% GH)∧(type_of% Ys)∧(type_of% Pu)∧(type_of% NZ)∧(type_of% OA)∧(type_of% GJ)∧(type_of% Yt)∧(type_of% Pv)∧(type_of% GK)∧(type_of% j9)∧(type_of% OB)∧(type_of% l4)∧(type_of% Bo)∧(type_of% P9)∧(type_of% Yu)∧(type_of% GL)∧(type_of% OC)∧(type_of% yU)∧(type_of% Ps)∧(type_of% GG)∧(type_of% NU)∧(type_of% Ig)∧(type_of% oG)∧(type_of% zP)∧(type_of% zQ)∧(type_of% nD)∧(type_of% kF)∧(type_of% VF) :=
 ⟨aFz,NX,NY,GH,Ys,Pu,NZ,OA,GJ,Yt,Pv,GK,j9,OB,l4,Bo,P9,Yu,GL,OC,yU,Ps,GG,NU,Ig,oG,zP,zQ,nD,kF,VF⟩
structure SV where
 B:Option (List Int)
 L:Option (List kM)
 Q:Option (List Int)
 E:Option (List sH)
 O:Option (List Block)
 T:Option (List Table)
 ns:List Node
def Dk (a:sH):Prop:=∃V:Option (List Int),a.eU=ov aJ V∧((ol V).length:Int)<1000000
def sP (t:Table):Prop:=∃b:Option (List Int),t.jO=ov bE b∧((ol b).length:Int)<1000000
structure SD (s:aN) (v:SV):Prop where
 jO:s.cFg.jO=ov bE v.B
 dT:s.gE.dT=ov cP v.L
 iB:s.gE.iB=ov aJ v.Q
 early:s.dS.early=ov dD v.E
 bV:s.dS.bV=ov aH v.O
 tree:s.tree=⟨.sl v.ns.length (cB v.ns)⟩
 tables:s.tables=ov aR v.T
 eV:∀a∈ol v.E,Dk a
 tB:∀t∈ol v.T,sP t
 nB:((ol v.B).length:Int)<1000000
 nL:((ol v.L).length:Int)<1000000
 nQ:((ol v.Q).length:Int)<1000000
 nE:((ol v.E).length:Int)<1000000
 nO:((ol v.O).length:Int)<1000000
 nT:((ol v.T).length:Int)<1000000
 nn:(v.ns.length:Int)<1000000
theorem Dk.fl {a:sH} (h:Dk a):Flat a.eU:=by obtain⟨V,h,_⟩:=h;rw[h];exact bO V
theorem sP.fl {a:Table} (h:sP a):Flat a.jO:=by obtain⟨V,h,_⟩:=h;rw[h];exact dP V
theorem SD.fE {s:aN} {v:SV} (h:SD s v):Flat (ov dD v.E):=Yv v.E fun a ha=>(h.eV a ha).fl
theorem SD.fT {s:aN} {v:SV} (h:SD s v):Flat (ov aR v.T):=lR v.T fun a ha=>(h.tB a ha).fl
theorem SD.flat {s:aN} {v:SV} (h:SD s v):Flat (.agg (aB s)):=by
 rw[Ig,h.jO,h.dT,h.iB,h.early,h.bV,h.tree,h.tables];exact⟨dP _,qV _,bO _,h.fE,Fx _,.sl _ _ (jZ _),h.fT⟩
theorem c97 {s:aN} {v:SV} (hs:SD s v):aC Tryz.prog 97 [.agg (aB s)]=some (.v (.int .i64 (ol v.B).length)):=by
 rw[cL Tryz.func97 rfl aOW rfl];simp only[Z8,seval,hs.jO];exact bS rfl (by simp only[E8,seval]<;>rfl) (.v _)
theorem Yw {s:aN} {v:SV} (hs:SD s v) (st:St) (d:Option Nat):aM (aC Tryz.prog) 97 [.agg (aB s)] st d=some { dst:=d,val:=.v (.int .i64 (ol v.B).length)}:=bI (cU hs.flat) (c97 hs) (.v _)
noncomputable def Fh (s:aN) (x:Int):Int:=IntKind.u64.wrap (x.tdiv s.cFg.qW)
theorem c98 (s:aN) (h:s.cFg.qW≠0) (x:Int):aC Tryz.prog 98 [.agg (aB s),.v (.int .u64 x)]=some (.v (.int .u64 (Fh s x))):=by
 rw[cL Tryz.func98 rfl aOX rfl];have h0:(s.cFg.qW=0)=False:=eq_false h
 simp only[Z8,seval,h0];exact bS rfl (by simp only[E8,seval,Fh]<;>rfl) (.v _)
theorem Ow (s:aN) (h:s.cFg.qW≠0) (hf:Flat (.agg (aB s))) (x:Int) (st:St) (d:Option Nat):aM (aC Tryz.prog) 98 [.agg (aB s),.v (.int .u64 x)] st d=some { dst:=d,val:=.v (.int .u64 (Fh s x))}:=bI (bG hf (.v _)) (c98 s h x) (.v _)
noncomputable def Fi (s:aN) (e:Int):Int × Int:=ND e s.cFg.qW
theorem c99 (s:aN) (x:Int):aC Tryz.prog 99 [.agg (aB s),.v (.int .u64 x)]=some (.eG [.v (.int .u64 (Fi s x).1),.v (.bool ((Fi s x).2 == 0))]):=by
 rw[cL Tryz.func99 rfl aOZ rfl];simp only[Z8,seval,aOp,dY];exact dO rfl rfl rfl (by simp only[E8,seval,Fi]<;>rfl) (by simp only[E8,seval,Fi]<;>rfl)
theorem Xf (s:aN) (hf:Flat (.agg (aB s))) (x:Int) (st:St) (d:Option Nat):aM (aC Tryz.prog) 99 [.agg (aB s),.v (.int .u64 x)] st d=some { dst:=d,val:=.eG [.v (.int .u64 (Fi s x).1),.v (.bool ((Fi s x).2 == 0))]}:=bI (bG hf (.v _)) (c99 s x) (.eG _ (bG (.v _) (.v _)))
theorem aO0 {s:aN} {v:SV} (hs:SD s v) (i:Int):aC Tryz.prog 251 [.agg (aB s),.v (.int .i64 i)]=some (.v (.bool (decide (0≤i) && decide (i<v.ns.length)))):=by
 rw[cL Tryz.func251 rfl aJP rfl];by_cases h:0≤i
 all_goals
  simp only[Z8,seval,h,hs.tree,decide_true,decide_false,Bool.true_and,Bool.false_and];exact bS rfl (by simp only[E8,seval,h,decide_true,decide_false,Bool.true_and,Bool.false_and]<;>rfl) (.v _)
theorem Yx {s:aN} {v:SV} (hs:SD s v) (i:Int) (st:St) (d:Option Nat):aM (aC Tryz.prog) 251 [.agg (aB s),.v (.int .i64 i)] st d=some { dst:=d,val:=.v (.bool (decide (0≤i) && decide (i<v.ns.length)))}:=bI (bG hs.flat (.v _)) (aO0 hs i) (.v _)
def Q0 (s:aN) (b:Block):Prop:=b.fin.aK≤b.gW.aK∧b.gW.aK≤b.dQ.pj.aK∧b.fin.aK≤b.dQ.pf.aK∧b.dQ.pf.aK≤b.dQ.pj.aK∧b.dQ.pj.aK≤Fh s b.slot
theorem aO1 (s:aN) (h:s.cFg.qW≠0) (hf:Flat (.agg (aB s))) (b:Block):aC Tryz.prog 137 [.agg (aB s),.agg (aT b)]=some (.v (.bool (decide (Q0 s b)))):=by
 rw[cL Tryz.func137 rfl aJQ rfl];have h98:=Ow s h hf
 unfold Q0;by_cases h1:b.fin.aK≤b.gW.aK
 ·by_cases h2:b.gW.aK≤b.dQ.pj.aK
  ·by_cases h3:b.fin.aK≤b.dQ.pf.aK
   ·by_cases h4:b.dQ.pf.aK≤b.dQ.pj.aK
    ·simp only[*,true_and,false_and,and_true,and_false,decide_true,decide_false];simp only[Z8,seval, *];exact bS rfl (by simp only[E8,seval, *]<;>rfl) (.v _)
    ·simp only[*,true_and,false_and,and_true,and_false,decide_true,decide_false];simp only[Z8,seval, *];exact bS rfl (by simp only[E8,seval, *]<;>rfl) (.v _)
   ·simp only[*,true_and,false_and,and_true,and_false,decide_true,decide_false];simp only[Z8,seval, *];exact bS rfl (by simp only[E8,seval, *]<;>rfl) (.v _)
  ·simp only[*,true_and,false_and,and_true,and_false,decide_true,decide_false];simp only[Z8,seval, *];exact bS rfl (by simp only[E8,seval, *]<;>rfl) (.v _)
 ·simp only[*,true_and,false_and,and_true,and_false,decide_true,decide_false];simp only[Z8,seval, *];exact bS rfl (by simp only[E8,seval, *]<;>rfl) (.v _)
theorem aJR (s:aN) (h:s.cFg.qW≠0) (hf:Flat (.agg (aB s))) (b:Block) (st:St) (d:Option Nat):aM (aC Tryz.prog) 137 [.agg (aB s),.agg (aT b)] st d=some { dst:=d,val:=.v (.bool (decide (Q0 s b)))}:=bI (bG hf (vC _)) (aO1 s h hf b) (.v _)
noncomputable def VG (s:aN) (ns:List Node) (i e:Int):Prop:=(Fi s e).2≠0∨(nd ns i).block.slot≤(Fi s e).1
theorem aO2 {s:aN} {v:SV} (hs:SD s v) (i e:Int) (i0:0≤i) (i1:i<v.ns.length):aC Tryz.prog 122 [.agg (aB s),.v (.int .i64 i),.v (.int .u64 e)]=some (.v (.bool (decide (VG s v.ns i e)))):=by
 rw[cL Tryz.func122 rfl aJS rfl];unfold VG;by_cases h:(Fi s e).2=0
 ·have hq:((Fi s e).2 == 0)=true:=by simp[h]
  simp only[h,ne_eq,not_true_eq_false,false_or];simp only[Z8,seval,Xf s hs.flat,dY,hq,hs.tree,i0,i1];exact bS rfl (by simp only[E8,seval]<;>rfl) (.v _)
 ·have hq:((Fi s e).2 == 0)=false:=by simp[h]
  simp only[h,ne_eq,not_false_eq_true,true_or,decide_true];simp only[Z8,seval,Xf s hs.flat,dY,hq,hs.tree,i0,i1];exact bS rfl (by simp only[E8,seval]<;>rfl) (.v _)
theorem aJT {s:aN} {v:SV} (hs:SD s v) (i e:Int) (i0:0≤i) (i1:i<v.ns.length) (st:St) (d:Option Nat):aM (aC Tryz.prog) 122 [.agg (aB s),.v (.int .i64 i),.v (.int .u64 e)] st d=some { dst:=d,val:=.v (.bool (decide (VG s v.ns i e)))}:=bI (nA hs.flat (.v _) (.v _)) (aO2 hs i e i0 i1) (.v _)
theorem pZ (x:Int) (h1:-9223372036854775808≤x) (h2:x≤9223372036854775807):IntKind.i64.wrap x=x:=wrap_i64 x h1 h2
theorem yV {α:Type} (z:α) (p:α→Bool) (l:List α) (k:Nat) (h:k<l.length):(l.take (k+1)).filter p=(l.take k).filter p++if p (gx z l k)=true then [gx z l k] else []:=by
 have hg:gx z l k=l[k]:=by simp[gx,h]
 rw[List.take_succ_eq_append_getElem h,List.filter_append,hg];congr 1
 by_cases hp:p l[k]=true<;>simp[hp]
noncomputable def Cn (p:Nat→Prop):Nat→Int
 | 0=>-1
 | k+1=>if 0≤Cn p k then Cn p k else if p k then k else -1
theorem tN {p:Nat→Prop}:∀n:Nat,(∀j,j<n→¬p j)→Cn p n=-1
 | 0,_=>rfl
 | n+1,h=>by
   simp only[Cn];rw[tN n fun j hj=>h j (by omega),if_neg (by omega),if_neg (h n (by omega))]
theorem Jz {p:Nat→Prop} {k:Nat} (hk:p k) (hj:∀j,j<k→¬p j):∀n:Nat,k<n→Cn p n=k
 | 0,h=>by omega
 | n+1,h=>by
   simp only[Cn];by_cases Fg:k=n
   ·subst Fg;rw[tN k hj,if_neg (by omega),if_pos hk]
   ·rw[Jz hk hj n (by omega),if_pos (by omega)]
theorem zS (p:Nat→Prop) (n:Nat):(Cn p n=-1∧∀j,j<n→¬p j)∨∃k:Nat,k<n∧p k∧(∀j,j<k→¬p j)∧Cn p n=k:=by
 by_cases h:∃k,k<n∧p k
 ·obtain⟨k,⟨hk,hp⟩,hm⟩:=Fz h
  have hj:∀j,j<k→¬p j:=fun j hj hpj=>by have:=hm j ⟨by omega,hpj⟩;omega
  exact .inr ⟨k,hk,hp,hj,Jz hp hj n hk⟩
 ·have h':∀j,j<n→¬p j:=fun j hj hp=>h ⟨j,hj,hp⟩
  exact .inl ⟨tN n h',h'⟩
theorem VH (p:Nat→Prop) (n:Nat):-1≤Cn p n∧Cn p n<n:=by
 rcases zS p n with ⟨h,_⟩|⟨k,hk,_,_,h⟩<;>rw[h]<;>omega
noncomputable def N5 (l:List Table) (c:fV):Int:=Cn (fun k=>(gx iV l k).ck=c) l.length
theorem c65 (o:Option (List Table)) (hn:((ol o).length:Int)<1000000) (c:fV):aC Tryz.prog 65 [ov aR o,.agg (bX c)]=some (.v (.int .i64 (N5 (ol o) c))):=by
 rw[cL Tryz.func65 rfl aO3 (by cases o<;>rfl)]
 simp only[Z8,seval];refine lM (fun m st=>∃k:Nat,(st.env 0=ov aR o∧st.env 3=.ptr 3 0 0∧st.heap 3 0=some (.cells (bX c))∧st.env 5=.v (.int .i64 k))∧(∀j:Nat,j<k→¬((gx iV (ol o) (j:Int)).ck=c))∧k≤(ol o).length∧m=(ol o).length-k)
  (fun e st=>(e=.ret∧∃k:Nat,k<(ol o).length∧((gx iV (ol o) (k:Int)).ck=c)∧(∀j:Nat,j<k→¬((gx iV (ol o) (j:Int)).ck=c))∧st.env 4=.v (.int .i64 (k:Nat)))∨(e=.exit 0∧(∀j:Nat,j<(ol o).length→¬((gx iV (ol o) (j:Int)).ck=c))∧st.env 0=ov aR o∧st.env 3=.ptr 3 0 0∧st.heap 3 0=some (.cells (bX c)))) ((ol o).length) ?step ?start ?rest
 case step =>
  rintro m st ⟨k,hI,hj,hk,hm⟩
  by_cases aY:(k:Int)<(ol o).length
  ·have q0:(0:Int)≤k:=by omega
   have hw:IntKind.i64.wrap ((k:Int)+1)=((k+1:Nat):Int):=by rw[pZ _ (by omega) (by omega)];omega
   by_cases hh:(gx iV (ol o) (k:Int)).ck=c
   ·apply oT (.ret)
    ·simp only[Z8,seval,hI,aY,q0,hh];rfl
    ·exact .inl ⟨rfl,k,by omega,hh,hj,by simp only[E8,seval]⟩
   ·apply oN ((ol o).length-(k+1))
    ·simp only[Z8,seval,hI,aY,q0,hh,hw];rfl
    ·exact⟨k+1,by simp only[E8,seval,hI],fun j h=>(Nat.lt_succ_iff_lt_or_eq.1 h).elim (hj j) fun e=>by subst e;exact hh,by omega,rfl⟩
  ·apply oT (.exit 0)
   ·simp only[Z8,seval,hI,aY];rfl
   ·exact .inr ⟨rfl,fun j h=>hj j (by omega),by simp only[E8,seval,hI]⟩
 case start=>exact⟨0,by simp only[E8,seval]<;>rfl,fun j h=>by omega,by omega,by omega⟩
 case rest =>
  rintro e st (⟨rfl,k,hk,hh,hj,h⟩|⟨rfl,hj,h⟩)
  ·have hv:N5 (ol o) c=k:=Jz hh hj _ hk
   simp only[Z8,seval];exact bS rfl (by simp only[E8,seval,h,hv]<;>rfl) (.v _)
  ·have hv:N5 (ol o) c=-1:=tN _ hj
   simp only[Z8,seval];exact bS rfl (by simp only[E8,seval,h,hv]<;>rfl) (.v _)
theorem l5 (o:Option (List Table)) (hn:((ol o).length:Int)<1000000) (hf:Flat (ov aR o)) (c:fV) (st:St) (d:Option Nat):aM (aC Tryz.prog) 65 [ov aR o,.agg (bX c)] st d=some { dst:=d,val:=.v (.int .i64 (N5 (ol o) c))}:=bI (bG hf (.agg _ (dB c))) (c65 o hn c) (.v _)
noncomputable def nz {α:Type} (l:List α):Option (List α):=if l=[] then none else some l
theorem oV {α:Type} (l:List α):ol (nz l)=l:=by unfold nz;split<;>simp[ol, *]
noncomputable def yW (l:List Table) (x:Int):List Table:=l.filter fun t=>decide (x≤t.ck.aK)
noncomputable def Pw (e sz:Nat) {α:Type} (c:List α→List AV) (l:List α):AV:=if l=[] then .v (.slice none 0 0) else .uniq e sz l.length (c l)
theorem aO4 (o:Option (List Table)) (hn:((ol o).length:Int)<1000000) (ht:∀t∈ol o,Flat t.jO) (x:Int):aC Tryz.prog 128 [ov aR o,.v (.int .u64 x)]=some (Pw 118 34 aR (yW (ol o) x)):=by
 rw[cL Tryz.func128 rfl aJU (by cases o<;>rfl)]
 have MV:∀l:List Table,(∀t∈l,t∈ol o)→∀y∈aR l,Flat y:=fun l h=>lS l fun t m=>ht t (h t m)
 simp only[Z8,seval];refine lM (fun m st=>∃k:Nat,(st.env 0=ov aR o∧st.env 1=.v (.int .u64 x)∧st.env 6=.v (.int .i64 k))∧(((((ol o).take k).filter (fun t=>decide (x≤t.ck.aK)))=[]∧st.env 5=.v (.slice none 0 0))∨((((ol o).take k).filter (fun t=>decide (x≤t.ck.aK)))≠[]∧∃g,st.env 5=.own 27 g∧g<st.aP 27∧st.heap 27 g=some (.row 118 34 (((ol o).take k).filter (fun t=>decide (x≤t.ck.aK))).length (aR (((ol o).take k).filter (fun t=>decide (x≤t.ck.aK)))))))∧k≤(ol o).length∧m=(ol o).length-k)
  (fun e st=>e=.exit 0∧(((((ol o).take (ol o).length).filter (fun t=>decide (x≤t.ck.aK)))=[]∧st.env 5=.v (.slice none 0 0))∨((((ol o).take (ol o).length).filter (fun t=>decide (x≤t.ck.aK)))≠[]∧∃g,st.env 5=.own 27 g∧g<st.aP 27∧st.heap 27 g=some (.row 118 34 (((ol o).take (ol o).length).filter (fun t=>decide (x≤t.ck.aK))).length (aR (((ol o).take (ol o).length).filter (fun t=>decide (x≤t.ck.aK)))))))∧st.env 0=ov aR o∧st.env 1=.v (.int .u64 x)) ((ol o).length) ?step ?start ?rest
 case step =>
  rintro m st ⟨k,hI,h5,hk,hm⟩
  have Ht:(((((ol o).take k).filter (fun t=>decide (x≤t.ck.aK))).length:Nat):Int)<1000000:=by have:=List.length_filter_le (fun t=>decide (x≤t.ck.aK)) ((ol o).take k);have h2:=List.length_take_le' k (ol o);omega
  by_cases aY:(k:Int)<(ol o).length
  ·have q0:(0:Int)≤k:=by omega
   have hw:IntKind.i64.wrap ((k:Int)+1)=((k+1:Nat):Int):=by rw[pZ _ (by omega) (by omega)];omega
   have hs:=yV iV (fun t=>decide (x≤t.ck.aK)) (ol o) k (by omega)
   have aFA:Flat (.agg (cI (gx iV (ol o) (k:Int)))):=(kF _).2 (ht _ (vU q0 aY))
   by_cases hh:x≤(gx iV (ol o) (k:Int)).ck.aK
   ·rw[if_pos (decide_eq_true hh)] at hs;rcases h5 with ⟨hy,h5⟩|⟨hy,g,h5⟩
    ·rw[hy] at hs;apply oN ((ol o).length-(k+1))
     ·simp only[Z8,seval,hI,h5,aY,hw,q0,aFA,hh];rfl
     ·exact⟨k+1,by simp only[E8,seval,hI],.inr ⟨by rw[hs];simp,_,by simp only[E8,seval]<;>rfl,(by simp only[E8,seval]<;>omega),(by rw[hs];simp only[E8,seval]<;>rfl)⟩,by omega,rfl⟩
    ·apply oN ((ol o).length-(k+1))
     ·simp only[Z8,seval,hI,h5,Ht,aY,hw,q0,aFA,hh];rfl
     ·exact⟨k+1,by simp only[E8,seval,hI],.inr ⟨by rw[hs];simp,_,by simp only[E8,seval]<;>rfl,(by simp only[E8,seval]<;>omega),(by rw[hs];simp only[E8,seval]<;>rfl)⟩,by omega,rfl⟩
   ·rw[if_neg (by simpa using hh),List.append_nil] at hs
    apply oN ((ol o).length-(k+1))
    ·simp only[Z8,seval,hI,aY,hw,q0,aFA,hh];rfl
    ·exact⟨k+1,by simp only[E8,seval,hI],by rw[hs];simpa only[E8,seval] using h5,by omega,rfl⟩
  ·have Fg:k=(ol o).length:=by omega
   rw[Fg] at h5;apply oT (.exit 0)
   ·simp only[Z8,seval,hI,aY];rfl
   ·exact⟨rfl,by simpa only[E8,seval] using h5,by simp only[E8,seval,hI]⟩
 case start=>exact⟨0,by simp only[E8,seval]<;>rfl,.inl ⟨rfl,by simp only[E8,seval]⟩,by omega,by omega⟩
 case rest =>
  rintro e st ⟨rfl,⟨hy,h5⟩|⟨hy,g,h5,hg,Ax⟩,hI⟩
  ·rw[List.take_length] at hy;rw[show Pw 118 34 aR (yW (ol o) x)=.v (.slice none 0 0) from if_pos hy];simp only[Z8,seval,h5];exact bS rfl (by simp only[E8,seval]<;>rfl) (.v _)
  ·rw[List.take_length] at hy Ax;rw[show Pw 118 34 aR (yW (ol o) x)=.uniq 118 34 (yW (ol o) x).length (aR (yW (ol o) x)) from if_neg hy];simp only[Z8,seval,h5,Ax];exact tC rfl (by simp only[E8,seval];rfl) (by simp only[E8,seval,Ax];rfl) (MV _ fun t m=>(List.mem_filter.1 m).1)
theorem II {T n sz:Nat} (ha:jL Tryz.prog T=some (n,sz)) (st:St) (x:AV) {k:IntKind} {i:Int} (h0:0≤i) (h1:i<n):bD Tryz.prog st T x (.v (.int k i))=vL x (i.toNat * sz):=by
 simp only[bD,ha];rw[if_pos ⟨h0,h1⟩]
theorem VI (st:St) (x:AV) {k:IntKind} {i:Int} (h0:0≤i) (h1:i<32):bD Tryz.prog st 27 x (.v (.int k i))=vL x (i.toNat * 1):=II aFB st x h0 h1
theorem Ik (st:St) (x:AV) {k:IntKind} {i:Int} (h0:0≤i) (h1:i<4):bD Tryz.prog st 33 x (.v (.int k i))=vL x (i.toNat * 1):=II aJV st x h0 h1
def rb (r:cA) (i:Int):Int:=r.toList.getD i.toNat 0
def wb (r:rL) (i:Int):Int:=r.toList.getD i.toNat 0
theorem GM (r:cA) {i:Int} (h0:0≤i) (h1:i<32):(aV r)[i.toNat]? = some (.v (.int .u8 (rb r i))):=by
 have h:i.toNat<r.toList.length:=by simp;omega
 unfold aV rb;rw[List.getElem?_map,List.getElem?_eq_getElem h,List.getD_eq_getElem?_getD,List.getElem?_eq_getElem h];rfl
theorem Sp (r:rL) {i:Int} (h0:0≤i) (h1:i<4):(gF r)[i.toNat]? = some (.v (.int .u64 (wb r i))):=by
 have h:i.toNat<r.toList.length:=by simp;omega
 unfold gF wb;rw[List.getElem?_map,List.getElem?_eq_getElem h,List.getD_eq_getElem?_getD,List.getElem?_eq_getElem h];rfl
theorem aJW (a b:cA):∃c:Int,aC Tryz.prog 176 [.agg (aV a),.agg (aV b)]=some (.v (.int .i64 c)):=by
 rw[cL Tryz.func176 rfl aJX rfl];suffices h:∃r,cH (yS Tryz.prog _ (St.init [.agg (aV a),.agg (aV b)])) (yG Tryz.prog 176 Tryz.f176)=some r∧∃c:Int,r=.v (.int .i64 c) by
  obtain⟨r,h,c,rfl⟩:=h;exact⟨c,h⟩
 simp only[Z8,seval];refine cE (fun m st=>∃k:Nat,(st.env 2=.ptr 2 0 0∧st.heap 2 0=some (.cells (aV a))∧st.env 3=.ptr 3 0 0∧st.heap 3 0=some (.cells (aV b))∧st.env 5=.v (.int .i64 k))∧k≤32∧m=32-k)
  (fun e st=>(e=.ret∧∃c:Int,st.env 4=.v (.int .i64 c))∨e=.exit 0) 32 ?step ?start ?rest
 case step =>
  rintro m st ⟨k,hI,hk,hm⟩
  by_cases aY:(k:Int)<32
  ·have q0:(0:Int)≤k:=by omega
   have hw:IntKind.i64.wrap ((k:Int)+1)=((k+1:Nat):Int):=by rw[pZ _ (by omega) (by omega)];omega
   have ga:=GM a q0 aY
   have gb:=GM b q0 aY
   by_cases h1:rb a k<rb b k
   ·apply oT (.ret)
    ·simp only[Z8,seval,hI,aY,q0,VI,ga,gb,h1];rfl
    ·exact .inl ⟨rfl,-1,by simp only[E8,seval]⟩
   ·by_cases h2:rb b k<rb a k
    ·apply oT (.ret)
     ·simp only[Z8,seval,hI,aY,q0,VI,ga,gb,h1,h2];rfl
     ·exact .inl ⟨rfl,1,by simp only[E8,seval]⟩
    ·apply oN (32-(k+1))
     ·simp only[Z8,seval,hI,aY,q0,VI,ga,gb,h1,h2,hw];rfl
     ·exact⟨k+1,by simp only[E8,seval,hI],by omega,rfl⟩
  ·apply oT (.exit 0)
   ·simp only[Z8,seval,hI,aY];rfl
   ·exact .inr rfl
 case start=>exact⟨0,by simp only[E8,seval]<;>rfl,by omega,by omega⟩
 case rest =>
  rintro e st (⟨rfl,c,h⟩|rfl)
  ·simp only[Z8,seval];exact⟨_,bS rfl h (.v _),c,rfl⟩
  ·simp only[Z8,seval];exact⟨_,bS rfl (by simp only[E8,seval]<;>rfl) (.v _),0,rfl⟩
noncomputable def aJY (a b:cA):Int:=Classical.choose (aJW a b)
theorem aFC (a b:cA) (st:St) (d:Option Nat):aM (aC Tryz.prog) 176 [.agg (aV a),.agg (aV b)] st d=some { dst:=d,val:=.v (.int .i64 (aJY a b))}:=bI (bG (qP a) (qP b)) (Classical.choose_spec (aJW a b)) (.v _)
theorem aJZ (a b:rL):∃c:Int,aC Tryz.prog 170 [.agg (gF a),.agg (gF b)]=some (.v (.int .i64 c)):=by
 rw[cL Tryz.func170 rfl aJ0 rfl];suffices h:∃r,cH (yS Tryz.prog _ (St.init [.agg (gF a),.agg (gF b)])) (yG Tryz.prog 170 Tryz.f170)=some r∧∃c:Int,r=.v (.int .i64 c) by
  obtain⟨r,h,c,rfl⟩:=h;exact⟨c,h⟩
 simp only[Z8,seval];refine cE (fun m st=>∃k:Nat,(st.env 2=.ptr 2 0 0∧st.heap 2 0=some (.cells (gF a))∧st.env 3=.ptr 3 0 0∧st.heap 3 0=some (.cells (gF b))∧st.env 5=.v (.int .i64 ((k:Int)-1)))∧k≤4∧m=k)
  (fun e st=>(e=.ret∧∃c:Int,st.env 4=.v (.int .i64 c))∨e=.exit 0) 4 ?step ?start ?rest
 case step =>
  rintro m st ⟨k,hI,hk,hm⟩
  by_cases aY:(0:Int)≤(k:Int)-1
  ·have q1:(k:Int)-1<4:=by omega
   have hw:IntKind.i64.wrap ((k:Int)-1-1)=((k-1:Nat):Int)-1:=by rw[pZ _ (by omega) (by omega)];omega
   have ga:=Sp a aY q1
   have gb:=Sp b aY q1
   by_cases h1:wb a ((k:Int)-1)<wb b ((k:Int)-1)
   ·apply oT (.ret)
    ·simp only[Z8,seval,hI,aY,q1,Ik,ga,gb,h1];rfl
    ·exact .inl ⟨rfl,-1,by simp only[E8,seval]⟩
   ·by_cases h2:wb b ((k:Int)-1)<wb a ((k:Int)-1)
    ·apply oT (.ret)
     ·simp only[Z8,seval,hI,aY,q1,Ik,ga,gb,h1,h2];rfl
     ·exact .inl ⟨rfl,1,by simp only[E8,seval]⟩
    ·apply oN (k-1)
     ·simp only[Z8,seval,hI,aY,q1,Ik,ga,gb,h1,h2,hw];rfl
     ·exact⟨k-1,by simp only[E8,seval,hI],by omega,rfl⟩
  ·apply oT (.exit 0)
   ·simp only[Z8,seval,hI,aY];rfl
   ·exact .inr rfl
 case start=>exact⟨4,by simp only[E8,seval]<;>rfl,by omega,by omega⟩
 case rest =>
  rintro e st (⟨rfl,c,h⟩|rfl)
  ·simp only[Z8,seval];exact⟨_,bS rfl h (.v _),c,rfl⟩
  ·simp only[Z8,seval];exact⟨_,bS rfl (by simp only[E8,seval]<;>rfl) (.v _),0,rfl⟩
noncomputable def aB2 (a b:rL):Int:=Classical.choose (aJZ a b)
theorem aJ1 (a b:rL) (st:St) (d:Option Nat):aM (aC Tryz.prog) 170 [.agg (gF a),.agg (gF b)] st d=some { dst:=d,val:=.v (.int .i64 (aB2 a b))}:=bI (bG (.agg _ (iM a)) (.agg _ (iM b))) (Classical.choose_spec (aJZ a b)) (.v _)
theorem aO5 (p b:Block):aC Tryz.prog 169 [.agg (aT p),.agg (aT b)]=some (.v (.bool (!decide (b.iO=dE) && decide (p.iO=dE)))):=by
 rw[cL Tryz.func169 rfl aJ2 rfl];by_cases h:b.iO=dE
 all_goals
  simp only[h,decide_true,decide_false,Bool.not_true,Bool.not_false,Bool.true_and,Bool.false_and];simp only[Z8,seval,h,decide_true,decide_false];exact bS rfl (by simp only[E8,seval]<;>rfl) (.v _)
theorem aFD (p b:Block) (st:St) (d:Option Nat):aM (aC Tryz.prog) 169 [.agg (aT p),.agg (aT b)] st d=some { dst:=d,val:=.v (.bool (!decide (b.iO=dE) && decide (p.iO=dE)))}:=bI (bG (vC p) (vC b)) (aO5 p b) (.v _)
def D8 (DJ:rL) (p b:Block):Prop:=(b.iO=dE→p.iO=dE)∧(b.iO≠dE→p.iO=dE→aB2 b.Yy DJ<0∧0≤aB2 b.diff DJ)
theorem aO6 (DJ:rL) (p b:Block):aC Tryz.prog 114 [.agg (gF DJ),.agg (aT p),.agg (aT b)]=some (.v (.bool (decide (D8 DJ p b)))):=by
 rw[cL Tryz.func114 rfl aJ3 rfl];unfold D8;by_cases h:b.iO=dE
 ·simp only[h,forall_const,ne_eq,not_true_eq_false,false_implies,and_true];simp only[Z8,seval,h,decide_true];exact bS rfl (by simp only[E8,seval]<;>rfl) (.v _)
 ·by_cases hp:p.iO=dE
  ·simp only[h,hp,ne_eq,not_false_eq_true,forall_const,false_implies,true_and];by_cases h1:aB2 b.Yy DJ<0
   ·simp only[h1,true_and];simp only[Z8,seval,h,hp,aFD,aJ1,h1,decide_true,decide_false,Bool.not_false,Bool.true_and];exact bS rfl (by simp only[E8,seval]<;>rfl) (.v _)
   ·simp only[h1,false_and,decide_false];simp only[Z8,seval,h,hp,aFD,aJ1,h1,decide_true,decide_false,Bool.not_false,Bool.true_and];exact bS rfl (by simp only[E8,seval]<;>rfl) (.v _)
  ·simp only[h,hp,ne_eq,not_false_eq_true,forall_const,false_implies,and_self,decide_true];simp only[Z8,seval,h,hp,aFD,decide_false,Bool.not_false,Bool.true_and];exact bS rfl (by simp only[E8,seval]<;>rfl) (.v _)
theorem Yz (DJ:rL) (p b:Block) (st:St) (d:Option Nat):aM (aC Tryz.prog) 114 [.agg (gF DJ),.agg (aT p),.agg (aT b)] st d=some { dst:=d,val:=.v (.bool (decide (D8 DJ p b)))}:=bI (nA (.agg _ (iM DJ)) (vC p) (vC b)) (aO6 DJ p b) (.v _)
noncomputable def Px (b:Block):Int:=if b.iO=dE then 1 else 0
theorem aO7 (b:Block):aC Tryz.prog 233 [.agg (aT b)]=some (.v (.int .i64 (Px b))):=by
 rw[cL Tryz.func233 rfl aJ4 rfl];unfold Px;by_cases h:b.iO=dE
 ·simp only[h,if_true];simp only[Z8,seval,h,decide_true];exact bS rfl (by simp only[E8,seval]<;>rfl) (.v _)
 ·simp only[h,if_false];simp only[Z8,seval,h,decide_false];exact bS rfl (by simp only[E8,seval]<;>rfl) (.v _)
theorem aJ5 (b:Block) (st:St) (d:Option Nat):aM (aC Tryz.prog) 233 [.agg (aT b)] st d=some { dst:=d,val:=.v (.int .i64 (Px b))}:=bI (cU (vC b)) (aO7 b) (.v _)
theorem kx {g:Nat} {args:List AV} {r:AV} (h:aC Tryz.prog g args=some r) (hf:∀x∈args,Flat x) (hr:Flat r):∀(st:St) (d:Option Nat),aM (aC Tryz.prog) g args st d=some { dst:=d,val:=r }:=fun st d=>bI hf h hr
theorem bf {x y:Int} (h:¬x=y):(x == y)=false∧(x != y)=true:=by simp[h]
theorem bt {x y:Int} (h:x=y):(x == y)=true∧(x != y)=false:=by simp[h]
def Vz (l:List Int) (n:Int) (k:Nat):Prop:=gx (0:Int) l k<0∨n≤gx (0:Int) l k∨(0<k∧gx (0:Int) l k≤gx (0:Int) l ((k:Int)-1))
noncomputable def DA (l:List Int) (n:Int):Int:=if l=[] then 2 else if Cn (Vz l n) l.length<0 then 0 else if gx (0:Int) l (Cn (Vz l n) l.length)<0∨n≤gx (0:Int) l (Cn (Vz l n) l.length) then 3 else 8
theorem c40 (o:Option (List Int)) (hn:((ol o).length:Int)<1000000) (n:Int):aC Tryz.prog 40 [ov aJ o,.v (.int .i64 n)]=some (.v (.int .i64 (DA (ol o) n))):=by
 rw[cL Tryz.func40 rfl aO8 (by cases o<;>rfl)]
 refine jG ?_
 by_cases h0:ol o=[]
 ·have hv:DA (ol o) n=2:=if_pos h0
  have hl:(ol o).length=0:=by rw[h0];rfl
  simp only[Z8,seval,hl];exact⟨_,bS rfl (by simp only[E8,seval,hv]<;>rfl) (by first|exact .v _|simp only[dU,hv]),rfl⟩
 have hl:=bf (x:=((ol o).length:Int)) (y:=0) (by have:=List.length_pos_iff.2 h0;omega)
 simp only[Z8,seval,hl];refine cE (fun m st=>∃k:Nat,(st.env 0=ov aJ o∧st.env 1=.v (.int .i64 n)∧st.env 5=.v (.int .i64 k))∧(∀j:Nat,j<k→¬Vz (ol o) n j)∧k≤(ol o).length∧m=(ol o).length-k)
  (fun e st=>(e=.ret∧∃k:Nat,k<(ol o).length∧Vz (ol o) n k∧(∀j:Nat,j<k→¬Vz (ol o) n j)∧st.env 4=.v (.int .i64 (if gx (0:Int) (ol o) k<0∨n≤gx (0:Int) (ol o) k then 3 else 8)))∨(e=.exit 0∧∀j:Nat,j<(ol o).length→¬Vz (ol o) n j)) (ol o).length ?step ?start ?rest
 case step =>
  rintro m st ⟨k,hI,hj,hk,hm⟩
  by_cases aY:(k:Int)<(ol o).length
  ·have q0:(0:Int)≤k:=by omega
   have hw:IntKind.i64.wrap ((k:Int)+1)=((k+1:Nat):Int):=by rw[pZ _ (by omega) (by omega)];omega
   by_cases h1:gx (0:Int) (ol o) k<0
   ·apply oT (.ret)
    ·simp only[Z8,seval,hI,aY,q0,h1];rfl
    ·exact .inl ⟨rfl,k,by omega,.inl h1,hj,by simp only[E8,seval,h1,true_or]⟩
   by_cases h2:n≤gx (0:Int) (ol o) k
   ·apply oT (.ret)
    ·simp only[Z8,seval,hI,aY,q0,h1,h2];rfl
    ·exact .inl ⟨rfl,k,by omega,.inr (.inl h2),hj,by simp only[E8,seval,h2,or_true]⟩
   by_cases h3:(0:Int)<k
   ·have q1:(0:Int)≤(k:Int)-1:=by omega
    have q2:(k:Int)-1<(ol o).length:=by omega
    have P6:IntKind.i64.wrap ((k:Int)-1)=(k:Int)-1:=by rw[pZ _ (by omega) (by omega)]
    by_cases h4:gx (0:Int) (ol o) k≤gx (0:Int) (ol o) ((k:Int)-1)
    ·apply oT (.ret)
     ·simp only[Z8,seval,hI,aY,q0,q1,q2,P6,h1,h2,h3,h4];rfl
     ·exact .inl ⟨rfl,k,by omega,.inr (.inr ⟨by omega,h4⟩),hj,by simp only[E8,seval,h1,h2,or_self]⟩
    ·apply oN ((ol o).length-(k+1))
     ·simp only[Z8,seval,hI,aY,q0,q1,q2,P6,h1,h2,h3,h4,hw];rfl
     ·exact⟨k+1,by simp only[E8,seval,hI],fun j h=>(Nat.lt_succ_iff_lt_or_eq.1 h).elim (hj j) fun e=>by subst e;unfold Vz;simp only[h1,h2,h4,and_false,or_self,not_false_eq_true],by omega,rfl⟩
   ·have h5:¬(0<k):=by omega
    apply oN ((ol o).length-(k+1))
    ·simp only[Z8,seval,hI,aY,q0,h1,h2,h3,hw];rfl
    ·exact⟨k+1,by simp only[E8,seval,hI],fun j h=>(Nat.lt_succ_iff_lt_or_eq.1 h).elim (hj j) fun e=>by subst e;unfold Vz;simp only[h1,h2,h5,false_and,or_self,not_false_eq_true],by omega,rfl⟩
  ·apply oT (.exit 0)
   ·simp only[Z8,seval,hI,aY];rfl
   ·exact .inr ⟨rfl,fun j h=>hj j (by omega)⟩
 case start=>exact⟨0,by simp only[E8,seval]<;>rfl,fun j h=>by omega,by omega,by omega⟩
 case rest =>
  rintro e st (⟨rfl,k,hk,hh,hj,h⟩|⟨rfl,hj⟩)
  ·have hv:DA (ol o) n=if gx (0:Int) (ol o) k<0∨n≤gx (0:Int) (ol o) k then 3 else 8:=by
    unfold DA;rw[if_neg h0,Jz hh hj _ hk,if_neg (by omega)]
   rw[← hv] at h;simp only[Z8,seval];exact⟨_,bS rfl (by simp only[E8,seval,h]<;>rfl) (by first|exact .v _|simp only[dU,h]),rfl⟩
  ·have hv:DA (ol o) n=0:=by
    unfold DA;rw[if_neg h0,tN _ hj,if_pos (by omega)]
   simp only[Z8,seval];exact⟨_,bS rfl (by simp only[E8,seval,hv]<;>rfl) (by first|exact .v _|simp only[dU,hv]),rfl⟩
theorem aB3 (a b:Int):(DH a b).2≠21:=by unfold DH;split<;>simp
theorem VJ (l:List Int) (n:Int):DA l n≠21:=by unfold DA;split;simp;split;simp;split<;>simp
theorem aJ6 (o:Option (List Int)) (hn:((ol o).length:Int)<1000000):∃r,aC Tryz.prog 175 [ov bE o]=some r∧∃a e:Int,r=.eG [.v (.int .u64 a),.v (.int .i64 e)]∧e≠21:=by
 rw[cL Tryz.func175 rfl aEl (by cases o<;>rfl)]
 simp only[Z8,seval];refine cE (fun m st=>∃(k:Nat) (a:Int),(st.env 0=ov bE o∧st.env 4=.v (.int .u64 a)∧st.env 5=.v (.int .i64 k))∧k≤(ol o).length∧m=(ol o).length-k)
  (fun e st=>(e=.ret∧∃a e:Int,st.env 2=.v (.int .u64 a)∧st.env 3=.v (.int .i64 e)∧e≠21)∨(e=.exit 0∧∃a:Int,st.env 4=.v (.int .u64 a))) (ol o).length ?step ?start ?rest
 case step =>
  rintro m st ⟨k,a,hI,hk,hm⟩
  by_cases aY:(k:Int)<(ol o).length
  ·have q0:(0:Int)≤k:=by omega
   have hw:IntKind.i64.wrap ((k:Int)+1)=((k+1:Nat):Int):=by rw[pZ _ (by omega) (by omega)];omega
   by_cases h1:(DH a (gx (0:Int) (ol o) k)).2=0
   ·apply oN ((ol o).length-(k+1))
    ·simp only[Z8,seval,hI,aY,q0,aFq,dY,h1,hw];rfl
    ·exact⟨k+1,_,by simp only[E8,seval,hI]<;>rfl,by omega,rfl⟩
   ·apply oT (.ret)
    ·simp only[Z8,seval,hI,aY,q0,aFq,dY,bf h1];rfl
    ·exact .inl ⟨rfl,_,_,by simp only[E8,seval]<;>rfl,by simp only[E8,seval]<;>rfl,aB3 _ _⟩
  ·apply oT (.exit 0)
   ·simp only[Z8,seval,hI,aY];rfl
   ·exact .inr ⟨rfl,a,by simp only[E8,seval,hI]⟩
 case start=>exact⟨0,0,by simp only[E8,seval]<;>exact⟨rfl,rfl⟩,by omega,by omega⟩
 case rest =>
  rintro e st (⟨rfl,a,e,h,h',gN⟩|⟨rfl,a,h⟩)
  ·simp only[Z8,seval];exact⟨_,dO rfl rfl rfl (by simp only[E8,seval,h,h']<;>rfl) (by simp only[E8,seval,h,h']<;>rfl),_,_,rfl,gN⟩
  ·simp only[Z8,seval,h];exact⟨_,dO rfl rfl rfl (by simp only[E8,seval,h]<;>rfl) (by simp only[E8,seval,h]<;>rfl),_,_,rfl,by decide⟩
theorem aEm (t:Table) (b:Option (List Int)) (hb:t.jO=ov bE b) (hl:((ol b).length:Int)<1000000) (n:Int):∃r,aC Tryz.prog 130 [.agg (cI t),.v (.int .i64 n)]=some r∧∃e:Int,r=.v (.int .i64 e)∧e≠21∧(e=0→((ol b).length:Int)=n):=by
 obtain⟨r,hr,a,e,rfl,he⟩:=aJ6 b hl
 have D9:=kx hr (cU (dP b)) (.eG _ (bG (.v _) (.v _)))
 rw[cL Tryz.func130 rfl aEn rfl];by_cases h1:((ol b).length:Int)=n
 ·by_cases h2:e=0
  ·by_cases h3:4611686018427387904<a
   all_goals
    simp only[Z8,seval,hb,bt h1,bt h2,h3,D9,dY];exact⟨_,bS rfl (by simp only[E8,seval]<;>rfl) (by first|exact .v _|simp only[dU]),_,rfl,by decide,fun _=>h1⟩
  ·simp only[Z8,seval,hb,bt h1,bf h2,D9,dY];exact⟨_,bS rfl (by simp only[E8,seval]<;>rfl) (by first|exact .v _|simp only[dU]),_,rfl,by decide,fun _=>h1⟩
 ·simp only[Z8,seval,hb,bf h1];exact⟨_,bS rfl (by simp only[E8,seval]<;>rfl) (by first|exact .v _|simp only[dU]),_,rfl,by decide,fun h=>by cases h⟩
theorem aO9 (t:Table) (ht:sP t) (n:Int):∃r,aC Tryz.prog 130 [.agg (cI t),.v (.int .i64 n)]=some r∧∃e:Int,r=.v (.int .i64 e)∧e≠21:=by
 obtain⟨b,hb,hl⟩:=ht
 obtain⟨r,hr,e,h1,h2,_⟩:=aEm t b hb hl n
 exact⟨r,hr,e,h1,h2⟩
theorem aFE (a b:fV):∃r,aC Tryz.prog 131 [.agg (bX a),.agg (bX b)]=some r∧∃e:Int,r=.v (.int .i64 e):=by
 rw[cL Tryz.func131 rfl aJ7 rfl];by_cases h1:a.aK=b.aK
 ·simp only[Z8,seval,bt h1,aFC];exact⟨_,bS rfl (by simp only[E8,seval]<;>rfl) (by first|exact .v _|simp only[dU]),_,rfl⟩
 ·by_cases h2:a.aK<b.aK
  all_goals
   simp only[Z8,seval,bf h1,h2];exact⟨_,bS rfl (by simp only[E8,seval]<;>rfl) (by first|exact .v _|simp only[dU]),_,rfl⟩
noncomputable def aJ8 (a b:fV):Int:=Classical.choose (Classical.choose_spec (aFE a b)).2
theorem aJ9 (a b:fV) (st:St) (d:Option Nat):aM (aC Tryz.prog) 131 [.agg (bX a),.agg (bX b)] st d=some { dst:=d,val:=.v (.int .i64 (aJ8 a b))}:=by
 have h:=(Classical.choose_spec (aFE a b)).1
 rw[Classical.choose_spec (Classical.choose_spec (aFE a b)).2] at h;exact bI (bG (.agg _ (dB a)) (.agg _ (dB b))) h (.v _)
def KnB (v:SV) (r:cA):Prop:=(∃j:Nat,j<(ol v.O).length∧(gx fD (ol v.O) j).root=r)∨0≤aO v.ns r
theorem c54 {s:aN} {v:SV} (hs:SD s v) (r:cA):aC Tryz.prog 54 [.agg (aB s),.agg (aV r)]=some (.v (.bool (decide (KnB v r)))):=by
 have hn:=hs.nO
 rw[cL Tryz.func54 rfl aPa rfl];refine jG ?_
 simp only[Z8,seval,hs.bV];refine cE (fun m st=>∃k:Nat,(st.env 2=.ptr 2 0 0∧st.heap 2 0=some (.cells (aB s))∧st.env 3=.ptr 3 0 0∧st.heap 3 0=some (.cells (aV r))∧st.env 5=.v (.int .i64 k))∧(∀j:Nat,j<k→¬((gx fD (ol v.O) (j:Int)).root=r))∧k≤(ol v.O).length∧m=(ol v.O).length-k)
  (fun e st=>(e=.ret∧∃k:Nat,k<(ol v.O).length∧((gx fD (ol v.O) (k:Int)).root=r)∧(∀j:Nat,j<k→¬((gx fD (ol v.O) (j:Int)).root=r))∧st.env 4=.v (.bool true))∨(e=.exit 0∧(∀j:Nat,j<(ol v.O).length→¬((gx fD (ol v.O) (j:Int)).root=r))∧st.env 2=.ptr 2 0 0∧st.heap 2 0=some (.cells (aB s))∧st.env 3=.ptr 3 0 0∧st.heap 3 0=some (.cells (aV r)))) ((ol v.O).length) ?step ?start ?rest
 case step =>
  rintro m st ⟨k,hI,hj,hk,hm⟩
  by_cases aY:(k:Int)<(ol v.O).length
  ·have q0:(0:Int)≤k:=by omega
   have hw:IntKind.i64.wrap ((k:Int)+1)=((k+1:Nat):Int):=by rw[pZ _ (by omega) (by omega)];omega
   by_cases hh:(gx fD (ol v.O) (k:Int)).root=r
   ·apply oT (.ret)
    ·simp only[Z8,seval,hI,aY,q0,hs.bV,hh];rfl
    ·exact .inl ⟨rfl,k,by omega,hh,hj,by simp only[E8,seval,hs.bV]⟩
   ·apply oN ((ol v.O).length-(k+1))
    ·simp only[Z8,seval,hI,aY,q0,hs.bV,hh,hw];rfl
    ·exact⟨k+1,by simp only[E8,seval,hI],fun j h=>(Nat.lt_succ_iff_lt_or_eq.1 h).elim (hj j) fun e=>by subst e;exact hh,by omega,rfl⟩
  ·apply oT (.exit 0)
   ·simp only[Z8,seval,hI,aY,hs.bV];rfl
   ·exact .inr ⟨rfl,fun j h=>hj j (by omega),by simp only[E8,seval,hI]⟩
 case start=>exact⟨0,by simp only[E8,seval]<;>rfl,fun j h=>by omega,by omega,by omega⟩
 case rest =>
  rintro e st (⟨rfl,k,hk,hh,hj,h⟩|⟨rfl,hj,hI⟩)
  ·have hv:decide (KnB v r)=true:=decide_eq_true (.inl ⟨k,hk,hh⟩)
   simp only[Z8,seval];exact⟨_,bS rfl (by simp only[E8,seval,h]<;>rfl) (by first|exact .v _|simp only[dU,h]),by rw[hv]⟩
  ·have hv:decide (KnB v r)=decide (0≤aO v.ns r):=by
    refine decide_eq_decide.2 ⟨fun h=>h.elim (fun ⟨j,hj1,hj2⟩=>absurd hj2 (hj j hj1)) id,.inr⟩
   simp only[Z8,seval,hI,hs.tree,mQ _ _ hs.nn];exact⟨_,bS rfl (by simp only[E8,seval]<;>rfl) (by first|exact .v _|simp only[dU]),by rw[hv]⟩
theorem Q1 {s:aN} {v:SV} (hs:SD s v) (r:cA) (st:St) (d:Option Nat):aM (aC Tryz.prog) 54 [.agg (aB s),.agg (aV r)] st d=some { dst:=d,val:=.v (.bool (decide (KnB v r)))}:=bI (bG hs.flat (qP r)) (c54 hs r) (.v _)
def IJ (s:aN) (a:sH):Prop:=a.target.aK≠Fh s a.slot∨(a.target.aK≠Fh s s.now∧(Fh s s.now=0∨a.target.aK≠IntKind.u64.wrap (Fh s s.now-1)))
noncomputable def Hu (s:aN) (v:SV) (a:sH) (V:List Int):Bool × Int :=
 if DA V (ol v.B).length≠0 then (false,DA V (ol v.B).length) else
 if IJ s a then (false,18) else
 if aO v.ns a.root<0 then (false,10) else
 if aO v.ns a.target.root<0 then (false,10) else
 if a.slot<(nd v.ns (aO v.ns a.root)).block.slot then (false,14) else
 if IE v.ns (aO v.ns a.root) (Fi s a.target.aK).1≠aO v.ns a.target.root then (false,19) else (decide (s.now≤a.slot),0)
theorem c39 {s:aN} {v:SV} (hs:SD s v) (hu:iA v.ns) (hp:s.cFg.qW≠0) (a:sH) (o:Option (List Int)) (hV:a.eU=ov aJ o) (hl:((ol o).length:Int)<1000000) :
 aC Tryz.prog 39 [.agg (aB s),.agg (gY a)]=some (.eG [.v (.bool (Hu s v a (ol o)).1),.v (.int .i64 (Hu s v a (ol o)).2)]):=by
 have hf:=hs.flat
 have MW:=fun n=>kx (c40 o hl n) (bG (bO o) (.v _)) (.v _)
 rw[cL Tryz.func39 rfl aPb rfl];refine jG ?_
 have r1:=fN v.ns a.root
 by_cases g1:DA (ol o) (ol v.B).length=0
 case neg =>
  have hv:Hu s v a (ol o)=(false,DA (ol o) (ol v.B).length):=by simp only[Hu,ne_eq,g1,not_false_eq_true,if_true]
  simp only[Z8,seval,hV,Yw hs,MW,bf g1];exact⟨_,dO rfl rfl rfl (by simp only[E8,seval]<;>rfl) (by simp only[E8,seval]<;>rfl),by rw[hv]⟩
 have VK:IJ s a→Hu s v a (ol o)=(false,18):=fun g=>by simp only[Hu,ne_eq,g1,not_true_eq_false,if_false,g,if_true]
 by_cases g2:a.target.aK=Fh s a.slot
 case neg =>
  have hv:=VK (.inl g2)
  simp only[Z8,seval,hV,Yw hs,MW,bt g1,Ow s hp hf,bf g2];exact⟨_,dO rfl rfl rfl (by simp only[E8,seval]<;>rfl) (by simp only[E8,seval]<;>rfl),by rw[hv]⟩
 by_cases g3:a.target.aK=Fh s s.now
 case neg =>
  by_cases g4:Fh s s.now=0
  ·have hv:=VK (.inr ⟨g3,.inl g4⟩)
   simp only[Z8,seval,hV,Yw hs,MW,bt g1,Ow s hp hf,bt g2,bf g3,bt g4];exact⟨_,dO rfl rfl rfl (by simp only[E8,seval]<;>rfl) (by simp only[E8,seval]<;>rfl),by rw[hv]⟩
  by_cases g5:a.target.aK=IntKind.u64.wrap (Fh s s.now-1)
  case neg =>
   have hv:=VK (.inr ⟨g3,.inr g5⟩)
   simp only[Z8,seval,hV,Yw hs,MW,bt g1,Ow s hp hf,bt g2,bf g3,bf g4,bf g5];exact⟨_,dO rfl rfl rfl (by simp only[E8,seval]<;>rfl) (by simp only[E8,seval]<;>rfl),by rw[hv]⟩
  have gb:¬IJ s a:=fun h=>h.elim (fun h=>h g2) fun h=>h.2.elim g4 fun h=>h g5
  by_cases g6:aO v.ns a.root<0
  ·have hv:Hu s v a (ol o)=(false,10):=by simp only[Hu,ne_eq,g1,not_true_eq_false,if_false,gb,g6,if_true]
   simp only[Z8,seval,hV,Yw hs,MW,bt g1,Ow s hp hf,bt g2,bf g3,bf g4,bt g5,hs.tree,mQ _ _ hs.nn,g6];exact⟨_,dO rfl rfl rfl (by simp only[E8,seval]<;>rfl) (by simp only[E8,seval]<;>rfl),by rw[hv]⟩
  by_cases g7:aO v.ns a.target.root<0
  ·have hv:Hu s v a (ol o)=(false,10):=by simp only[Hu,ne_eq,g1,not_true_eq_false,if_false,gb,g6,g7,if_true]
   simp only[Z8,seval,hV,Yw hs,MW,bt g1,Ow s hp hf,bt g2,bf g3,bf g4,bt g5,hs.tree,mQ _ _ hs.nn,g6,g7];exact⟨_,dO rfl rfl rfl (by simp only[E8,seval]<;>rfl) (by simp only[E8,seval]<;>rfl),by rw[hv]⟩
  have q0:0≤aO v.ns a.root:=by omega
  by_cases g8:a.slot<(nd v.ns (aO v.ns a.root)).block.slot
  ·have hv:Hu s v a (ol o)=(false,14):=by simp only[Hu,ne_eq,g1,not_true_eq_false,if_false,gb,g6,g7,g8,if_true]
   simp only[Z8,seval,hV,Yw hs,MW,bt g1,Ow s hp hf,bt g2,bf g3,bf g4,bt g5,hs.tree,mQ _ _ hs.nn,g6,g7,q0,r1,g8];exact⟨_,dO rfl rfl rfl (by simp only[E8,seval]<;>rfl) (by simp only[E8,seval]<;>rfl),by rw[hv]⟩
  by_cases g9:IE v.ns (aO v.ns a.root) (Fi s a.target.aK).1=aO v.ns a.target.root
  ·have hv:Hu s v a (ol o)=(decide (s.now≤a.slot),0):=by simp only[Hu,ne_eq,g1,not_true_eq_false,if_false,gb,g6,g7,g8,g9]
   simp only[Z8,seval,hV,Yw hs,MW,bt g1,Ow s hp hf,bt g2,bf g3,bf g4,bt g5,hs.tree,mQ _ _ hs.nn,g6,g7,q0,r1,g8,Xf s hf,dY,NH _ hu hs.nn,bt g9];exact⟨_,dO rfl rfl rfl (by simp only[E8,seval]<;>rfl) (by simp only[E8,seval]<;>rfl),by rw[hv]⟩
  ·have hv:Hu s v a (ol o)=(false,19):=by simp only[Hu,ne_eq,g1,not_true_eq_false,if_false,gb,g6,g7,g8,g9,not_false_eq_true,if_true]
   simp only[Z8,seval,hV,Yw hs,MW,bt g1,Ow s hp hf,bt g2,bf g3,bf g4,bt g5,hs.tree,mQ _ _ hs.nn,g6,g7,q0,r1,g8,Xf s hf,dY,NH _ hu hs.nn,bf g9];exact⟨_,dO rfl rfl rfl (by simp only[E8,seval]<;>rfl) (by simp only[E8,seval]<;>rfl),by rw[hv]⟩
 have gb:¬IJ s a:=fun h=>h.elim (fun h=>h g2) fun h=>h.1 g3
 by_cases g6:aO v.ns a.root<0
 ·have hv:Hu s v a (ol o)=(false,10):=by simp only[Hu,ne_eq,g1,not_true_eq_false,if_false,gb,g6,if_true]
  simp only[Z8,seval,hV,Yw hs,MW,bt g1,Ow s hp hf,bt g2,bt g3,hs.tree,mQ _ _ hs.nn,g6];exact⟨_,dO rfl rfl rfl (by simp only[E8,seval]<;>rfl) (by simp only[E8,seval]<;>rfl),by rw[hv]⟩
 by_cases g7:aO v.ns a.target.root<0
 ·have hv:Hu s v a (ol o)=(false,10):=by simp only[Hu,ne_eq,g1,not_true_eq_false,if_false,gb,g6,g7,if_true]
  simp only[Z8,seval,hV,Yw hs,MW,bt g1,Ow s hp hf,bt g2,bt g3,hs.tree,mQ _ _ hs.nn,g6,g7];exact⟨_,dO rfl rfl rfl (by simp only[E8,seval]<;>rfl) (by simp only[E8,seval]<;>rfl),by rw[hv]⟩
 have q0:0≤aO v.ns a.root:=by omega
 by_cases g8:a.slot<(nd v.ns (aO v.ns a.root)).block.slot
 ·have hv:Hu s v a (ol o)=(false,14):=by simp only[Hu,ne_eq,g1,not_true_eq_false,if_false,gb,g6,g7,g8,if_true]
  simp only[Z8,seval,hV,Yw hs,MW,bt g1,Ow s hp hf,bt g2,bt g3,hs.tree,mQ _ _ hs.nn,g6,g7,q0,r1,g8];exact⟨_,dO rfl rfl rfl (by simp only[E8,seval]<;>rfl) (by simp only[E8,seval]<;>rfl),by rw[hv]⟩
 by_cases g9:IE v.ns (aO v.ns a.root) (Fi s a.target.aK).1=aO v.ns a.target.root
 ·have hv:Hu s v a (ol o)=(decide (s.now≤a.slot),0):=by simp only[Hu,ne_eq,g1,not_true_eq_false,if_false,gb,g6,g7,g8,g9]
  simp only[Z8,seval,hV,Yw hs,MW,bt g1,Ow s hp hf,bt g2,bt g3,hs.tree,mQ _ _ hs.nn,g6,g7,q0,r1,g8,Xf s hf,dY,NH _ hu hs.nn,bt g9];exact⟨_,dO rfl rfl rfl (by simp only[E8,seval]<;>rfl) (by simp only[E8,seval]<;>rfl),by rw[hv]⟩
 ·have hv:Hu s v a (ol o)=(false,19):=by simp only[Hu,ne_eq,g1,not_true_eq_false,if_false,gb,g6,g7,g8,g9,not_false_eq_true,if_true]
  simp only[Z8,seval,hV,Yw hs,MW,bt g1,Ow s hp hf,bt g2,bt g3,hs.tree,mQ _ _ hs.nn,g6,g7,q0,r1,g8,Xf s hf,dY,NH _ hu hs.nn,bf g9];exact⟨_,dO rfl rfl rfl (by simp only[E8,seval]<;>rfl) (by simp only[E8,seval]<;>rfl),by rw[hv]⟩
theorem VL (ns:List Node) (s:Int) (l:List Int):Fp ns s l=-1∨Fp ns s l∈l:=by
 suffices h:∀(l:List Int) (a:Int),l.foldl (fun r x=>if (nd ns x).block.slot≤s then x else r) a=a∨l.foldl (fun r x=>if (nd ns x).block.slot≤s then x else r) a∈l from h l (-1)
 intro l;induction l with
 | nil=>exact fun a=>.inl rfl
 | cons x l ih =>
   intro a;rw[List.foldl_cons];split
   ·rcases ih x with h|h
    ·exact .inr (by rw[h];simp)
    ·exact .inr (by simp[h])
   ·rcases ih a with h|h
    ·exact .inl h
    ·exact .inr (by simp[h])
theorem GN {ns:List Node} (hu:iA ns) (i s:Int):-1≤IE ns i s∧IE ns i s<ns.length∧IE ns i s≤max i (-1):=by
 by_cases hi:0≤i∧i<ns.length
 ·rcases VL ns s (path ns i) with h|h
  ·rw[show IE ns i s=-1 from h];omega
  ·have:=Yf hu i.toNat i rfl hi.1 hi.2 _ h
   rw[show IE ns i s=Fp ns s (path ns i) from rfl];omega
 ·rw[NG s hi];omega
noncomputable def elC {α:Type} (x:AV) (k:fV→Option α) (fb:Option α):Option α:=if h:∃c,x=.agg (bX c) then k (Classical.choose h) else fb
theorem aKa {α:Type} (c:fV) (k:fV→Option α) (fb:Option α):elC (.agg (bX c)) k fb=k c:=by
 unfold elC;have h:∃c',AV.agg (bX c)=.agg (bX c'):=⟨c,rfl⟩
 rw[dif_pos h];have:=Classical.choose_spec h
 injection this with h2
 rw[← (mW _ _).1 h2]
@[congr] theorem aIB {α:Type} {x y:AV} {k:fV→Option α} {fb:Option α} (h:x=y):elC x k fb=elC y k fb:=by rw[h]
theorem aFF {call:Nat→List AV→Option AV} {ops:Array Oper} {st:St} {T:Nat} {pos:String} {eH:Array Edge} (d:Nat) (x y z w:Operand) :
 cD Tryz.prog call ops ⟨some d,.buildSlice 109 4 #[(0,x),(1,y),(2,z),(3,w)],T,pos,eH,none⟩ st =
  elC (st.ev x) (fun a=>elC (st.ev y) (fun b=>elC (st.ev z) (fun c=>elC (st.ev w) (fun e=>some ((st.new d (.row 41 33 [a,b,c,e].length (zU [a,b,c,e]))).put (some d) (.own d (st.aP d))))
   (cD Tryz.prog call ops ⟨some d,.buildSlice 109 4 #[(0,x),(1,y),(2,z),(3,w)],T,pos,eH,none⟩ st)) (cD Tryz.prog call ops ⟨some d,.buildSlice 109 4 #[(0,x),(1,y),(2,z),(3,w)],T,pos,eH,none⟩ st))
   (cD Tryz.prog call ops ⟨some d,.buildSlice 109 4 #[(0,x),(1,y),(2,z),(3,w)],T,pos,eH,none⟩ st)) (cD Tryz.prog call ops ⟨some d,.buildSlice 109 4 #[(0,x),(1,y),(2,z),(3,w)],T,pos,eH,none⟩ st):=by
 unfold elC;split
 ·rename_i h1;have h1c:=h1
  obtain⟨a,FR⟩:=h1c
  have e1:Classical.choose h1=a:=by have:=(Classical.choose_spec h1).symm.trans FR;injection this with t;exact (mW _ _).1 t
  rw[e1];split
  ·rename_i h2;have h2c:=h2
   obtain⟨b,h2'⟩:=h2c
   have e2:Classical.choose h2=b:=by have:=(Classical.choose_spec h2).symm.trans h2';injection this with t;exact (mW _ _).1 t
   rw[e2];split
   ·rename_i h3;have h3c:=h3
    obtain⟨c,h3'⟩:=h3c
    have e3:Classical.choose h3=c:=by have:=(Classical.choose_spec h3).symm.trans h3';injection this with t;exact (mW _ _).1 t
    rw[e3];split
    ·rename_i h4;have h4c:=h4
     obtain⟨e,N6⟩:=h4c
     have e4:Classical.choose h4=e:=by have:=(Classical.choose_spec h4).symm.trans N6;injection this with t;exact (mW _ _).1 t
     rw[e4,kX,Q2];have hz:((List.range 4).flatMap fun _=>Dl.map AV.v)=zU [gX,gX,gX,gX]:=by rw[Bp];rfl
     have u0:=Py [gX,gX,gX,gX] 0 a (by simp)
     have u1:=Py [a,gX,gX,gX] 1 b (by simp)
     have u2:=Py [a,b,gX,gX] 2 c (by simp)
     have u3:=Py [a,b,c,gX] 3 e (by simp)
     simp only[Int.reduceToNat,Nat.reduceMul,Nat.reduceAdd,List.set_cons_zero,List.set_cons_succ,List.set] at u0 u1 u2 u3;simp only[cK,aKb,List.toList_toArray,List.map_cons,List.map_nil,List.all_cons,List.all_nil,FR,h2',h3',N6,AV.jQ,Bool.and_self,GO,OD,AV.cells,bQ,Za,hz,List.length_cons,List.length_nil,Nat.reduceMul,Nat.reduceAdd,Nat.reducePow,Nat.reduceLeDiff,Nat.reduceLT,true_or,true_and,and_true,and_self,if_true,↓reduceIte,u0,u1,u2,u3,Nat.zero_le,Nat.le_refl]
    ·rfl
   ·rfl
  ·rfl
 ·rfl
def E0 (s:aN) (v:SV) (b:Block) (c:fV):Prop:=c.aK≤s.bJ.fin.aK∨(if (Fi s c.aK).1<b.slot then 0≤IE v.ns (aO v.ns b.parent) (Fi s c.aK).1∧(nd v.ns (IE v.ns (aO v.ns b.parent) (Fi s c.aK).1)).block.root=c.root else b.root=c.root)
def Ll (b:Block):List fV:=[b.gW,b.fin,b.dQ.pj,b.dQ.pf]
def IK (s:aN) (v:SV) (b:Block):Prop:=0≤aO v.ns b.parent∧Q0 s b∧∀j:Nat,j<4→E0 s v b (gx gX (Ll b) j)
theorem c69 {s:aN} {v:SV} (hs:SD s v) (hu:iA v.ns) (hp:s.cFg.qW≠0) (b:Block):aC Tryz.prog 69 [.agg (aB s),.agg (aT b)]=some (.v (.bool (decide (IK s v b)))):=by
 have hf:=hs.flat
 rw[cL Tryz.func69 rfl aPc rfl];refine jG ?_
 have r1:=fN v.ns b.parent
 by_cases g1:aO v.ns b.parent<0
 ·have hv:decide (IK s v b)=false:=decide_eq_false (fun h=>by have:=h.1;omega)
  simp only[Z8,seval,hs.tree,mQ _ _ hs.nn,g1];exact⟨_,bS rfl (by simp only[E8,seval]<;>rfl) (by first|exact .v _|simp only[dU]),by rw[hv]⟩
 by_cases g2:Q0 s b
 case neg =>
  have hv:decide (IK s v b)=false:=decide_eq_false (fun h=>g2 h.2.1)
  simp only[Z8,seval,hs.tree,mQ _ _ hs.nn,g1,aJR s hp hf,g2];exact⟨_,bS rfl (by simp only[E8,seval]<;>rfl) (by first|exact .v _|simp only[dU]),by rw[hv]⟩
 simp only[Z8,seval,hs.tree,mQ _ _ hs.nn,g1,aJR s hp hf,g2,aFF,aKa];have h4:(Ll b).length=4:=rfl
 refine cE (fun m st=>∃k:Nat,(st.env 2=.ptr 2 0 0∧st.heap 2 0=some (.cells (aB s))∧st.env 3=.ptr 3 0 0∧st.heap 3 0=some (.cells (aT b))∧st.env 5=.v (.int .i64 (aO v.ns b.parent))∧st.env 6=.own 33 0∧st.heap 33 0=some (.row 41 33 (Ll b).length (zU (Ll b)))∧st.env 7=.v (.int .i64 k))∧(∀j:Nat,j<k→E0 s v b (gx gX (Ll b) j))∧k≤4∧m=4-k)
  (fun e st=>(e=.ret∧st.env 4=.v (.bool false)∧∃j:Nat,j<4∧¬E0 s v b (gx gX (Ll b) j))∨(e=.exit 0∧∀j:Nat,j<4→E0 s v b (gx gX (Ll b) j))) 4 ?step ?start ?rest
 case step =>
  rintro m st ⟨k,hI,hj,hk,hm⟩
  by_cases NI:k<4
  ·have aY:(k:Int)<(Ll b).length:=by rw[h4];omega
   have q0:(0:Int)≤k:=by omega
   have hw:IntKind.i64.wrap ((k:Int)+1)=((k+1:Nat):Int):=by rw[pZ _ (by omega) (by omega)];omega
   obtain⟨c,hc⟩:∃c,gx gX (Ll b) k=c:=⟨_,rfl⟩
   have ra:=GN hu (aO v.ns b.parent) (Fi s c.aK).1
   have ld:∀T kk off,sY Tryz.prog T=some kk→0<kk→off+kk≤33→sQ Tryz.prog T (some (.row 41 33 (Ll b).length (zU (Ll b)))) ((k:Int).toNat * 33+off)=eK Tryz.prog T (bX c) off:=fun T kk off h1 h2 h3=>by rw[IL q0 aY h1 h2 h3,hc]
   have ld0:∀T kk,sY Tryz.prog T=some kk→0<kk→kk≤33→sQ Tryz.prog T (some (.row 41 33 (Ll b).length (zU (Ll b)))) ((k:Int).toNat * 33)=eK Tryz.prog T (bX c) 0:=fun T kk h1 h2 h3=>by rw[l6 q0 aY h1 h2 h3,hc]
   have nxt:E0 s v b c→∀j:Nat,j<k+1→E0 s v b (gx gX (Ll b) j):=fun h j UD=>(Nat.lt_succ_iff_lt_or_eq.1 UD).elim (hj j) fun e=>by subst e;rw[hc];exact h
   have ld1:=ld0 23 1 VM (by decide) (by decide)
   have ld2:=ld 27 32 1 aFG (by decide) (by decide)
   have cl:∀i:Int,(k:Int)<4:=fun _=>by omega
   have hl4:(k:Int)<((Ll b).length:Int):=aY
   by_cases h1:c.aK≤s.bJ.fin.aK
   ·apply oN (4-(k+1))
    ·simp only[Z8,seval,hI,aY,q0,ld1,ld2,h1,hw];rfl
    ·exact⟨k+1,by simp only[E8,seval,hI],nxt (.inl h1),by omega,rfl⟩
   by_cases h2:(Fi s c.aK).1<b.slot
   ·by_cases h3:IE v.ns (aO v.ns b.parent) (Fi s c.aK).1<0
    ·apply oT (.ret)
     ·simp only[Z8,seval,hI,aY,q0,ld1,ld2,h1,h2,h3,Xf s hf,dY,hs.tree,NH _ hu hs.nn];rfl
     ·exact .inl ⟨rfl,by simp only[E8,seval],k,NI,by rw[hc];exact fun h=>h.elim h1 fun h=>by rw[if_pos h2] at h;omega⟩
    have q3:0≤IE v.ns (aO v.ns b.parent) (Fi s c.aK).1:=by omega
    by_cases N6:(nd v.ns (IE v.ns (aO v.ns b.parent) (Fi s c.aK).1)).block.root=c.root
    ·apply oN (4-(k+1))
     ·simp only[Z8,seval,hI,aY,q0,ld1,ld2,h1,h2,h3,Xf s hf,dY,hs.tree,NH _ hu hs.nn,q3,ra,N6,hw];rfl
     ·exact⟨k+1,by simp only[E8,seval,hI],nxt (.inr (by rw[if_pos h2];exact⟨q3,N6⟩)),by omega,rfl⟩
    ·apply oT (.ret)
     ·simp only[Z8,seval,hI,aY,q0,ld1,ld2,h1,h2,h3,Xf s hf,dY,hs.tree,NH _ hu hs.nn,q3,ra,N6];rfl
     ·exact .inl ⟨rfl,by simp only[E8,seval],k,NI,by rw[hc];exact fun h=>h.elim h1 fun h=>by rw[if_pos h2] at h;exact N6 h.2⟩
   ·by_cases N6:b.root=c.root
    ·apply oN (4-(k+1))
     ·simp only[Z8,seval,hI,aY,q0,ld1,ld2,h1,h2,Xf s hf,dY,N6,hw];rfl
     ·exact⟨k+1,by simp only[E8,seval,hI],nxt (.inr (by rw[if_neg h2];exact N6)),by omega,rfl⟩
    ·apply oT (.ret)
     ·simp only[Z8,seval,hI,aY,q0,ld1,ld2,h1,h2,Xf s hf,dY,N6];rfl
     ·exact .inl ⟨rfl,by simp only[E8,seval],k,NI,by rw[hc];exact fun h=>h.elim h1 fun h=>by rw[if_neg h2] at h;exact N6 h⟩
  ·have aY:¬((k:Int)<(Ll b).length):=by rw[h4];omega
   apply oT (.exit 0)
   ·simp only[Z8,seval,hI,aY];rfl
   ·exact .inr ⟨rfl,fun j h=>hj j (by omega)⟩
 case start=>exact⟨0,by simp only[E8,seval]<;>rfl,fun j h=>by omega,by omega,by omega⟩
 case rest =>
  rintro e st (⟨rfl,h,j,hj,hn⟩|⟨rfl,h⟩)
  ·have hv:decide (IK s v b)=false:=decide_eq_false (fun h=>hn (h.2.2 j hj))
   simp only[Z8,seval];exact⟨_,bS rfl (by simp only[E8,seval,h]<;>rfl) (by first|exact .v _|simp only[dU,h]),by rw[hv]⟩
  ·have hv:decide (IK s v b)=true:=decide_eq_true ⟨by omega,g2,h⟩
   simp only[Z8,seval];exact⟨_,bS rfl (by simp only[E8,seval]<;>rfl) (by first|exact .v _|simp only[dU]),by rw[hv]⟩
theorem Q3 {s:aN} {v:SV} (hs:SD s v) (hu:iA v.ns) (hp:s.cFg.qW≠0) (b:Block) (st:St) (d:Option Nat):aM (aC Tryz.prog) 69 [.agg (aB s),.agg (aT b)] st d=some { dst:=d,val:=.v (.bool (decide (IK s v b)))}:=bI (bG hs.flat (vC b)) (c69 hs hu hp b) (.v _)
noncomputable def Md (s:aN) (v:SV) (b:Block):Int :=
 if b.root=dE then 2 else if KnB v b.root then 9 else if s.now<b.slot then 12 else if b.slot≤(Fi s s.bJ.fin.aK).1 then 13 else
 if aO v.ns b.parent<0 then 10 else if b.slot≤(nd v.ns (aO v.ns b.parent)).block.slot then 14 else if (nd v.ns (aO v.ns b.parent)).status=2 then 15 else
 if ¬IK s v b then 16 else if ¬D8 s.cFg.DJ (nd v.ns (aO v.ns b.parent)).block b then 17 else if s.cFg.mD.rY≤(v.ns.length:Int) then 11 else 0
theorem c52 {s:aN} {v:SV} (hs:SD s v) (hu:iA v.ns) (hp:s.cFg.qW≠0) (b:Block):aC Tryz.prog 52 [.agg (aB s),.agg (aT b)]=some (.v (.int .i64 (Md s v b))):=by
 have hf:=hs.flat
 rw[cL Tryz.func52 rfl aPe rfl];refine jG ?_
 have r1:=fN v.ns b.parent
 by_cases g1:b.root=dE
 ·simp only[Z8,seval,Xf s hf,dY,Q1 hs,hs.tree,mQ _ _ hs.nn,Q3 hs hu hp,Yz,decide_true,decide_false,g1];exact⟨_,bS rfl (by simp only[E8,seval]<;>rfl) (by first|exact .v _|simp only[dU]),by simp only[Md,g1,not_true_eq_false,not_false_eq_true,if_true,if_false]⟩
 by_cases g2:KnB v b.root
 ·simp only[Z8,seval,Xf s hf,dY,Q1 hs,hs.tree,mQ _ _ hs.nn,Q3 hs hu hp,Yz,decide_true,decide_false,g1,g2];exact⟨_,bS rfl (by simp only[E8,seval]<;>rfl) (by first|exact .v _|simp only[dU]),by simp only[Md,g1,g2,not_true_eq_false,not_false_eq_true,if_true,if_false]⟩
 by_cases g3:s.now<b.slot
 ·simp only[Z8,seval,Xf s hf,dY,Q1 hs,hs.tree,mQ _ _ hs.nn,Q3 hs hu hp,Yz,decide_true,decide_false,g1,g2,g3];exact⟨_,bS rfl (by simp only[E8,seval]<;>rfl) (by first|exact .v _|simp only[dU]),by simp only[Md,g1,g2,g3,not_true_eq_false,not_false_eq_true,if_true,if_false]⟩
 by_cases g4:b.slot≤(Fi s s.bJ.fin.aK).1
 ·simp only[Z8,seval,Xf s hf,dY,Q1 hs,hs.tree,mQ _ _ hs.nn,Q3 hs hu hp,Yz,decide_true,decide_false,g1,g2,g3,g4];exact⟨_,bS rfl (by simp only[E8,seval]<;>rfl) (by first|exact .v _|simp only[dU]),by simp only[Md,g1,g2,g3,g4,not_true_eq_false,not_false_eq_true,if_true,if_false]⟩
 by_cases g5:aO v.ns b.parent<0
 ·simp only[Z8,seval,Xf s hf,dY,Q1 hs,hs.tree,mQ _ _ hs.nn,Q3 hs hu hp,Yz,decide_true,decide_false,g1,g2,g3,g4,g5];exact⟨_,bS rfl (by simp only[E8,seval]<;>rfl) (by first|exact .v _|simp only[dU]),by simp only[Md,g1,g2,g3,g4,g5,not_true_eq_false,not_false_eq_true,if_true,if_false]⟩
 have q0:0≤aO v.ns b.parent:=by omega
 by_cases g6:b.slot≤(nd v.ns (aO v.ns b.parent)).block.slot
 ·simp only[Z8,seval,Xf s hf,dY,Q1 hs,hs.tree,mQ _ _ hs.nn,Q3 hs hu hp,Yz,decide_true,decide_false,g1,g2,g3,g4,g5,q0,r1,g6];exact⟨_,bS rfl (by simp only[E8,seval]<;>rfl) (by first|exact .v _|simp only[dU]),by simp only[Md,g1,g2,g3,g4,g5,g6,not_true_eq_false,not_false_eq_true,if_true,if_false]⟩
 by_cases g7:(nd v.ns (aO v.ns b.parent)).status=2
 ·simp only[Z8,seval,Xf s hf,dY,Q1 hs,hs.tree,mQ _ _ hs.nn,Q3 hs hu hp,Yz,decide_true,decide_false,g1,g2,g3,g4,g5,q0,r1,g6,bt g7];exact⟨_,bS rfl (by simp only[E8,seval]<;>rfl) (by first|exact .v _|simp only[dU]),by simp only[Md,g1,g2,g3,g4,g5,g6,g7,not_true_eq_false,not_false_eq_true,if_true,if_false]⟩
 by_cases g8:¬IK s v b
 ·simp only[Z8,seval,Xf s hf,dY,Q1 hs,hs.tree,mQ _ _ hs.nn,Q3 hs hu hp,Yz,decide_true,decide_false,g1,g2,g3,g4,g5,q0,r1,g6,bf g7,g8];exact⟨_,bS rfl (by simp only[E8,seval]<;>rfl) (by first|exact .v _|simp only[dU]),by simp only[Md,g1,g2,g3,g4,g5,g6,g7,g8,not_true_eq_false,not_false_eq_true,if_true,if_false]⟩
 replace g8:=Classical.not_not.1 g8
 by_cases g9:¬D8 s.cFg.DJ (nd v.ns (aO v.ns b.parent)).block b
 ·simp only[Z8,seval,Xf s hf,dY,Q1 hs,hs.tree,mQ _ _ hs.nn,Q3 hs hu hp,Yz,decide_true,decide_false,g1,g2,g3,g4,g5,q0,r1,g6,bf g7,g8,g9];exact⟨_,bS rfl (by simp only[E8,seval]<;>rfl) (by first|exact .v _|simp only[dU]),by simp only[Md,g1,g2,g3,g4,g5,g6,g7,g8,g9,not_true_eq_false,not_false_eq_true,if_true,if_false]⟩
 replace g9:=Classical.not_not.1 g9
 by_cases Q4:s.cFg.mD.rY≤(v.ns.length:Int)
 ·simp only[Z8,seval,Xf s hf,dY,Q1 hs,hs.tree,mQ _ _ hs.nn,Q3 hs hu hp,Yz,decide_true,decide_false,g1,g2,g3,g4,g5,q0,r1,g6,bf g7,g8,g9,Q4];exact⟨_,bS rfl (by simp only[E8,seval]<;>rfl) (by first|exact .v _|simp only[dU]),by simp only[Md,g1,g2,g3,g4,g5,g6,g7,g8,g9,Q4,not_true_eq_false,not_false_eq_true,if_true,if_false]⟩
 simp only[Z8,seval,Xf s hf,dY,Q1 hs,hs.tree,mQ _ _ hs.nn,Q3 hs hu hp,Yz,decide_true,decide_false,g1,g2,g3,g4,g5,q0,r1,g6,bf g7,g8,g9,Q4];exact⟨_,bS rfl (by simp only[E8,seval]<;>rfl) (by first|exact .v _|simp only[dU]),by simp only[Md,g1,g2,g3,g4,g5,g6,g7,g8,g9,Q4,not_true_eq_false,not_false_eq_true,if_true,if_false]⟩
theorem k52 {s:aN} {v:SV} (hs:SD s v) (hu:iA v.ns) (hp:s.cFg.qW≠0) (b:Block) (st:St) (d:Option Nat):aM (aC Tryz.prog) 52 [.agg (aB s),.agg (aT b)] st d=some { dst:=d,val:=.v (.int .i64 (Md s v b))}:=bI (bG hs.flat (vC b)) (c52 hs hu hp b) (.v _)
def OE (acc:Bool × fV × fV) (n:Node):Bool × fV × fV :=
 if n.status=2 then acc else (true,if acc.1=false∨acc.2.1.aK<n.block.dQ.pj.aK then n.block.dQ.pj else acc.2.1,if acc.1=false∨acc.2.2.aK<n.block.dQ.pf.aK then n.block.dQ.pf else acc.2.2)
def E1 (ns:List Node):Bool × fV × fV:=ns.foldl OE (false,gX,gX)
def Lm (ns:List Node):pE:=⟨(E1 ns).2.1,(E1 ns).2.2⟩
theorem E2 (ns:List Node) (k:Nat) (h:k<ns.length):E1 (ns.take (k+1))=OE (E1 (ns.take k)) (nd ns k):=by
 obtain⟨h',e⟩:=Mz (ns:=ns) (i:=(k:Int)) (by omega) (by omega)
 unfold E1;rw[List.take_succ_eq_append_getElem h,List.foldl_append,e];rfl
theorem c67 {s:aN} {v:SV} (hs:SD s v):aC Tryz.prog 67 [.agg (aB s)]=some (.agg (fM (Lm v.ns))):=by
 have hn:=hs.nn
 rw[cL Tryz.func67 rfl aPf rfl];refine jG ?_
 simp only[Z8,seval,hs.tree];refine cE (fun m st=>∃(k:Nat) (b:Bool) (x y:fV),(st.env 1=.ptr 1 0 0∧st.heap 1 0=some (.cells (aB s))∧st.env 2=.ptr 2 0 0∧st.heap 2 0=some (.cells (fM Pz))∧st.env 3=.ptr 3 0 0∧st.heap 3 0=some (.cells (fM ⟨x,y⟩))∧st.env 4=.v (.bool b)∧st.env 5=.v (.int .i64 k))∧E1 (v.ns.take k)=(b,x,y)∧k≤v.ns.length∧m=v.ns.length-k)
  (fun e st=>e=.exit 0∧∃(x y:fV),(st.env 2=.ptr 2 0 0∧st.heap 2 0=some (.cells (fM Pz))∧st.env 3=.ptr 3 0 0∧st.heap 3 0=some (.cells (fM ⟨x,y⟩)))∧Lm v.ns=⟨x,y⟩) v.ns.length ?step ?start ?rest
 case step =>
  rintro m st ⟨k,b,x,y,hI,hp,hk,hm⟩
  by_cases aY:(k:Int)<v.ns.length
  ·have q0:(0:Int)≤k:=by omega
   have hw:IntKind.i64.wrap ((k:Int)+1)=((k+1:Nat):Int):=by rw[pZ _ (by omega) (by omega)];omega
   have sG:=E2 v.ns k (by omega)
   rw[hp] at sG;unfold OE at sG;by_cases h1:(nd v.ns k).status=2
   ·rw[if_pos h1] at sG;apply oN (v.ns.length-(k+1))
    ·simp only[Z8,seval,hI,aY,q0,hs.tree,bt h1,hw];rfl
    ·exact⟨k+1,b,x,y,by simp only[E8,seval,hI],sG,by omega,rfl⟩
   rw[if_neg h1] at sG;cases b
   ·simp only[true_or,if_true] at sG;apply oN (v.ns.length-(k+1))
    ·simp only[Z8,seval,hI,aY,q0,hs.tree,bf h1,hw];rfl
    ·exact⟨k+1,true,_,_,by simp only[E8,seval,hI]<;>rfl,sG,by omega,rfl⟩
   ·simp only[Bool.true_eq_false,false_or] at sG;by_cases h2:x.aK<(nd v.ns k).block.dQ.pj.aK
    ·rw[if_pos h2] at sG;by_cases h3:y.aK<(nd v.ns k).block.dQ.pf.aK
     ·rw[if_pos h3] at sG;apply oN (v.ns.length-(k+1))
      ·simp only[Z8,seval,hI,aY,q0,hs.tree,bf h1,h2,h3,hw];rfl
      ·exact⟨k+1,true,_,_,by simp only[E8,seval,hI]<;>rfl,sG,by omega,rfl⟩
     ·rw[if_neg h3] at sG;apply oN (v.ns.length-(k+1))
      ·simp only[Z8,seval,hI,aY,q0,hs.tree,bf h1,h2,h3,hw];rfl
      ·exact⟨k+1,true,_,_,by simp only[E8,seval,hI]<;>rfl,sG,by omega,rfl⟩
    ·rw[if_neg h2] at sG;by_cases h3:y.aK<(nd v.ns k).block.dQ.pf.aK
     ·rw[if_pos h3] at sG;apply oN (v.ns.length-(k+1))
      ·simp only[Z8,seval,hI,aY,q0,hs.tree,bf h1,h2,h3,hw];rfl
      ·exact⟨k+1,true,_,_,by simp only[E8,seval,hI]<;>rfl,sG,by omega,rfl⟩
     ·rw[if_neg h3] at sG;apply oN (v.ns.length-(k+1))
      ·simp only[Z8,seval,hI,aY,q0,hs.tree,bf h1,h2,h3,hw];rfl
      ·exact⟨k+1,true,_,_,by simp only[E8,seval,hI]<;>rfl,sG,by omega,rfl⟩
  ·have Fg:k=v.ns.length:=by omega
   rw[Fg,List.take_length] at hp;apply oT (.exit 0)
   ·simp only[Z8,seval,hI,aY,hs.tree];rfl
   ·exact⟨rfl,x,y,by simp only[E8,seval,hI],by unfold Lm;rw[hp]⟩
 case start=>exact⟨0,false,gX,gX,by simp only[E8,seval]<;>rfl,rfl,by omega,by omega⟩
 case rest =>
  rintro e st ⟨rfl,x,y,hI,hp⟩
  simp only[Z8,seval,hI];exact⟨_,fI rfl (by simp only[E8,seval,hI]<;>rfl) (by simp only[Z8,seval,hI]<;>rfl) (by simp only[dU,and_self,hI]),by rw[hp]⟩
theorem k67 {s:aN} {v:SV} (hs:SD s v) (st:St) (d:Option Nat):aM (aC Tryz.prog) 67 [.agg (aB s)] st d=some { dst:=d,val:=.agg (fM (Lm v.ns))}:=bI (cU hs.flat) (c67 hs) (.agg _ (Fy _))
noncomputable def Hv (s:aN) (c:fV):fV:=if s.bJ.gW.aK<c.aK then c else s.bJ.gW
noncomputable def Fj (s:aN) (c:fV):fV:=if s.bJ.fin.aK<c.aK then c else s.bJ.fin
def mR (s:aN) (v:SV) (J F:fV):Prop :=
 aO v.ns J.root<0∨aO v.ns F.root<0∨(nd v.ns (aO v.ns J.root)).status=2∨(nd v.ns (aO v.ns F.root)).status=2∨¬VG s v.ns (aO v.ns J.root) J.aK∨¬VG s v.ns (aO v.ns F.root) F.aK ∨
 Bj v.ns (aO v.ns F.root) (aO v.ns J.root)=false∨J.aK<F.aK∨Fh s s.now<J.aK∨N5 (ol v.T) J<0
noncomputable def E3 (s:aN) (v:SV) (c1 c2:fV):AV:=if mR s v (Hv s c1) (Fj s c2) then .eG [.agg (bX gX),.agg (bX gX),.v (.bool false)] else .eG [.agg (bX (Hv s c1)),.agg (bX (Fj s c2)),.v (.bool true)]
end Go.Ab.Tryz
section
namespace Go.Ab.Tryz
open Classical Go.Proofs Go.Ab
end Go.Ab.Tryz
namespace Go.Ab
theorem l7 {α β:Type} {x:Option α} {k:α→Option β} {R:β→Prop} (Q:α→Prop) (h:∃a,x=some a∧Q a) (rest:∀a,Q a→∃r,k a=some r∧R r):∃r,cH x k=some r∧R r:=by
 obtain⟨a,h1,h2⟩:=h
 rw[h1];exact rest a h2
end Go.Ab
namespace Go.Ab.Tryz
open Classical Go.Proofs Go.Ab
theorem Dm:aE 7 73 (some 41)=[]∧aE 7 72 (some 41)=[]:=⟨rfl,rfl⟩
theorem qA {α:Type} (a:α) (l m:List α):List.append (a :: l) m=a :: List.append l m:=rfl
theorem qB {α:Type} (m:List α):List.append ([]:List α) m=m:=rfl
theorem c59 {s:aN} {v:SV} (hs:SD s v) (hu:iA v.ns) (hp:s.cFg.qW≠0) (c1 c2:fV):aC Tryz.prog 59 [.agg (aB s),.agg (bX c1),.agg (bX c2)]=some (E3 s v c1 c2):=by
 have hf:=hs.flat
 have MV:=hs.fT
 rw[cG Tryz.func59 rfl aPg (by kernel_rfl) rfl]
 refine jG ?_
 unfold E3;obtain⟨J,eJ⟩:∃J,Hv s c1=J:=⟨_,rfl⟩
 obtain⟨F,eF⟩:∃F,Fj s c2=F:=⟨_,rfl⟩
 rw[eJ,eF];simp only[ZG,seval,Bool.false_and,Prod.mk.injEq,Sq,Dm,qA,qB];refine l7 (fun a=>a.1=.normal∧a.2.env 3=.ptr 3 0 0∧a.2.heap 3 0=some (.cells (aB s))∧a.2.env 5=.ptr 5 0 0∧a.2.heap 5 0=some (.cells (bX c2))∧a.2.env 6=.ptr 6 0 0∧a.2.heap 6 0=some (.cells (bX gX))∧a.2.env 7=.ptr 7 0 0∧a.2.heap 7 0=some (.cells (bX gX))∧a.2.env 9=.ptr 9 0 0∧a.2.heap 9 0=some (.cells (bX J))∧a.2.env 10=.ptr 10 0 0∧a.2.heap 10 0=some (.cells (bX s.bJ.fin))) ?m1 ?r1
 case m1 =>
  unfold Hv at eJ;by_cases a1:s.bJ.gW.aK<c1.aK
  ·rw[if_pos a1] at eJ;simp only[a1,decide_true,if_true];exact⟨_,rfl,rfl,by simp only[E8,seval,eJ]<;>exact⟨rfl,rfl⟩⟩
  ·rw[if_neg a1] at eJ;simp only[a1,decide_false,Bool.false_eq_true,if_false];exact⟨_,rfl,rfl,by simp only[E8,seval,eJ]<;>exact⟨rfl,rfl⟩⟩
 case r1 =>
  rintro⟨_,st⟩ ⟨rfl,hI⟩
  dsimp only at hI
  simp only[ZG,seval,Bool.false_and,Prod.mk.injEq,Sq,Dm,qA,qB,hI];refine l7 (fun a=>a.1=.normal∧a.2.env 3=.ptr 3 0 0∧a.2.heap 3 0=some (.cells (aB s))∧a.2.env 6=.ptr 6 0 0∧a.2.heap 6 0=some (.cells (bX gX))∧a.2.env 7=.ptr 7 0 0∧a.2.heap 7 0=some (.cells (bX gX))∧a.2.env 9=.ptr 9 0 0∧a.2.heap 9 0=some (.cells (bX J))∧a.2.env 10=.ptr 10 0 0∧a.2.heap 10 0=some (.cells (bX F))) ?m2 ?r2
  case m2 =>
   unfold Fj at eF;by_cases a2:s.bJ.fin.aK<c2.aK
   ·rw[if_pos a2] at eF;simp only[a2,decide_true,if_true];exact⟨_,rfl,rfl,by simp only[E8,seval,hI,eF]⟩
   ·rw[if_neg a2] at eF;simp only[a2,decide_false,Bool.false_eq_true,if_false];exact⟨_,rfl,rfl,by simp only[E8,seval,hI,eF]⟩
  case r2 =>
   rintro⟨_,st⟩ ⟨rfl,hK⟩
   dsimp only at hK
   have r1:=fN v.ns J.root
   have r2:=fN v.ns F.root
   by_cases g1:aO v.ns J.root<0
   ·simp only[ZG,seval,Bool.false_and,Prod.mk.injEq,Sq,Dm,qA,qB,hK,hs.tree,mQ _ _ hs.nn,Pj _ hu hs.nn,Ow s hp hf,hs.tables,l5 _ hs.nT MV,decide_true,decide_false,g1];exact⟨_,by apply gO;rfl;all_goals simp only[aI,bT,Z8,seval,hK]<;>rfl,by rw[if_pos (show mR s v J F by simp only[mR,g1,not_true_eq_false,not_false_eq_true,true_or,or_true])]⟩
   by_cases g2:aO v.ns F.root<0
   ·simp only[ZG,seval,Bool.false_and,Prod.mk.injEq,Sq,Dm,qA,qB,hK,hs.tree,mQ _ _ hs.nn,Pj _ hu hs.nn,Ow s hp hf,hs.tables,l5 _ hs.nT MV,decide_true,decide_false,g1,g2];exact⟨_,by apply gO;rfl;all_goals simp only[aI,bT,Z8,seval,hK]<;>rfl,by rw[if_pos (show mR s v J F by simp only[mR,g1,g2,not_true_eq_false,not_false_eq_true,true_or,or_true])]⟩
   have q1:0≤aO v.ns J.root:=by omega
   have q2:0≤aO v.ns F.root:=by omega
   by_cases g3:(nd v.ns (aO v.ns J.root)).status=2
   ·simp only[ZG,seval,Bool.false_and,Prod.mk.injEq,Sq,Dm,qA,qB,hK,hs.tree,mQ _ _ hs.nn,Pj _ hu hs.nn,Ow s hp hf,hs.tables,l5 _ hs.nT MV,decide_true,decide_false,g1,g2,q1,q2,r1,r2,bt g3];exact⟨_,by apply gO;rfl;all_goals simp only[aI,bT,Z8,seval,hK]<;>rfl,by rw[if_pos (show mR s v J F by simp only[mR,g1,g2,g3,not_true_eq_false,not_false_eq_true,true_or,or_true])]⟩
   by_cases g4:(nd v.ns (aO v.ns F.root)).status=2
   ·simp only[ZG,seval,Bool.false_and,Prod.mk.injEq,Sq,Dm,qA,qB,hK,hs.tree,mQ _ _ hs.nn,Pj _ hu hs.nn,Ow s hp hf,hs.tables,l5 _ hs.nT MV,decide_true,decide_false,g1,g2,q1,q2,r1,r2,bf g3,bt g4];exact⟨_,by apply gO;rfl;all_goals simp only[aI,bT,Z8,seval,hK]<;>rfl,by rw[if_pos (show mR s v J F by simp only[mR,g1,g2,g3,g4,not_true_eq_false,not_false_eq_true,true_or,or_true])]⟩
   have ke1:=aJT hs (aO v.ns J.root) J.aK q1 r1.2
   have ke2:=aJT hs (aO v.ns F.root) F.aK q2 r2.2
   by_cases g5:¬VG s v.ns (aO v.ns J.root) J.aK
   ·simp only[ZG,seval,Bool.false_and,Prod.mk.injEq,Sq,Dm,qA,qB,hK,hs.tree,mQ _ _ hs.nn,Pj _ hu hs.nn,Ow s hp hf,hs.tables,l5 _ hs.nT MV,decide_true,decide_false,g1,g2,q1,q2,r1,r2,bf g3,bf g4,ke1,ke2,g5];exact⟨_,by apply gO;rfl;all_goals simp only[aI,bT,Z8,seval,hK]<;>rfl,by rw[if_pos (show mR s v J F by simp only[mR,g1,g2,g3,g4,g5,not_true_eq_false,not_false_eq_true,true_or,or_true])]⟩
   replace g5:=Classical.not_not.1 g5
   by_cases g6:¬VG s v.ns (aO v.ns F.root) F.aK
   ·simp only[ZG,seval,Bool.false_and,Prod.mk.injEq,Sq,Dm,qA,qB,hK,hs.tree,mQ _ _ hs.nn,Pj _ hu hs.nn,Ow s hp hf,hs.tables,l5 _ hs.nT MV,decide_true,decide_false,g1,g2,q1,q2,r1,r2,bf g3,bf g4,ke1,ke2,g5,g6];exact⟨_,by apply gO;rfl;all_goals simp only[aI,bT,Z8,seval,hK]<;>rfl,by rw[if_pos (show mR s v J F by simp only[mR,g1,g2,g3,g4,g5,g6,not_true_eq_false,not_false_eq_true,true_or,or_true])]⟩
   replace g6:=Classical.not_not.1 g6
   by_cases g7:Bj v.ns (aO v.ns F.root) (aO v.ns J.root)=false
   ·simp only[ZG,seval,Bool.false_and,Prod.mk.injEq,Sq,Dm,qA,qB,hK,hs.tree,mQ _ _ hs.nn,Pj _ hu hs.nn,Ow s hp hf,hs.tables,l5 _ hs.nT MV,decide_true,decide_false,g1,g2,q1,q2,r1,r2,bf g3,bf g4,ke1,ke2,g5,g6,g7];exact⟨_,by apply gO;rfl;all_goals simp only[aI,bT,Z8,seval,hK]<;>rfl,by rw[if_pos (show mR s v J F by simp only[mR,g1,g2,g3,g4,g5,g6,g7,not_true_eq_false,not_false_eq_true,true_or,or_true])]⟩
   replace g7:=(by simpa using g7:Bj v.ns _ _=true)
   by_cases g8:J.aK<F.aK
   ·simp only[ZG,seval,Bool.false_and,Prod.mk.injEq,Sq,Dm,qA,qB,hK,hs.tree,mQ _ _ hs.nn,Pj _ hu hs.nn,Ow s hp hf,hs.tables,l5 _ hs.nT MV,decide_true,decide_false,g1,g2,q1,q2,r1,r2,bf g3,bf g4,ke1,ke2,g5,g6,g7,g7,g8];exact⟨_,by apply gO;rfl;all_goals simp only[aI,bT,Z8,seval,hK]<;>rfl,by rw[if_pos (show mR s v J F by simp only[mR,g1,g2,g3,g4,g5,g6,g7,g8,not_true_eq_false,not_false_eq_true,true_or,or_true])]⟩
   by_cases g9:Fh s s.now<J.aK
   ·simp only[ZG,seval,Bool.false_and,Prod.mk.injEq,Sq,Dm,qA,qB,hK,hs.tree,mQ _ _ hs.nn,Pj _ hu hs.nn,Ow s hp hf,hs.tables,l5 _ hs.nT MV,decide_true,decide_false,g1,g2,q1,q2,r1,r2,bf g3,bf g4,ke1,ke2,g5,g6,g7,g7,g8,g9];exact⟨_,by apply gO;rfl;all_goals simp only[aI,bT,Z8,seval,hK]<;>rfl,by rw[if_pos (show mR s v J F by simp only[mR,g1,g2,g3,g4,g5,g6,g7,g8,g9,not_true_eq_false,not_false_eq_true,true_or,or_true])]⟩
   by_cases Q4:N5 (ol v.T) J<0
   ·simp only[ZG,seval,Bool.false_and,Prod.mk.injEq,Sq,Dm,qA,qB,hK,hs.tree,mQ _ _ hs.nn,Pj _ hu hs.nn,Ow s hp hf,hs.tables,l5 _ hs.nT MV,decide_true,decide_false,g1,g2,q1,q2,r1,r2,bf g3,bf g4,ke1,ke2,g5,g6,g7,g7,g8,g9,Q4];exact⟨_,by apply gO;rfl;all_goals simp only[aI,bT,Z8,seval,hK]<;>rfl,by rw[if_pos (show mR s v J F by simp only[mR,g1,g2,g3,g4,g5,g6,g7,g8,g9,Q4,not_true_eq_false,not_false_eq_true,true_or,or_true])]⟩
   simp only[ZG,seval,Bool.false_and,Prod.mk.injEq,Sq,Dm,qA,qB,hK,hs.tree,mQ _ _ hs.nn,Pj _ hu hs.nn,Ow s hp hf,hs.tables,l5 _ hs.nT MV,decide_true,decide_false,g1,g2,q1,q2,r1,r2,bf g3,bf g4,ke1,ke2,g5,g6,g7,g7,g8,g9,Q4];exact⟨_,by apply gO;rfl;all_goals simp only[aI,bT,Z8,seval,hK]<;>rfl,by rw[if_neg (show ¬mR s v J F by simp only[mR,g1,g2,g3,g4,g5,g6,g7,g8,g9,Q4,not_true_eq_false,not_false_eq_true,or_self,Bool.true_eq_false])]⟩
theorem k59 {s:aN} {v:SV} (hs:SD s v) (hu:iA v.ns) (hp:s.cFg.qW≠0) (c1 c2:fV) (st:St) (d:Option Nat):aM (aC Tryz.prog) 59 [.agg (aB s),.agg (bX c1),.agg (bX c2)] st d=some { dst:=d,val:=E3 s v c1 c2 }:=bI (nA hs.flat (.agg _ (dB c1)) (.agg _ (dB c2))) (c59 hs hu hp c1 c2) (by unfold E3;split<;>exact .eG _ (nA (.agg _ (dB _)) (.agg _ (dB _)) (.v _)))
end Go.Ab.Tryz
end
