/-
  Part 14 of the proof: an evaluator of programs, its soundness, and what functions of this program compute.
-/
import Derived.Test.YtmcjkemalibacaaGreatK13
import Derived.Test.YtmcjkemalibacaaGreatK10
import Derived.Test.YtmcjkemalibacaaGreatK12
set_option linter.all false
set_option maxRecDepth 20000
set_option maxHeartbeats 40000000
namespace Go.Ab.Tryz
open Classical Go.Proofs Go.Ab
theorem aO9 (n:Int):∃x,aC Tryz.prog 111 [.v (.int .i64 n)]=some x∧∃w:qX,x=.agg (gF w):=by
 obtain⟨j,hj⟩:∃j,(IntKind.i64.wrap ((BitVec.ofInt IntKind.i64.bits (((n).fdiv (2 ^ min 9 IntKind.i64.bits))) &&& BitVec.ofInt IntKind.i64.bits 3).toNat:Int))=j:=⟨_,rfl⟩
 have hb:=Ia ((n).fdiv (2 ^ min 9 IntKind.i64.bits)) 3 (by decide)
 rw[hj] at hb;have j0:=hb.1
 have j1:j<4:=by omega
 have j3:j.toNat<4:=by omega
 have j4:j.toNat≤3:=by omega
 have Vf:∀(w:qX) (x:Int),dJ (gF w) j.toNat [.v (.int .u64 x)] (j.toNat+1)=gF (w.set j.toNat x):=fun w x=>qM w j.toNat _ x j3 rfl
 have fw:∀w:qX,Flat (.agg (gF w))=True:=fun w=>eq_true (.agg _ (iJ w))
 rw[cL Tryz.func111 rfl aKH rfl];by_cases c1:(IntKind.i64.wrap ((BitVec.ofInt IntKind.i64.bits (((n).fdiv (2 ^ min 7 IntKind.i64.bits))) &&& BitVec.ofInt IntKind.i64.bits 3).toNat:Int))=1
 ·simp only[Z8,seval,bt c1,qM,Nat.reduceLT,Gn,hj,j0,j1,j4,Vf,Nat.mul_one,wT];exact⟨_,fF rfl (by simp only[E8,seval,fw]<;>rfl) (by simp only[Z8,seval,fw]<;>rfl) (by simp only[dY,and_self,fw]),_,rfl⟩
 by_cases c2:(IntKind.i64.wrap ((BitVec.ofInt IntKind.i64.bits (((n).fdiv (2 ^ min 7 IntKind.i64.bits))) &&& BitVec.ofInt IntKind.i64.bits 3).toNat:Int))=2
 ·simp only[Z8,seval,bf c1,bt c2,qM,Nat.reduceLT,Gn,hj,j0,j1,j4,Vf,Nat.mul_one,wT];exact⟨_,fF rfl (by simp only[E8,seval,fw]<;>rfl) (by simp only[Z8,seval,fw]<;>rfl) (by simp only[dY,and_self,fw]),_,rfl⟩
 by_cases c3:(IntKind.i64.wrap ((BitVec.ofInt IntKind.i64.bits (((n).fdiv (2 ^ min 7 IntKind.i64.bits))) &&& BitVec.ofInt IntKind.i64.bits 3).toNat:Int))=3
 ·simp only[Z8,seval,bf c1,bf c2,bt c3,qM,Nat.reduceLT,Gn,hj,j0,j1,j4,Vf,Nat.mul_one,wT];exact⟨_,fF rfl (by simp only[E8,seval,fw]<;>rfl) (by simp only[Z8,seval,fw]<;>rfl) (by simp only[dY,and_self,fw]),_,rfl⟩
 simp only[Z8,seval,bf c1,bf c2,bf c3,qM,Nat.reduceLT,Gn,hj,j0,j1,j4,Vf,Nat.mul_one,wT];exact⟨_,fF rfl (by simp only[E8,seval,fw]<;>rfl) (by simp only[Z8,seval,fw]<;>rfl) (by simp only[dY,and_self,fw]),_,rfl⟩
theorem aPa (n k:Int) (h0:0<n) (h1:n≤1000):∃r,aC Tryz.prog 182 [.v (.int .i64 n),.v (.int .i64 k)]=some r∧∃x:fW,r=.agg (bV x)∧wB x.first∧wB x.second∧Rg x.first.source∧Rg x.first.target∧Rg x.second.source∧Rg x.second.target:=by
 obtain⟨l,kl,hl⟩:=k45 n k h0 h1
 obtain⟨m,km,hm⟩:=k45 n ((k).fdiv (2 ^ min 6 IntKind.i64.bits)) h0 h1
 have cl:wB ⟨1,5,mkRoot 2,ov aK (some l)⟩:=⟨some l,rfl,by show (l.length:Int)≤1000;omega⟩
 have rg:∀x:Int,0≤x∧x≤6→Rg x:=fun x h=>⟨by omega,by omega⟩
 have okl:∀a b r,wB ⟨a,b,r,ov aK (some l)⟩:=fun a b r=>⟨some l,rfl,by show (l.length:Int)≤1000;omega⟩
 have okm:∀a b r,wB ⟨a,b,r,ov aK (some m)⟩:=fun a b r=>⟨some m,rfl,by show (m.length:Int)≤1000;omega⟩
 rw[cL Tryz.func182 rfl aKJ rfl];by_cases c0:((((k).fdiv (2 ^ min 12 IntKind.i64.bits))).tmod 8)=0
 ·simp only[Z8,seval,kl,km,Po,bt c0];exact⟨_,by apply eK;rfl;all_goals simp only[aE,Z8,seval,bP,rA,vE,bG,cX,jS,dY]<;>rfl,_,rfl,okm _ _ _,okl _ _ _,rg _ (by dsimp only;omega),rg _ (by dsimp only;omega),rg _ (by dsimp only;omega),rg _ (by dsimp only;omega)⟩
 by_cases c1:((((k).fdiv (2 ^ min 12 IntKind.i64.bits))).tmod 8)=1
 ·simp only[Z8,seval,kl,km,Po,bf c0,bt c1];exact⟨_,by apply eK;rfl;all_goals simp only[aE,Z8,seval,bP,rA,vE,bG,cX,jS,dY]<;>rfl,_,rfl,okl _ _ _,okm _ _ _,rg _ (by dsimp only;omega),rg _ (by dsimp only;omega),rg _ (by dsimp only;omega),rg _ (by dsimp only;omega)⟩
 by_cases c2:((((k).fdiv (2 ^ min 12 IntKind.i64.bits))).tmod 8)=2
 ·simp only[Z8,seval,kl,km,Po,bf c0,bf c1,bt c2];exact⟨_,by apply eK;rfl;all_goals simp only[aE,Z8,seval,bP,rA,vE,bG,cX,jS,dY]<;>rfl,_,rfl,okl _ _ _,okl _ _ _,rg _ (by dsimp only;omega),rg _ (by dsimp only;omega),rg _ (by dsimp only;omega),rg _ (by dsimp only;omega)⟩
 by_cases c3:((((k).fdiv (2 ^ min 12 IntKind.i64.bits))).tmod 8)=3
 ·simp only[Z8,seval,kl,km,Po,bf c0,bf c1,bf c2,bt c3];exact⟨_,by apply eK;rfl;all_goals simp only[aE,Z8,seval,bP,rA,vE,bG,cX,jS,dY]<;>rfl,_,rfl,okl _ _ _,okm _ _ _,rg _ (by dsimp only;omega),rg _ (by dsimp only;omega),rg _ (by dsimp only;omega),rg _ (by dsimp only;omega)⟩
 by_cases c4:((((k).fdiv (2 ^ min 12 IntKind.i64.bits))).tmod 8)=4
 ·simp only[Z8,seval,kl,km,Po,bf c0,bf c1,bf c2,bf c3,bt c4];exact⟨_,by apply eK;rfl;all_goals simp only[aE,Z8,seval,bP,rA,vE,bG,cX,jS,dY]<;>rfl,_,rfl,okl _ _ _,okm _ _ _,rg _ (by dsimp only;omega),rg _ (by dsimp only;omega),rg _ (by dsimp only;omega),rg _ (by dsimp only;omega)⟩
 simp only[Z8,seval,kl,km,Po,bf c0,bf c1,bf c2,bf c3,bf c4];exact⟨_,by apply eK;rfl;all_goals simp only[aE,Z8,seval,bP,rA,vE,bG,cX,jS,dY]<;>rfl,_,rfl,okl _ _ _,okm _ _ _,rg _ (by dsimp only;omega),rg _ (by dsimp only;omega),rg _ (by dsimp only;omega),rg _ (by dsimp only;omega)⟩
theorem aPb {s:aP} {v:SV} {q:Int} (h:GI s v q) (r:RG s v) (hB:0<(ol v.B).length∧(ol v.B).length≤64) (k:Int) (hk:0≤k):∃x,aC Tryz.prog 183 [.agg (aB s),.v (.int .i64 k)]=some x∧∃(t:Table) (b:List Int),x=.agg (cA t)∧t.jI=ov bC (some b)∧(b.length:Int)≤1000∧(∀y∈b,Rg y)∧Rg t.ck.aL:=by
 have hn:=h.sd.nn
 have hp:(0:Int)<(v.ns.length:Int):=by have:=h.pos;omega
 have gT:¬((v.ns.length:Int)=0):=by omega
 obtain⟨m1,m2⟩:=eJ (n:=(v.ns.length:Int)) hk hp
 obtain⟨i,hi⟩:∃i,k.tmod (v.ns.length:Int)=i:=⟨_,rfl⟩
 rw[hi] at m1 m2;have Ma:=h.sp
 obtain⟨y,hy,c2,rfl,rc2⟩:=x92 h r i (Bi s s.now) (jT _)
 unfold Bi at hy;have Qd:=kx hy (lN h.sd.flat (.v _) (.v _)) (.agg _ (dA _))
 have rc1:Rg (nd v.ns i).block.dS.pj.aL:=(r.nd _ (FB m1 m2)).1.pj
 rw[cL Tryz.func183 rfl aKK rfl];by_cases c0:((((k).fdiv (2 ^ min 5 IntKind.i64.bits))).tmod 4)=0
 case neg =>
  simp only[Z8,seval,h.sd.tree,gT,hi,m1,m2,bf c0];refine cH (fun m st=>∃(j:Nat) (X:AV) (L:List Int),(st.env 1=.v (.int .i64 k)∧st.env 2=.ptr 2 0 0∧st.heap 2 0=some (.cells (aB s))∧st.env 4=.ptr 4 0 0∧st.heap 4 0=some (.cells (cA iT))∧st.env 6=.ptr 6 0 0∧st.heap 6 0=some (.cells (cA ⟨(nd v.ns i).block.dS.pj,X⟩))∧st.env 7=.v (.int .i64 j))∧((X=.v (.slice none 0 0)∧L=[])∨∃g,X=.own 55 g∧g<st.aQ 55∧st.heap 55 g=some (.row 23 1 L.length (bC L)))∧(∀y∈L,Rg y)∧L.length=j∧j≤(ol v.B).length∧m=(ol v.B).length-j)
   (fun e st=>e=.exit 0∧∃(g:Nat) (L:List Int),(st.env 1=.v (.int .i64 k)∧st.env 2=.ptr 2 0 0∧st.heap 2 0=some (.cells (aB s))∧st.env 4=.ptr 4 0 0∧st.heap 4 0=some (.cells (cA iT))∧st.env 6=.ptr 6 0 0∧st.heap 6 0=some (.cells (cA ⟨(nd v.ns i).block.dS.pj,.own 55 g⟩))∧st.heap 55 g=some (.row 23 1 L.length (bC L)))∧(∀y∈L,Rg y)∧L.length=(ol v.B).length) (ol v.B).length ?step ?start ?rest
  case step =>
   rintro m st ⟨j,X,L,hI,hX,hL,hj,hjB,hm⟩
   by_cases bB:(j:Int)<(ol v.B).length
   ·have q0:(0:Int)≤j:=by omega
    have hw:IntKind.i64.wrap ((j:Int)+1)=((j+1:Nat):Int):=by rw[qA _ (by omega) (by omega)];omega
    have nL:(L.length:Int)<1000000:=by omega
    obtain⟨y,hy9⟩:∃y,IntKind.u64.wrap ((k.fdiv (2 ^ min (IntKind.u64.wrap (j:Int)).toNat IntKind.i64.bits)).tmod 50)=y:=⟨_,rfl⟩
    have ry:Rg y:=by rw[← hy9];exact jT _
    have AA:∀z∈L++[y],Rg z:=fun z hz=>(List.mem_append.1 hz).elim (hL z) fun e=>by rw[List.mem_singleton] at e;rw[e];exact ry
    have Pl:(L++[y]).length=j+1:=by rw[List.length_append,List.length_cons,List.length_nil];omega
    rcases hX with ⟨rfl,rfl⟩|⟨g,rfl,hg,hh⟩
    ·apply oN ((ol v.B).length-(j+1))
     ·simp only[Z8,seval,hI,bB,q0,h.sd.jI,wT,hy9,hw];rfl
     ·exact⟨j+1,_,[]++[y],⟨by simp only[E8,seval,hI],by simp only[E8,seval,hI],by simp only[E8,seval,hI],by simp only[E8,seval,hI],by simp only[E8,seval,hI],by simp only[E8,seval,hI],by simp only[E8,seval,hI]<;>rfl,by simp only[E8,seval]⟩,.inr ⟨_,rfl,by simp only[E8,seval]<;>omega,by simp only[E8,seval]<;>rfl⟩,AA,Pl,by omega,rfl⟩
    ·have vC:(g=st.aQ 55)=False:=eq_false (by omega)
     apply oN ((ol v.B).length-(j+1))
     ·simp only[Z8,seval,hI,hh,vC,bB,q0,h.sd.jI,wT,hy9,hw,xJ _ _ _ _ nL];rfl
     ·exact⟨j+1,_,L++[y],⟨by simp only[E8,seval,hI],by simp only[E8,seval,hI],by simp only[E8,seval,hI],by simp only[E8,seval,hI],by simp only[E8,seval,hI],by simp only[E8,seval,hI],by simp only[E8,seval,hI]<;>rfl,by simp only[E8,seval]⟩,.inr ⟨_,rfl,by simp only[E8,seval]<;>omega,by simp only[E8,seval]<;>rfl⟩,AA,Pl,by omega,rfl⟩
   ·rcases hX with ⟨rfl,rfl⟩|⟨g,rfl,hg,hh⟩
    ·simp at hj;omega
    ·apply oT (.exit 0)
     ·simp only[Z8,seval,hI,bB,h.sd.jI];rfl
     ·exact⟨rfl,g,L,by simp only[E8,seval,hI,hh],hL,by omega⟩
  case start=>exact⟨0,_,[],by and_intros<;>(simp only[E8,seval]<;>rfl),.inl ⟨rfl,rfl⟩,by simp,rfl,by omega,by omega⟩
  case rest =>
   rintro e st ⟨rfl,g,L,hI,hL,hlL⟩
   have nL:(L.length:Int)<1000000:=by omega
   by_cases d0:((((k).fdiv (2 ^ min 12 IntKind.i64.bits))).tmod 16)=0
   ·have AA:∀z∈L++[(1:Int)],Rg z:=fun z hz=>(List.mem_append.1 hz).elim (hL z) fun e=>by rw[List.mem_singleton] at e;rw[e];exact⟨by omega,by omega⟩
    simp only[Z8,seval,hI,bt d0,xJ _ _ _ _ nL];exact⟨_,by apply eK;rfl;all_goals simp only[aE,Z8,seval,hI,bP,sV,bG,uZ,dY]<;>rfl,⟨(nd v.ns i).block.dS.pj,_⟩,L++[1],rfl,rfl,by rw[List.length_append,List.length_cons,List.length_nil];omega,AA,rc1⟩
   by_cases d1:((((k).fdiv (2 ^ min 12 IntKind.i64.bits))).tmod 16)=1
   ·have z0:(0:Int)≤0:=by omega
    have z1:(0:Int)<(L.length:Int):=by omega
    have z2:0<L.length:=by omega
    have z3:1≤L.length:=z2
    have AA:∀z∈L.set 0 4611686018427387904,Rg z:=fun z hz=>(List.mem_or_eq_of_mem_set hz).elim (hL z) fun e=>by rw[e];exact⟨by omega,by omega⟩
    have xG:dJ (bC L) 0 [.v (.int .u64 4611686018427387904)] 1=bC (L.set 0 4611686018427387904):=by
     cases L with
     | nil=>simp at z2
     | cons a L=>simp[dJ,bC,rC]
    simp only[Z8,seval,hI,bf d0,bt d1,z0,z1,z3,xG,Int.toNat_zero,Nat.zero_mul];exact⟨_,by apply eK;rfl;all_goals simp only[aE,Z8,seval,hI,bP,sV,bG,uZ,dY]<;>rfl,⟨(nd v.ns i).block.dS.pj,_⟩,L.set 0 4611686018427387904,rfl,by simp only[ov,List.length_set],by rw[List.length_set];omega,AA,rc1⟩
   simp only[Z8,seval,hI,bf d0,bf d1];exact⟨_,by apply eK;rfl;all_goals simp only[aE,Z8,seval,hI,bP,sV,bG,uZ,dY]<;>rfl,⟨(nd v.ns i).block.dS.pj,_⟩,L,rfl,rfl,by omega,hL,rc1⟩
 simp only[Z8,seval,h.sd.tree,gT,hi,m1,m2,bt c0,Ma,Qd];refine cH (fun m st=>∃(j:Nat) (X:AV) (L:List Int),(st.env 1=.v (.int .i64 k)∧st.env 2=.ptr 2 0 0∧st.heap 2 0=some (.cells (aB s))∧st.env 4=.ptr 4 0 0∧st.heap 4 0=some (.cells (cA iT))∧st.env 6=.ptr 6 0 0∧st.heap 6 0=some (.cells (cA ⟨c2,X⟩))∧st.env 7=.v (.int .i64 j))∧((X=.v (.slice none 0 0)∧L=[])∨∃g,X=.own 55 g∧g<st.aQ 55∧st.heap 55 g=some (.row 23 1 L.length (bC L)))∧(∀y∈L,Rg y)∧L.length=j∧j≤(ol v.B).length∧m=(ol v.B).length-j)
  (fun e st=>e=.exit 0∧∃(g:Nat) (L:List Int),(st.env 1=.v (.int .i64 k)∧st.env 2=.ptr 2 0 0∧st.heap 2 0=some (.cells (aB s))∧st.env 4=.ptr 4 0 0∧st.heap 4 0=some (.cells (cA iT))∧st.env 6=.ptr 6 0 0∧st.heap 6 0=some (.cells (cA ⟨c2,.own 55 g⟩))∧st.heap 55 g=some (.row 23 1 L.length (bC L)))∧(∀y∈L,Rg y)∧L.length=(ol v.B).length) (ol v.B).length ?step ?start ?rest
 case step =>
  rintro m st ⟨j,X,L,hI,hX,hL,hj,hjB,hm⟩
  by_cases bB:(j:Int)<(ol v.B).length
  ·have q0:(0:Int)≤j:=by omega
   have hw:IntKind.i64.wrap ((j:Int)+1)=((j+1:Nat):Int):=by rw[qA _ (by omega) (by omega)];omega
   have nL:(L.length:Int)<1000000:=by omega
   obtain⟨y,hy9⟩:∃y,IntKind.u64.wrap ((k.fdiv (2 ^ min (IntKind.u64.wrap (j:Int)).toNat IntKind.i64.bits)).tmod 50)=y:=⟨_,rfl⟩
   have ry:Rg y:=by rw[← hy9];exact jT _
   have AA:∀z∈L++[y],Rg z:=fun z hz=>(List.mem_append.1 hz).elim (hL z) fun e=>by rw[List.mem_singleton] at e;rw[e];exact ry
   have Pl:(L++[y]).length=j+1:=by rw[List.length_append,List.length_cons,List.length_nil];omega
   rcases hX with ⟨rfl,rfl⟩|⟨g,rfl,hg,hh⟩
   ·apply oN ((ol v.B).length-(j+1))
    ·simp only[Z8,seval,hI,bB,q0,h.sd.jI,wT,hy9,hw];rfl
    ·exact⟨j+1,_,[]++[y],⟨by simp only[E8,seval,hI],by simp only[E8,seval,hI],by simp only[E8,seval,hI],by simp only[E8,seval,hI],by simp only[E8,seval,hI],by simp only[E8,seval,hI],by simp only[E8,seval,hI]<;>rfl,by simp only[E8,seval]⟩,.inr ⟨_,rfl,by simp only[E8,seval]<;>omega,by simp only[E8,seval]<;>rfl⟩,AA,Pl,by omega,rfl⟩
   ·have vC:(g=st.aQ 55)=False:=eq_false (by omega)
    apply oN ((ol v.B).length-(j+1))
    ·simp only[Z8,seval,hI,hh,vC,bB,q0,h.sd.jI,wT,hy9,hw,xJ _ _ _ _ nL];rfl
    ·exact⟨j+1,_,L++[y],⟨by simp only[E8,seval,hI],by simp only[E8,seval,hI],by simp only[E8,seval,hI],by simp only[E8,seval,hI],by simp only[E8,seval,hI],by simp only[E8,seval,hI],by simp only[E8,seval,hI]<;>rfl,by simp only[E8,seval]⟩,.inr ⟨_,rfl,by simp only[E8,seval]<;>omega,by simp only[E8,seval]<;>rfl⟩,AA,Pl,by omega,rfl⟩
  ·rcases hX with ⟨rfl,rfl⟩|⟨g,rfl,hg,hh⟩
   ·simp at hj;omega
   ·apply oT (.exit 0)
    ·simp only[Z8,seval,hI,bB,h.sd.jI];rfl
    ·exact⟨rfl,g,L,by simp only[E8,seval,hI,hh],hL,by omega⟩
 case start=>exact⟨0,_,[],by and_intros<;>(simp only[E8,seval]<;>rfl),.inl ⟨rfl,rfl⟩,by simp,rfl,by omega,by omega⟩
 case rest =>
  rintro e st ⟨rfl,g,L,hI,hL,hlL⟩
  have nL:(L.length:Int)<1000000:=by omega
  by_cases d0:((((k).fdiv (2 ^ min 12 IntKind.i64.bits))).tmod 16)=0
  ·have AA:∀z∈L++[(1:Int)],Rg z:=fun z hz=>(List.mem_append.1 hz).elim (hL z) fun e=>by rw[List.mem_singleton] at e;rw[e];exact⟨by omega,by omega⟩
   simp only[Z8,seval,hI,bt d0,xJ _ _ _ _ nL];exact⟨_,by apply eK;rfl;all_goals simp only[aE,Z8,seval,hI,bP,sV,bG,uZ,dY]<;>rfl,⟨c2,_⟩,L++[1],rfl,rfl,by rw[List.length_append,List.length_cons,List.length_nil];omega,AA,rc2⟩
  by_cases d1:((((k).fdiv (2 ^ min 12 IntKind.i64.bits))).tmod 16)=1
  ·have z0:(0:Int)≤0:=by omega
   have z1:(0:Int)<(L.length:Int):=by omega
   have z2:0<L.length:=by omega
   have z3:1≤L.length:=z2
   have AA:∀z∈L.set 0 4611686018427387904,Rg z:=fun z hz=>(List.mem_or_eq_of_mem_set hz).elim (hL z) fun e=>by rw[e];exact⟨by omega,by omega⟩
   have xG:dJ (bC L) 0 [.v (.int .u64 4611686018427387904)] 1=bC (L.set 0 4611686018427387904):=by
    cases L with
    | nil=>simp at z2
    | cons a L=>simp[dJ,bC,rC]
   simp only[Z8,seval,hI,bf d0,bt d1,z0,z1,z3,xG,Int.toNat_zero,Nat.zero_mul];exact⟨_,by apply eK;rfl;all_goals simp only[aE,Z8,seval,hI,bP,sV,bG,uZ,dY]<;>rfl,⟨c2,_⟩,L.set 0 4611686018427387904,rfl,by simp only[ov,List.length_set],by rw[List.length_set];omega,AA,rc2⟩
  simp only[Z8,seval,hI,bf d0,bf d1];exact⟨_,by apply eK;rfl;all_goals simp only[aE,Z8,seval,hI,bP,sV,bG,uZ,dY]<;>rfl,⟨c2,_⟩,L,rfl,rfl,by omega,hL,rc2⟩
structure TD (t:State) (v:SV) (Q R:Option (List Request)):Prop where
 sd:SD t.store v
 Bx:t.dQ=ov aA Q
 ret:t.mV=ov aA R
 nQ:((ol Q).length:Int)<900000
 nR:((ol R).length:Int)<900000
theorem TD.fl {t:State} {v:SV} {Q R:Option (List Request)} (h:TD t v Q R):Flat t.store.cFg.jI∧Flat t.store.fV.dV∧Flat t.store.fV.gU∧Flat t.store.dM.early∧Flat t.store.dM.bU∧Flat t.store.tree.nodes∧Flat t.store.tables∧Flat t.dQ∧Flat t.mV:=by
 obtain⟨h1,h2,h3,h4,h5,h6,h7⟩:=h.sd.fl
 exact⟨h1,h2,h3,h4,h5,h6,h7,by rw[h.Bx];exact dF Q,by rw[h.ret];exact dF R⟩
theorem TD.flat {t:State} {v:SV} {Q R:Option (List Request)} (h:TD t v Q R):Flat (.agg (aI t)):=(lO t).2 h.fl
def xK (ns:List Node) (r:cM):Prop:=0≤aM ns r∧(nd ns (aM ns r)).status=0
theorem c85 {t:State} {v:SV} {Q R:Option (List Request)} (h:TD t v Q R) (r:cM):aC Tryz.prog 85 [.agg (aI t),.agg (aZ r)]=some (.v (.bool (decide (xK v.ns r)))):=by
 have hr:=dW v.ns r
 rw[cL Tryz.func85 rfl aPf rfl];refine jR ?_
 by_cases g1:0≤aM v.ns r
 ·by_cases g2:(nd v.ns (aM v.ns r)).status=0
  ·simp only[Z8,seval,h.sd.tree,jA _ _ h.sd.nn,g1,hr.2,bt g2];exact⟨_,bT rfl (by simp only[E8,seval]<;>rfl) (by first|exact .v _|simp only[dY]),by simp[xK,g1,g2]⟩
  ·simp only[Z8,seval,h.sd.tree,jA _ _ h.sd.nn,g1,hr.2,bf g2];exact⟨_,bT rfl (by simp only[E8,seval]<;>rfl) (by first|exact .v _|simp only[dY]),by simp[xK,g1,g2]⟩
 ·simp only[Z8,seval,h.sd.tree,jA _ _ h.sd.nn,g1];exact⟨_,bT rfl (by simp only[E8,seval]<;>rfl) (by first|exact .v _|simp only[dY]),by simp[xK,g1]⟩
theorem k85 {t:State} {v:SV} {Q R:Option (List Request)} (h:TD t v Q R) (r:cM) (st:St) (d:Option Nat):aN (aC Tryz.prog) 85 [.agg (aI t),.agg (aZ r)] st d=some { dst:=d,val:=.v (.bool (decide (xK v.ns r)))}:=kx (c85 h r) (bE h.flat (rH r)) (.v _) st d
def aFm (t:State) (L:List Request) (r:cM) (n:Int):State:={ t with dQ:=ov aA (some (L++[⟨⟨t.cJ⟩,r,n,0⟩])),cJ:=IntKind.u64.wrap (t.cJ+1)}
theorem c86 {t:State} {v:SV} {Q R:Option (List Request)} (h:TD t v Q R) (r:cM) (n:Int):aC Tryz.prog 86 [.agg (aI t),.agg (aZ r),.v (.int .i64 n)]=some (.agg (aI (aFm t (ol Q) r n))):=by
 have jJ:=h.fl
 have nq:((ol Q).length:Int)<1000000:=by have:=h.nQ;omega
 rw[cL Tryz.func86 rfl aPg rfl];refine jR ?_
 simp only[Z8,seval,h.Bx,qN _ nq,sX _ _ _ _ nq];exact⟨_,by apply eK;rfl;all_goals simp only[aE,Z8,seval,jJ,bP,vF,gI,bG,cX,pB,dY]<;>rfl,rfl⟩
noncomputable def pC (ns:List Node) (l:List Request):List Request:=l.filter fun r=>decide (0≤aM ns r.block)
theorem c91 {t:State} {v:SV} {Q R:Option (List Request)} (h:TD t v Q R) (o:Option (List Request)) (hn:((ol o).length:Int)<1000000):aC Tryz.prog 91 [.agg (aI t),ov aA o]=some (Mv 63 35 aA (pC v.ns (ol o))):=by
 rw[cL Tryz.func91 rfl aPh (by cases o<;>rfl)]
 refine jR ?_
 simp only[Z8,seval];refine cH (fun m st=>∃k:Nat,(st.env 2=.ptr 2 0 0∧st.heap 2 0=some (.cells (aI t))∧st.env 1=ov aA o∧st.env 6=.v (.int .i64 k))∧(((((ol o).take k).filter (fun r=>decide (0≤aM v.ns r.block)))=[]∧st.env 5=.v (.slice none 0 0))∨((((ol o).take k).filter (fun r=>decide (0≤aM v.ns r.block)))≠[]∧∃g,st.env 5=.own 29 g∧g<st.aQ 29∧st.heap 29 g=some (.row 63 35 (((ol o).take k).filter (fun r=>decide (0≤aM v.ns r.block))).length (aA (((ol o).take k).filter (fun r=>decide (0≤aM v.ns r.block)))))))∧k≤(ol o).length∧m=(ol o).length-k)
  (fun e st=>e=.exit 0∧(((((ol o).take (ol o).length).filter (fun r=>decide (0≤aM v.ns r.block)))=[]∧st.env 5=.v (.slice none 0 0))∨((((ol o).take (ol o).length).filter (fun r=>decide (0≤aM v.ns r.block)))≠[]∧∃g,st.env 5=.own 29 g∧g<st.aQ 29∧st.heap 29 g=some (.row 63 35 (((ol o).take (ol o).length).filter (fun r=>decide (0≤aM v.ns r.block))).length (aA (((ol o).take (ol o).length).filter (fun r=>decide (0≤aM v.ns r.block)))))))∧st.env 2=.ptr 2 0 0∧st.heap 2 0=some (.cells (aI t))∧st.env 1=ov aA o) ((ol o).length) ?step ?start ?rest
 case step =>
  rintro m st ⟨k,hI,h5,hk,hm⟩
  have Fz:(((((ol o).take k).filter (fun r=>decide (0≤aM v.ns r.block))).length:Nat):Int)<1000000:=by have:=List.length_filter_le (fun r=>decide (0≤aM v.ns r.block)) ((ol o).take k);have h2:=List.length_take_le' k (ol o);omega
  by_cases bB:(k:Int)<(ol o).length
  ·have q0:(0:Int)≤k:=by omega
   have hw:IntKind.i64.wrap ((k:Int)+1)=((k+1:Nat):Int):=by rw[qA _ (by omega) (by omega)];omega
   have hs:=xW bW (fun r=>decide (0≤aM v.ns r.block)) (ol o) k (by omega)
   by_cases hh:0≤aM v.ns (gx bW (ol o) (k:Int)).block
   ·rw[if_pos (decide_eq_true hh)] at hs;rcases h5 with ⟨hy,h5⟩|⟨hy,g,h5⟩
    ·rw[hy] at hs;apply oN ((ol o).length-(k+1))
     ·simp only[Z8,seval,hI,h5,bB,hw,q0,h.sd.tree,jA _ _ h.sd.nn,hh];rfl
     ·exact⟨k+1,by simp only[E8,seval,hI],.inr ⟨by rw[hs];simp,_,by simp only[E8,seval]<;>rfl,(by simp only[E8,seval]<;>omega),(by rw[hs];simp only[E8,seval]<;>rfl)⟩,by omega,rfl⟩
    ·apply oN ((ol o).length-(k+1))
     ·simp only[Z8,seval,hI,h5,Fz,bB,hw,q0,h.sd.tree,jA _ _ h.sd.nn,hh];rfl
     ·exact⟨k+1,by simp only[E8,seval,hI],.inr ⟨by rw[hs];simp,_,by simp only[E8,seval]<;>rfl,(by simp only[E8,seval]<;>omega),(by rw[hs];simp only[E8,seval]<;>rfl)⟩,by omega,rfl⟩
   ·rw[if_neg (by simpa using hh),List.append_nil] at hs
    apply oN ((ol o).length-(k+1))
    ·simp only[Z8,seval,hI,bB,hw,q0,h.sd.tree,jA _ _ h.sd.nn,hh];rfl
    ·exact⟨k+1,by simp only[E8,seval,hI],by rw[hs];simpa only[E8,seval] using h5,by omega,rfl⟩
  ·have Fy:k=(ol o).length:=by omega
   rw[Fy] at h5;apply oT (.exit 0)
   ·simp only[Z8,seval,hI,bB];rfl
   ·exact⟨rfl,by simpa only[E8,seval] using h5,by simp only[E8,seval,hI]⟩
 case start=>exact⟨0,by simp only[E8,seval]<;>rfl,.inl ⟨rfl,by simp only[E8,seval]⟩,by omega,by omega⟩
 case rest =>
  rintro e st ⟨rfl,⟨hy,h5⟩|⟨hy,g,h5,hg,zT⟩,hI⟩
  ·rw[List.take_length] at hy;rw[show Mv 63 35 aA (pC v.ns (ol o))=.v (.slice none 0 0) from if_pos hy];simp only[Z8,seval,h5];exact⟨_,bT rfl (by simp only[E8,seval,h5]<;>rfl) (by first|exact .v _|simp only[dY,h5]),rfl⟩
  ·rw[List.take_length] at hy zT;rw[show Mv 63 35 aA (pC v.ns (ol o))=.uniq 63 35 (pC v.ns (ol o)).length (aA (pC v.ns (ol o))) from if_neg hy];simp only[Z8,seval,h5];exact⟨_,sF rfl (by simp only[E8,seval,h5]<;>rfl) (by simp only[E8,seval,zT]<;>rfl) (jQ _),rfl⟩
noncomputable def SS (t:State) (v:SV) (Q R:Option (List Request)):State:={ t with dQ:=ov aA (nz (pC v.ns (ol Q))),mV:=ov aA (nz (pC v.ns (ol R)))}
theorem c36 {t:State} {v:SV} {Q R:Option (List Request)} (h:TD t v Q R):aC Tryz.prog 36 [.agg (aI t)]=some (.agg (aI (SS t v Q R))):=by
 have jJ:=h.fl
 have hf:=h.flat
 have cQ:=c91 h Q (by have:=h.nQ;omega)
 have cR:=c91 h R (by have:=h.nR;omega)
 rw[cL Tryz.func36 rfl aPi rfl];refine jR ?_
 by_cases e1:pC v.ns (ol Q)=[]
 ·rw[show Mv 63 35 aA (pC v.ns (ol Q))=.v (.slice none 0 0) from if_pos e1] at cQ;have z1:nz (pC v.ns (ol Q))=none:=if_pos e1
  have kQ:=kx cQ (bE hf (dF Q)) (.v _)
  by_cases e2:pC v.ns (ol R)=[]
  ·rw[show Mv 63 35 aA (pC v.ns (ol R))=.v (.slice none 0 0) from if_pos e2] at cR;have z2:nz (pC v.ns (ol R))=none:=if_pos e2
   have kR:=kx cR (bE hf (dF R)) (.v _)
   simp only[Z8,seval,h.Bx,h.ret,kQ,kR];exact⟨_,fF rfl (by simp only[E8,seval,jJ]<;>rfl) (by simp only[Z8,seval,jJ]<;>rfl) (by simp only[dY,and_self,jJ]),by unfold SS;rw[z1,z2];rfl⟩
  ·rw[show Mv 63 35 aA (pC v.ns (ol R))=.uniq 63 35 (pC v.ns (ol R)).length (aA (pC v.ns (ol R))) from if_neg e2] at cR;have z2:nz (pC v.ns (ol R))=some (pC v.ns (ol R)):=if_neg e2
   have kR:∀(st:St) (d:Nat),aN (aC Tryz.prog) 91 [.agg (aI t),ov aA R] st (some d)=_:=fun st d=>jB (st:=st) (d:=d) (bE hf (dF R)) cR
   simp only[Z8,seval,h.Bx,h.ret,kQ,kR];exact⟨_,by apply eK;rfl;all_goals simp only[aE,Z8,seval,jJ,bP,vF,gI,bG,cX,pB,dY]<;>rfl,by unfold SS;rw[z1,z2];rfl⟩
 ·rw[show Mv 63 35 aA (pC v.ns (ol Q))=.uniq 63 35 (pC v.ns (ol Q)).length (aA (pC v.ns (ol Q))) from if_neg e1] at cQ;have z1:nz (pC v.ns (ol Q))=some (pC v.ns (ol Q)):=if_neg e1
  have kQ:∀(st:St) (d:Nat),aN (aC Tryz.prog) 91 [.agg (aI t),ov aA Q] st (some d)=_:=fun st d=>jB (st:=st) (d:=d) (bE hf (dF Q)) cQ
  by_cases e2:pC v.ns (ol R)=[]
  ·rw[show Mv 63 35 aA (pC v.ns (ol R))=.v (.slice none 0 0) from if_pos e2] at cR;have z2:nz (pC v.ns (ol R))=none:=if_pos e2
   have kR:=kx cR (bE hf (dF R)) (.v _)
   simp only[Z8,seval,h.Bx,h.ret,kQ,kR];exact⟨_,by apply eK;rfl;all_goals simp only[aE,Z8,seval,jJ,bP,vF,gI,bG,cX,pB,dY]<;>rfl,by unfold SS;rw[z1,z2];rfl⟩
  ·rw[show Mv 63 35 aA (pC v.ns (ol R))=.uniq 63 35 (pC v.ns (ol R)).length (aA (pC v.ns (ol R))) from if_neg e2] at cR;have z2:nz (pC v.ns (ol R))=some (pC v.ns (ol R)):=if_neg e2
   have kR:∀(st:St) (d:Nat),aN (aC Tryz.prog) 91 [.agg (aI t),ov aA R] st (some d)=_:=fun st d=>jB (st:=st) (d:=d) (bE hf (dF R)) cR
   simp only[Z8,seval,h.Bx,h.ret,kQ,kR];exact⟨_,by apply eK;rfl;all_goals simp only[aE,Z8,seval,jJ,bP,vF,gI,bG,cX,pB,dY]<;>rfl,by unfold SS;rw[z1,z2];rfl⟩
theorem TD.drp {t:State} {v:SV} {Q R:Option (List Request)} (h:TD t v Q R):TD (SS t v Q R) v (nz (pC v.ns (ol Q))) (nz (pC v.ns (ol R))):=by
 have h1:=List.length_filter_le (fun r:Request=>decide (0≤aM v.ns r.block)) (ol Q)
 have h2:=List.length_filter_le (fun r:Request=>decide (0≤aM v.ns r.block)) (ol R)
 refine⟨h.sd,rfl,rfl, ?_, ?_⟩
 ·rw[oO];have:=h.nQ;unfold pC;omega
 ·rw[oO];have:=h.nR;unfold pC;omega
noncomputable def QS (ns:List Node) (p:Option (List Request) × Int) (r:cM):Option (List Request) × Int:=if xK ns r then (some (ol p.1++[⟨⟨p.2⟩,r,0,0⟩]),IntKind.u64.wrap (p.2+1)) else p
noncomputable def Kt (ns:List Node) (p:Option (List Request) × Int) (l:List cM):Option (List Request) × Int:=l.foldl (QS ns) p
theorem L9 (ns:List Node) (a:Option (List Request) × Int) (l:List cM) (k:Nat) (h:k<l.length):Kt ns a (l.take (k+1))=QS ns (Kt ns a (l.take k)) (gx dK l k):=by
 unfold Kt;rw[List.take_succ_eq_append_getElem h,List.foldl_append];simp[gx,h]
def FI (t:State) (p:Option (List Request) × Int):State:={ t with dQ:=ov aA p.1,cJ:=p.2 }
theorem TD.FI {t:State} {v:SV} {Q R:Option (List Request)} (h:TD t v Q R) (p:Option (List Request) × Int) (hn:((ol p.1).length:Int)<900000):TD (FI t p) v p.1 R:=⟨h.sd,rfl,h.ret,hn,h.nR⟩
theorem aFn {t:State} {v:SV} {Q R:Option (List Request)} (h:TD t v Q R):Tryz.FI t (Q,t.cJ)=t:=by unfold Tryz.FI;simp only;rw[← h.Bx]
theorem aBo (ns:List Node) (p:Option (List Request) × Int) (r:cM):(ol (QS ns p r).1).length≤(ol p.1).length+1:=by
 unfold QS;split
 ·show (ol p.1++[_]).length≤_;rw[List.length_append,List.length_cons,List.length_nil];omega
 ·omega
theorem XJ (ns:List Node) (p:Option (List Request) × Int) (l:List cM):(ol (Kt ns p l).1).length≤(ol p.1).length+l.length:=by
 induction l generalizing p with
 | nil=>exact Nat.le_refl _
 | cons r l ih=>have h1:=ih (QS ns p r);have h2:=aBo ns p r;rw[List.length_cons];show (ol (Kt ns (QS ns p r) l).1).length≤_;omega
theorem c32 {t:State} {v:SV} {Q R:Option (List Request)} (h:TD t v Q R) (L:Option (List cM)) (hn:((ol Q).length:Int)+(ol L).length<800000):aC Tryz.prog 32 [.agg (aI t),ov gJ L]=some (.agg (aI (Tryz.FI t (Kt v.ns (Q,t.cJ) (ol L))))):=by
 have hT:∀k:Nat,k≤(ol L).length→TD (Tryz.FI t (Kt v.ns (Q,t.cJ) ((ol L).take k))) v (Kt v.ns (Q,t.cJ) ((ol L).take k)).1 R:=fun k hk=>h.FI _ (by
  have:=XJ v.ns (Q,t.cJ) ((ol L).take k);rw[List.length_take] at this;have e:ol (Q,t.cJ).1=ol Q:=rfl;rw[e] at this;omega)
 rw[cL Tryz.func32 rfl aPj (by cases L<;>rfl)]
 refine jR ?_
 simp only[Z8,seval];refine cH (fun m st=>∃k:Nat,(st.env 1=ov gJ L∧st.env 2=.ptr 2 0 0∧st.heap 2 0=some (.cells (aI (Tryz.FI t (Kt v.ns (Q,t.cJ) ((ol L).take k)))))∧st.env 4=.ptr 4 0 0∧st.heap 4 0=some (.cells (aI gP))∧st.env 5=.v (.int .i64 k))∧k≤(ol L).length∧m=(ol L).length-k)
  (fun e st=>e=.exit 0∧(st.env 2=.ptr 2 0 0∧st.heap 2 0=some (.cells (aI (Tryz.FI t (Kt v.ns (Q,t.cJ) (ol L)))))∧st.env 4=.ptr 4 0 0∧st.heap 4 0=some (.cells (aI gP)))) (ol L).length ?step ?start ?rest
 case step =>
  rintro m st ⟨k,hI,hk,hm⟩
  by_cases bB:(k:Int)<(ol L).length
  ·have q0:(0:Int)≤k:=by omega
   have hw:IntKind.i64.wrap ((k:Int)+1)=((k+1:Nat):Int):=by rw[qA _ (by omega) (by omega)];omega
   have hs:=L9 v.ns (Q,t.cJ) (ol L) k (by omega)
   have hTk:=hT k hk
   have o6:=k85 hTk (gx dK (ol L) (k:Int))
   by_cases g1:xK v.ns (gx dK (ol L) (k:Int))
   ·have SU:=hT (k+1) (by omega)
    have k86':=kx (c86 hTk (gx dK (ol L) (k:Int)) 0) (lN hTk.flat (rH _) (.v _)) (by
     have:aFm (Tryz.FI t (Kt v.ns (Q,t.cJ) ((ol L).take k))) (ol (Kt v.ns (Q,t.cJ) ((ol L).take k)).1) (gx dK (ol L) (k:Int)) 0=Tryz.FI t (Kt v.ns (Q,t.cJ) ((ol L).take (k+1))):=by rw[hs,QS,if_pos g1];rfl
     rw[this];exact SU.flat)
    have he:aFm (Tryz.FI t (Kt v.ns (Q,t.cJ) ((ol L).take k))) (ol (Kt v.ns (Q,t.cJ) ((ol L).take k)).1) (gx dK (ol L) (k:Int)) 0=Tryz.FI t (Kt v.ns (Q,t.cJ) ((ol L).take (k+1))):=by rw[hs,QS,if_pos g1];rfl
    rw[he] at k86'
    apply oN ((ol L).length-(k+1))
    ·simp only[Z8,seval,hI,bB,q0,o6,g1,k86',hw];rfl
    ·exact⟨k+1,by simp only[E8,seval,hI],by omega,rfl⟩
   ·rw[QS,if_neg g1] at hs;apply oN ((ol L).length-(k+1))
    ·simp only[Z8,seval,hI,bB,q0,o6,g1,hw];rfl
    ·exact⟨k+1,by simp only[E8,seval,hI,hs],by omega,rfl⟩
  ·have Fy:k=(ol L).length:=by omega
   rw[Fy,List.take_length] at hI;apply oT (.exit 0)
   ·simp only[Z8,seval,hI,Int.lt_irrefl];rfl
   ·exact⟨rfl,by simp only[E8,seval,hI]⟩
 case start=>exact⟨0,by rw[List.take_zero,show Kt v.ns (Q,t.cJ) []=(Q,t.cJ) from rfl,aFn h];simp only[E8,seval]<;>rfl,by omega,by omega⟩
 case rest =>
  rintro e st ⟨rfl,hI⟩
  have SU:=(hT (ol L).length (Nat.le_refl _)).fl
  rw[List.take_length] at SU;simp only[Z8,seval,hI];exact⟨_,fF rfl (by simp only[E8,seval,hI,SU]<;>rfl) (by simp only[Z8,seval,hI,SU]<;>rfl) (by simp only[dY,and_self,hI,SU]),rfl⟩
noncomputable def LN (b:Int):Nat→Int→Int
 | 0,d=>d
 | n+1,d=>if IntKind.u64.wrap (b-d)≤d then b else LN b n (IntKind.u64.wrap (2 * d))
noncomputable def SW (n b:Int):Int:=if b=0 then 0 else LN b (n-1).toNat 1
theorem aPl (n b:Int) (hn:n≤9223372036854775807):aC Tryz.prog 143 [.v (.int .i64 n),.v (.int .u64 b)]=some (.v (.int .u64 (SW n b))):=by
 rw[cL Tryz.func143 rfl aKL rfl];refine jR ?_
 by_cases g0:b=0
 ·simp only[Z8,seval,bt g0];exact⟨_,bT rfl (by simp only[E8,seval]<;>rfl) (by first|exact .v _|simp only[dY]),by rw[SW,if_pos g0]⟩
 simp only[Z8,seval,bf g0];refine cH (fun m st=>∃(k:Nat) (d i:Int),(st.env 0=.v (.int .i64 n)∧st.env 1=.v (.int .u64 b)∧st.env 5=.v (.int .u64 d)∧st.env 6=.v (.int .i64 i))∧i=k+1∧LN b ((n-1).toNat-k) d=LN b (n-1).toNat 1∧k≤(n-1).toNat∧m=(n-1).toNat-k)
  (fun e st=>(e=.ret∧st.env 4=.v (.int .u64 (LN b (n-1).toNat 1)))∨(e=.exit 0∧st.env 5=.v (.int .u64 (LN b (n-1).toNat 1)))) (n-1).toNat ?step ?start ?rest
 case step =>
  rintro m st ⟨k,d,i,hI,hi,hd,hk,hm⟩
  by_cases bB:i<n
  ·have hw:IntKind.i64.wrap (i+1)=i+1:=qA _ (by omega) (by omega)
   have e1:(n-1).toNat-k=((n-1).toNat-(k+1))+1:=by omega
   rw[e1,LN] at hd;by_cases g1:IntKind.u64.wrap (b-d)≤d
   ·rw[if_pos g1] at hd;apply oT (.ret)
    ·simp only[Z8,seval,hI,bB,g1];rfl
    ·exact .inl ⟨rfl,by rw[← hd];simp only[E8,seval]⟩
   ·rw[if_neg g1] at hd;apply oN ((n-1).toNat-(k+1))
    ·simp only[Z8,seval,hI,bB,g1,hw];rfl
    ·exact⟨k+1,_,i+1,by and_intros<;>(simp only[E8,seval,hI]<;>rfl),by omega,hd,by omega,rfl⟩
  ·have e1:(n-1).toNat-k=0:=by omega
   rw[e1,LN] at hd;apply oT (.exit 0)
   ·simp only[Z8,seval,hI,bB];rfl
   ·exact .inr ⟨rfl,by rw[← hd];simp only[E8,seval,hI]⟩
 case start=>exact⟨0,1,1,by and_intros<;>(simp only[E8,seval]<;>rfl),rfl,rfl,by omega,by omega⟩
 case rest =>
  rintro e st (⟨rfl,h⟩|⟨rfl,h⟩)
  ·simp only[Z8,seval,h];exact⟨_,bT rfl (by simp only[E8,seval,h]<;>rfl) (by first|exact .v _|simp only[dY,h]),by rw[SW,if_neg g0]⟩
  ·simp only[Z8,seval,h];exact⟨_,bT rfl (by simp only[E8,seval,h]<;>rfl) (by first|exact .v _|simp only[dY,h]),by rw[SW,if_neg g0]⟩
theorem aPm (n b:Int) (hn:n≤9223372036854775807) (st:St) (d:Option Nat):aN (aC Tryz.prog) 143 [.v (.int .i64 n),.v (.int .u64 b)] st d=some { dst:=d,val:=.v (.int .u64 (SW n b))}:=kx (aPl n b hn) (bE (.v _) (.v _)) (.v _) st d
theorem x37 {s:aP} {v:SV} {q:Int} (h:GI s v q) (r:RG s v) (hB:0<(ol v.B).length∧(ol v.B).length≤64) (k:Int) (hk:0≤k):∃x,aC Tryz.prog 37 [.agg (aB s),.v (.int .i64 k)]=some x∧∃(a:rQ) (V:List Int),x=.agg (gV a)∧a.eU=ov aK (some V)∧(V.length:Int)≤1000∧Rg a.slot∧Rg a.target.aL:=by
 have hn:=h.sd.nn
 have hp:(0:Int)<(v.ns.length:Int):=by have:=h.pos;omega
 have gT:¬((v.ns.length:Int)=0):=by omega
 obtain⟨m1,m2⟩:=eJ (n:=(v.ns.length:Int)) hk hp
 obtain⟨i,hi⟩:∃i,k.tmod (v.ns.length:Int)=i:=⟨_,rfl⟩
 rw[hi] at m1 m2;obtain⟨m3,m4⟩:=eJ (n:=(v.ns.length:Int)) (Af hk (min 4 IntKind.i64.bits)) hp
 have Ma:=h.sp
 obtain⟨l,kl,hl⟩:=k45 (ol v.B).length ((k).fdiv (2 ^ min 3 IntKind.i64.bits)) (by omega) (by omega)
 have nl:(l.length:Int)<1000000:=by omega
 have rn:Rg s.now:=⟨r.now.1,by have:=r.now.2;omega⟩
 rw[cL Tryz.func37 rfl aPn rfl];by_cases g1:0<((((k).fdiv (2 ^ min 9 IntKind.i64.bits))).tmod 4)
 case neg =>
  obtain⟨y,hy,c,rfl,rc⟩:=x92 h r i (IntKind.u64.wrap ((s.now).tdiv s.cFg.qK)) (jT _)
  have Qd:=kx hy (lN h.sd.flat (.v _) (.v _)) (.agg _ (dA _))
  by_cases d0:((((k).fdiv (2 ^ min 12 IntKind.i64.bits))).tmod 20)=0
  ·simp only[Z8,seval,h.sd.tree,h.sd.jI,gT,hi,m1,m2,kl,g1,Ma,Qd,bt d0];exact⟨_,by apply eK;rfl;all_goals simp only[aE,Z8,seval,bP,lS,bG,cX,jS,dY]<;>rfl,_,l,rfl,rfl,by omega,rn,jT _⟩
  by_cases d1:((((k).fdiv (2 ^ min 12 IntKind.i64.bits))).tmod 20)=1
  ·simp only[Z8,seval,h.sd.tree,h.sd.jI,gT,hi,m1,m2,kl,g1,Ma,Qd,bf d0,bt d1,Po];exact⟨_,by apply eK;rfl;all_goals simp only[aE,Z8,seval,bP,lS,bG,cX,jS,dY]<;>rfl,_,l,rfl,rfl,by omega,rn,rc⟩
  by_cases d2:((((k).fdiv (2 ^ min 12 IntKind.i64.bits))).tmod 20)=2
  ·simp only[Z8,seval,h.sd.tree,h.sd.jI,gT,hi,m1,m2,kl,g1,Ma,Qd,bf d0,bf d1,bt d2,m3,m4];exact⟨_,by apply eK;rfl;all_goals simp only[aE,Z8,seval,bP,lS,bG,cX,jS,dY]<;>rfl,_,l,rfl,rfl,by omega,rn,rc⟩
  by_cases d3:((((k).fdiv (2 ^ min 12 IntKind.i64.bits))).tmod 20)=3
  ·simp only[Z8,seval,h.sd.tree,h.sd.jI,gT,hi,m1,m2,kl,g1,Ma,Qd,bf d0,bf d1,bf d2,bt d3];exact⟨_,by apply eK;rfl;all_goals simp only[aE,Z8,seval,bP,lS,bG,cX,jS,dY]<;>rfl,_,l,rfl,rfl,by omega,jT _,rc⟩
  by_cases d4:((((k).fdiv (2 ^ min 12 IntKind.i64.bits))).tmod 20)=4
  ·simp only[Z8,seval,h.sd.tree,h.sd.jI,gT,hi,m1,m2,kl,g1,Ma,Qd,bf d0,bf d1,bf d2,bf d3,bt d4,Ec _ _ _ _ nl];exact⟨_,by apply eK;rfl;all_goals simp only[aE,Z8,seval,bP,lS,bG,cX,jS,dY]<;>rfl,_,l++[((((k).fdiv (2 ^ min 17 IntKind.i64.bits))).tmod 9)],rfl,rfl,by rw[List.length_append,List.length_cons,List.length_nil];omega,rn,rc⟩
  simp only[Z8,seval,h.sd.tree,h.sd.jI,gT,hi,m1,m2,kl,g1,Ma,Qd,bf d0,bf d1,bf d2,bf d3,bf d4];exact⟨_,by apply eK;rfl;all_goals simp only[aE,Z8,seval,bP,lS,bG,cX,jS,dY]<;>rfl,_,l,rfl,rfl,by omega,rn,rc⟩
 by_cases g2:0<s.now
 case neg =>
  obtain⟨y,hy,c,rfl,rc⟩:=x92 h r i (IntKind.u64.wrap ((s.now).tdiv s.cFg.qK)) (jT _)
  have Qd:=kx hy (lN h.sd.flat (.v _) (.v _)) (.agg _ (dA _))
  by_cases d0:((((k).fdiv (2 ^ min 12 IntKind.i64.bits))).tmod 20)=0
  ·simp only[Z8,seval,h.sd.tree,h.sd.jI,gT,hi,m1,m2,kl,g1,g2,Ma,Qd,bt d0];exact⟨_,by apply eK;rfl;all_goals simp only[aE,Z8,seval,bP,lS,bG,cX,jS,dY]<;>rfl,_,l,rfl,rfl,by omega,rn,jT _⟩
  by_cases d1:((((k).fdiv (2 ^ min 12 IntKind.i64.bits))).tmod 20)=1
  ·simp only[Z8,seval,h.sd.tree,h.sd.jI,gT,hi,m1,m2,kl,g1,g2,Ma,Qd,bf d0,bt d1,Po];exact⟨_,by apply eK;rfl;all_goals simp only[aE,Z8,seval,bP,lS,bG,cX,jS,dY]<;>rfl,_,l,rfl,rfl,by omega,rn,rc⟩
  by_cases d2:((((k).fdiv (2 ^ min 12 IntKind.i64.bits))).tmod 20)=2
  ·simp only[Z8,seval,h.sd.tree,h.sd.jI,gT,hi,m1,m2,kl,g1,g2,Ma,Qd,bf d0,bf d1,bt d2,m3,m4];exact⟨_,by apply eK;rfl;all_goals simp only[aE,Z8,seval,bP,lS,bG,cX,jS,dY]<;>rfl,_,l,rfl,rfl,by omega,rn,rc⟩
  by_cases d3:((((k).fdiv (2 ^ min 12 IntKind.i64.bits))).tmod 20)=3
  ·simp only[Z8,seval,h.sd.tree,h.sd.jI,gT,hi,m1,m2,kl,g1,g2,Ma,Qd,bf d0,bf d1,bf d2,bt d3];exact⟨_,by apply eK;rfl;all_goals simp only[aE,Z8,seval,bP,lS,bG,cX,jS,dY]<;>rfl,_,l,rfl,rfl,by omega,jT _,rc⟩
  by_cases d4:((((k).fdiv (2 ^ min 12 IntKind.i64.bits))).tmod 20)=4
  ·simp only[Z8,seval,h.sd.tree,h.sd.jI,gT,hi,m1,m2,kl,g1,g2,Ma,Qd,bf d0,bf d1,bf d2,bf d3,bt d4,Ec _ _ _ _ nl];exact⟨_,by apply eK;rfl;all_goals simp only[aE,Z8,seval,bP,lS,bG,cX,jS,dY]<;>rfl,_,l++[((((k).fdiv (2 ^ min 17 IntKind.i64.bits))).tmod 9)],rfl,rfl,by rw[List.length_append,List.length_cons,List.length_nil];omega,rn,rc⟩
  simp only[Z8,seval,h.sd.tree,h.sd.jI,gT,hi,m1,m2,kl,g1,g2,Ma,Qd,bf d0,bf d1,bf d2,bf d3,bf d4];exact⟨_,by apply eK;rfl;all_goals simp only[aE,Z8,seval,bP,lS,bG,cX,jS,dY]<;>rfl,_,l,rfl,rfl,by omega,rn,rc⟩
 obtain⟨y,hy,c,rfl,rc⟩:=x92 h r i (IntKind.u64.wrap ((IntKind.u64.wrap (s.now-1)).tdiv s.cFg.qK)) (jT _)
 have Qd:=kx hy (lN h.sd.flat (.v _) (.v _)) (.agg _ (dA _))
 by_cases d0:((((k).fdiv (2 ^ min 12 IntKind.i64.bits))).tmod 20)=0
 ·simp only[Z8,seval,h.sd.tree,h.sd.jI,gT,hi,m1,m2,kl,g1,g2,Ma,Qd,bt d0];exact⟨_,by apply eK;rfl;all_goals simp only[aE,Z8,seval,bP,lS,bG,cX,jS,dY]<;>rfl,_,l,rfl,rfl,by omega,jT _,jT _⟩
 by_cases d1:((((k).fdiv (2 ^ min 12 IntKind.i64.bits))).tmod 20)=1
 ·simp only[Z8,seval,h.sd.tree,h.sd.jI,gT,hi,m1,m2,kl,g1,g2,Ma,Qd,bf d0,bt d1,Po];exact⟨_,by apply eK;rfl;all_goals simp only[aE,Z8,seval,bP,lS,bG,cX,jS,dY]<;>rfl,_,l,rfl,rfl,by omega,jT _,rc⟩
 by_cases d2:((((k).fdiv (2 ^ min 12 IntKind.i64.bits))).tmod 20)=2
 ·simp only[Z8,seval,h.sd.tree,h.sd.jI,gT,hi,m1,m2,kl,g1,g2,Ma,Qd,bf d0,bf d1,bt d2,m3,m4];exact⟨_,by apply eK;rfl;all_goals simp only[aE,Z8,seval,bP,lS,bG,cX,jS,dY]<;>rfl,_,l,rfl,rfl,by omega,jT _,rc⟩
 by_cases d3:((((k).fdiv (2 ^ min 12 IntKind.i64.bits))).tmod 20)=3
 ·simp only[Z8,seval,h.sd.tree,h.sd.jI,gT,hi,m1,m2,kl,g1,g2,Ma,Qd,bf d0,bf d1,bf d2,bt d3];exact⟨_,by apply eK;rfl;all_goals simp only[aE,Z8,seval,bP,lS,bG,cX,jS,dY]<;>rfl,_,l,rfl,rfl,by omega,jT _,rc⟩
 by_cases d4:((((k).fdiv (2 ^ min 12 IntKind.i64.bits))).tmod 20)=4
 ·simp only[Z8,seval,h.sd.tree,h.sd.jI,gT,hi,m1,m2,kl,g1,g2,Ma,Qd,bf d0,bf d1,bf d2,bf d3,bt d4,Ec _ _ _ _ nl];exact⟨_,by apply eK;rfl;all_goals simp only[aE,Z8,seval,bP,lS,bG,cX,jS,dY]<;>rfl,_,l++[((((k).fdiv (2 ^ min 17 IntKind.i64.bits))).tmod 9)],rfl,rfl,by rw[List.length_append,List.length_cons,List.length_nil];omega,jT _,rc⟩
 simp only[Z8,seval,h.sd.tree,h.sd.jI,gT,hi,m1,m2,kl,g1,g2,Ma,Qd,bf d0,bf d1,bf d2,bf d3,bf d4];exact⟨_,by apply eK;rfl;all_goals simp only[aE,Z8,seval,bP,lS,bG,cX,jS,dY]<;>rfl,_,l,rfl,rfl,by omega,jT _,rc⟩
theorem iO {call:Nat→List AV→Option AV} {ops:Array Oper} {st:St} {T:Nat} {pos:String} {eN:Array Edge} (d:Nat):bZ Tryz.prog call ops ⟨some d,.buildSlice 22 6 #[(0,.const (.int .i64 1)),(1,.const (.int .i64 1)),(2,.const (.int .i64 2)),(3,.const (.int .i64 2)),(4,.const (.int .i64 3)),(5,.const (.int .i64 4))],T,pos,eN,none⟩ st =
 some ((st.new d (.row 3 1 6 (aK [1,1,2,2,3,4]))).put (some d) (.own d (st.aQ d))):=by
 rw[kU];simp[Kj,ze3,cD,St.ev,AV.jL,Value.oneCell',gM,AV.cells,List.range,List.range.loop,aK,pE]
theorem x25 {t:State} {v:SV} {Q R:Option (List Request)} {q:Int} (hT:TD t v Q R) (h:GI t.store v q) (hq:∀r∈ol Q,Rg r.tagged.tag) (k:Int) (hk:0≤k):∃x,aC Tryz.prog 25 [.agg (aI t),.v (.int .i64 k)]=some x∧∃w:eD,x=.agg (bN w)∧Rg w.tagged.tag:=by
 have hn:=h.sd.nn
 have hp:(0:Int)<(v.ns.length:Int):=by have:=h.pos;omega
 have gT:¬((v.ns.length:Int)=0):=by omega
 obtain⟨m1,m2⟩:=eJ (n:=(v.ns.length:Int)) hk hp
 obtain⟨j0,j1⟩:=eJ (n:=6) (Af hk (min 4 IntKind.i64.bits)) (by omega)
 obtain⟨j,hj⟩:∃j,((((k).fdiv (2 ^ min 4 IntKind.i64.bits))).tmod 6)=j:=⟨_,rfl⟩
 rw[hj] at j0 j1;have g6:=oZ (l:=[1,1,2,2,3,4]) j0 (by show j<((6:Nat):Int);omega)
 have fv:∀w:eD,Flat (.agg (bN w))=True:=fun w=>eq_true (.agg _ (gE w))
 have F7:=jT (k.tmod 9)
 rw[cG Tryz.func25 rfl aPo (by kernel_rfl) rfl]
 by_cases g1:(0:Int)<((ol Q).length:Int)
 case neg =>
  by_cases p0:0≤aM v.ns ((nd v.ns (k.tmod (v.ns.length:Int))).block.root)
  case neg =>
   have kp:=fun st d=>YU v.ns (aM v.ns ((nd v.ns (k.tmod (v.ns.length:Int))).block.root)) (fun hh=>p0 hh.1) st d
   by_cases e2:((((k).fdiv (2 ^ min 14 IntKind.i64.bits))).tmod 16)=0
   ·simp only[ZG,seval,Bool.false_and,Prod.mk.injEq,Fs,iO,hj,j0,j1,g6,hT.Bx,h.sd.tree,gT,m1,m2,jA _ _ hn,g1,kp,bt e2,Po];exact⟨_,fF rfl (by simp only[E8,seval,fv]<;>rfl) (by simp only[Z8,seval,fv]<;>rfl) (by simp only[dY,and_self,fv]),_,rfl,F7⟩
   simp only[ZG,seval,Bool.false_and,Prod.mk.injEq,Fs,iO,hj,j0,j1,g6,hT.Bx,h.sd.tree,gT,m1,m2,jA _ _ hn,g1,kp,bf e2];exact⟨_,fF rfl (by simp only[E8,seval,fv]<;>rfl) (by simp only[Z8,seval,fv]<;>rfl) (by simp only[dY,and_self,fv]),_,rfl,F7⟩
  have pr:=dW v.ns ((nd v.ns (k.tmod (v.ns.length:Int))).block.root)
  have kp:=fun st d=>k76 v.ns h.up hn (aM v.ns ((nd v.ns (k.tmod (v.ns.length:Int))).block.root)) p0 pr.2 st d
  have pm:=xT h.up p0 pr.2
  have prg:∀x∈path v.ns (aM v.ns ((nd v.ns (k.tmod (v.ns.length:Int))).block.root)),0≤x∧x<v.ns.length:=fun x hx=>uS h.up hx
  have pl:=Ag h.up (aM v.ns ((nd v.ns (k.tmod (v.ns.length:Int))).block.root))
  obtain⟨p,ep⟩:∃p,path v.ns (aM v.ns ((nd v.ns (k.tmod (v.ns.length:Int))).block.root))=p:=⟨_,rfl⟩
  rw[ep] at kp pm prg pl;have l0:(0:Int)<(p.length:Int):=by have:=List.length_pos_of_mem pm;omega
  have lne:¬((p.length:Int)=0):=by omega
  by_cases e1:0<((((k).fdiv (2 ^ min 14 IntKind.i64.bits))).tmod 4)
  case neg =>
   by_cases e2:((((k).fdiv (2 ^ min 14 IntKind.i64.bits))).tmod 16)=0
   ·simp only[ZG,seval,Bool.false_and,Prod.mk.injEq,Fs,iO,hj,j0,j1,g6,hT.Bx,h.sd.tree,gT,m1,m2,jA _ _ hn,g1,kp,l0,e1,bt e2,Po];exact⟨_,fF rfl (by simp only[E8,seval,fv]<;>rfl) (by simp only[Z8,seval,fv]<;>rfl) (by simp only[dY,and_self,fv]),_,rfl,F7⟩
   simp only[ZG,seval,Bool.false_and,Prod.mk.injEq,Fs,iO,hj,j0,j1,g6,hT.Bx,h.sd.tree,gT,m1,m2,jA _ _ hn,g1,kp,l0,e1,bf e2];exact⟨_,fF rfl (by simp only[E8,seval,fv]<;>rfl) (by simp only[Z8,seval,fv]<;>rfl) (by simp only[dY,and_self,fv]),_,rfl,F7⟩
  obtain⟨x1,x2⟩:=eJ (n:=(p.length:Int)) (Af hk (min 16 IntKind.i64.bits)) l0
  obtain⟨y,hy⟩:∃y,((((k).fdiv (2 ^ min 16 IntKind.i64.bits))).tmod (p.length:Int))=y:=⟨_,rfl⟩
  rw[hy] at x1 x2;have gp:=oZ x1 x2
  obtain⟨z1,z2⟩:=prg (it p y) (by obtain⟨h1,h2⟩:=wN x1 x2;rw[h2];exact List.getElem_mem h1)
  by_cases e2:((((k).fdiv (2 ^ min 14 IntKind.i64.bits))).tmod 16)=0
  ·simp only[ZG,seval,Bool.false_and,Prod.mk.injEq,Fs,iO,hj,j0,j1,g6,hT.Bx,h.sd.tree,gT,m1,m2,jA _ _ hn,g1,kp,l0,lne,e1,hy,x1,x2,gp,z1,z2,bt e2,Po];exact⟨_,fF rfl (by simp only[E8,seval,fv]<;>rfl) (by simp only[Z8,seval,fv]<;>rfl) (by simp only[dY,and_self,fv]),_,rfl,F7⟩
  simp only[ZG,seval,Bool.false_and,Prod.mk.injEq,Fs,iO,hj,j0,j1,g6,hT.Bx,h.sd.tree,gT,m1,m2,jA _ _ hn,g1,kp,l0,lne,e1,hy,x1,x2,gp,z1,z2,bf e2];exact⟨_,fF rfl (by simp only[E8,seval,fv]<;>rfl) (by simp only[Z8,seval,fv]<;>rfl) (by simp only[dY,and_self,fv]),_,rfl,F7⟩
 by_cases g2:0<((((k).fdiv (2 ^ min 8 IntKind.i64.bits))).tmod 8)
 case neg =>
  by_cases p0:0≤aM v.ns ((nd v.ns (k.tmod (v.ns.length:Int))).block.root)
  case neg =>
   have kp:=fun st d=>YU v.ns (aM v.ns ((nd v.ns (k.tmod (v.ns.length:Int))).block.root)) (fun hh=>p0 hh.1) st d
   by_cases e2:((((k).fdiv (2 ^ min 14 IntKind.i64.bits))).tmod 16)=0
   ·simp only[ZG,seval,Bool.false_and,Prod.mk.injEq,Fs,iO,hj,j0,j1,g6,hT.Bx,h.sd.tree,gT,m1,m2,jA _ _ hn,g1,g2,kp,bt e2,Po];exact⟨_,fF rfl (by simp only[E8,seval,fv]<;>rfl) (by simp only[Z8,seval,fv]<;>rfl) (by simp only[dY,and_self,fv]),_,rfl,F7⟩
   simp only[ZG,seval,Bool.false_and,Prod.mk.injEq,Fs,iO,hj,j0,j1,g6,hT.Bx,h.sd.tree,gT,m1,m2,jA _ _ hn,g1,g2,kp,bf e2];exact⟨_,fF rfl (by simp only[E8,seval,fv]<;>rfl) (by simp only[Z8,seval,fv]<;>rfl) (by simp only[dY,and_self,fv]),_,rfl,F7⟩
  have pr:=dW v.ns ((nd v.ns (k.tmod (v.ns.length:Int))).block.root)
  have kp:=fun st d=>k76 v.ns h.up hn (aM v.ns ((nd v.ns (k.tmod (v.ns.length:Int))).block.root)) p0 pr.2 st d
  have pm:=xT h.up p0 pr.2
  have prg:∀x∈path v.ns (aM v.ns ((nd v.ns (k.tmod (v.ns.length:Int))).block.root)),0≤x∧x<v.ns.length:=fun x hx=>uS h.up hx
  have pl:=Ag h.up (aM v.ns ((nd v.ns (k.tmod (v.ns.length:Int))).block.root))
  obtain⟨p,ep⟩:∃p,path v.ns (aM v.ns ((nd v.ns (k.tmod (v.ns.length:Int))).block.root))=p:=⟨_,rfl⟩
  rw[ep] at kp pm prg pl;have l0:(0:Int)<(p.length:Int):=by have:=List.length_pos_of_mem pm;omega
  have lne:¬((p.length:Int)=0):=by omega
  by_cases e1:0<((((k).fdiv (2 ^ min 14 IntKind.i64.bits))).tmod 4)
  case neg =>
   by_cases e2:((((k).fdiv (2 ^ min 14 IntKind.i64.bits))).tmod 16)=0
   ·simp only[ZG,seval,Bool.false_and,Prod.mk.injEq,Fs,iO,hj,j0,j1,g6,hT.Bx,h.sd.tree,gT,m1,m2,jA _ _ hn,g1,g2,kp,l0,e1,bt e2,Po];exact⟨_,fF rfl (by simp only[E8,seval,fv]<;>rfl) (by simp only[Z8,seval,fv]<;>rfl) (by simp only[dY,and_self,fv]),_,rfl,F7⟩
   simp only[ZG,seval,Bool.false_and,Prod.mk.injEq,Fs,iO,hj,j0,j1,g6,hT.Bx,h.sd.tree,gT,m1,m2,jA _ _ hn,g1,g2,kp,l0,e1,bf e2];exact⟨_,fF rfl (by simp only[E8,seval,fv]<;>rfl) (by simp only[Z8,seval,fv]<;>rfl) (by simp only[dY,and_self,fv]),_,rfl,F7⟩
  obtain⟨x1,x2⟩:=eJ (n:=(p.length:Int)) (Af hk (min 16 IntKind.i64.bits)) l0
  obtain⟨y,hy⟩:∃y,((((k).fdiv (2 ^ min 16 IntKind.i64.bits))).tmod (p.length:Int))=y:=⟨_,rfl⟩
  rw[hy] at x1 x2;have gp:=oZ x1 x2
  obtain⟨z1,z2⟩:=prg (it p y) (by obtain⟨h1,h2⟩:=wN x1 x2;rw[h2];exact List.getElem_mem h1)
  by_cases e2:((((k).fdiv (2 ^ min 14 IntKind.i64.bits))).tmod 16)=0
  ·simp only[ZG,seval,Bool.false_and,Prod.mk.injEq,Fs,iO,hj,j0,j1,g6,hT.Bx,h.sd.tree,gT,m1,m2,jA _ _ hn,g1,g2,kp,l0,lne,e1,hy,x1,x2,gp,z1,z2,bt e2,Po];exact⟨_,fF rfl (by simp only[E8,seval,fv]<;>rfl) (by simp only[Z8,seval,fv]<;>rfl) (by simp only[dY,and_self,fv]),_,rfl,F7⟩
  simp only[ZG,seval,Bool.false_and,Prod.mk.injEq,Fs,iO,hj,j0,j1,g6,hT.Bx,h.sd.tree,gT,m1,m2,jA _ _ hn,g1,g2,kp,l0,lne,e1,hy,x1,x2,gp,z1,z2,bf e2];exact⟨_,fF rfl (by simp only[E8,seval,fv]<;>rfl) (by simp only[Z8,seval,fv]<;>rfl) (by simp only[dY,and_self,fv]),_,rfl,F7⟩
 have qne:¬(((ol Q).length:Int)=0):=by omega
 obtain⟨c1,c2⟩:=eJ (n:=((ol Q).length:Int)) (Af hk (min 11 IntKind.i64.bits)) g1
 obtain⟨c,hc⟩:∃c,((((k).fdiv (2 ^ min 11 IntKind.i64.bits))).tmod ((ol Q).length:Int))=c:=⟨_,rfl⟩
 rw[hc] at c1 c2;have rTB:Rg (gx bW (ol Q) c).tagged.tag:=hq _ (uY c1 c2)
 by_cases p0:0≤aM v.ns ((gx bW (ol Q) c).block)
 case neg =>
  have kp:=fun st d=>YU v.ns (aM v.ns ((gx bW (ol Q) c).block)) (fun hh=>p0 hh.1) st d
  by_cases e2:((((k).fdiv (2 ^ min 14 IntKind.i64.bits))).tmod 16)=0
  ·simp only[ZG,seval,Bool.false_and,Prod.mk.injEq,Fs,iO,hj,j0,j1,g6,hT.Bx,h.sd.tree,gT,m1,m2,jA _ _ hn,g1,g2,qne,hc,c1,c2,kp,bt e2,Po];exact⟨_,fF rfl (by simp only[E8,seval,fv]<;>rfl) (by simp only[Z8,seval,fv]<;>rfl) (by simp only[dY,and_self,fv]),_,rfl,rTB⟩
  simp only[ZG,seval,Bool.false_and,Prod.mk.injEq,Fs,iO,hj,j0,j1,g6,hT.Bx,h.sd.tree,gT,m1,m2,jA _ _ hn,g1,g2,qne,hc,c1,c2,kp,bf e2];exact⟨_,fF rfl (by simp only[E8,seval,fv]<;>rfl) (by simp only[Z8,seval,fv]<;>rfl) (by simp only[dY,and_self,fv]),_,rfl,rTB⟩
 have pr:=dW v.ns ((gx bW (ol Q) c).block)
 have kp:=fun st d=>k76 v.ns h.up hn (aM v.ns ((gx bW (ol Q) c).block)) p0 pr.2 st d
 have pm:=xT h.up p0 pr.2
 have prg:∀x∈path v.ns (aM v.ns ((gx bW (ol Q) c).block)),0≤x∧x<v.ns.length:=fun x hx=>uS h.up hx
 have pl:=Ag h.up (aM v.ns ((gx bW (ol Q) c).block))
 obtain⟨p,ep⟩:∃p,path v.ns (aM v.ns ((gx bW (ol Q) c).block))=p:=⟨_,rfl⟩
 rw[ep] at kp pm prg pl;have l0:(0:Int)<(p.length:Int):=by have:=List.length_pos_of_mem pm;omega
 have lne:¬((p.length:Int)=0):=by omega
 by_cases e1:0<((((k).fdiv (2 ^ min 14 IntKind.i64.bits))).tmod 4)
 case neg =>
  by_cases e2:((((k).fdiv (2 ^ min 14 IntKind.i64.bits))).tmod 16)=0
  ·simp only[ZG,seval,Bool.false_and,Prod.mk.injEq,Fs,iO,hj,j0,j1,g6,hT.Bx,h.sd.tree,gT,m1,m2,jA _ _ hn,g1,g2,qne,hc,c1,c2,kp,l0,e1,bt e2,Po];exact⟨_,fF rfl (by simp only[E8,seval,fv]<;>rfl) (by simp only[Z8,seval,fv]<;>rfl) (by simp only[dY,and_self,fv]),_,rfl,rTB⟩
  simp only[ZG,seval,Bool.false_and,Prod.mk.injEq,Fs,iO,hj,j0,j1,g6,hT.Bx,h.sd.tree,gT,m1,m2,jA _ _ hn,g1,g2,qne,hc,c1,c2,kp,l0,e1,bf e2];exact⟨_,fF rfl (by simp only[E8,seval,fv]<;>rfl) (by simp only[Z8,seval,fv]<;>rfl) (by simp only[dY,and_self,fv]),_,rfl,rTB⟩
 obtain⟨x1,x2⟩:=eJ (n:=(p.length:Int)) (Af hk (min 16 IntKind.i64.bits)) l0
 obtain⟨y,hy⟩:∃y,((((k).fdiv (2 ^ min 16 IntKind.i64.bits))).tmod (p.length:Int))=y:=⟨_,rfl⟩
 rw[hy] at x1 x2;have gp:=oZ x1 x2
 obtain⟨z1,z2⟩:=prg (it p y) (by obtain⟨h1,h2⟩:=wN x1 x2;rw[h2];exact List.getElem_mem h1)
 by_cases e2:((((k).fdiv (2 ^ min 14 IntKind.i64.bits))).tmod 16)=0
 ·simp only[ZG,seval,Bool.false_and,Prod.mk.injEq,Fs,iO,hj,j0,j1,g6,hT.Bx,h.sd.tree,gT,m1,m2,jA _ _ hn,g1,g2,qne,hc,c1,c2,kp,l0,lne,e1,hy,x1,x2,gp,z1,z2,bt e2,Po];exact⟨_,fF rfl (by simp only[E8,seval,fv]<;>rfl) (by simp only[Z8,seval,fv]<;>rfl) (by simp only[dY,and_self,fv]),_,rfl,rTB⟩
 simp only[ZG,seval,Bool.false_and,Prod.mk.injEq,Fs,iO,hj,j0,j1,g6,hT.Bx,h.sd.tree,gT,m1,m2,jA _ _ hn,g1,g2,qne,hc,c1,c2,kp,l0,lne,e1,hy,x1,x2,gp,z1,z2,bf e2];exact⟨_,fF rfl (by simp only[E8,seval,fv]<;>rfl) (by simp only[Z8,seval,fv]<;>rfl) (by simp only[dY,and_self,fv]),_,rfl,rTB⟩
end Go.Ab.Tryz
section
namespace Go.Ab
open Classical
theorem pH [Ext] {P:Program} {bi:Bool} {a b:Code} {st:St} {β:Type} {K:Ex × St→Option β} {R:β→Prop} (Q:St→Prop) (h:∃st',wA P bi a st=some (.normal,st')∧Q st')
 (rest:∀st',Q st'→∃r,cD (wA P bi b st') K=some r∧R r):∃r,cD (wA P bi (.seq a b) st) K=some r∧R r:=by
 obtain⟨s1,h1,h2⟩:=h
 rw[FJ,h1];exact rest s1 h2
end Go.Ab
namespace Go.Ab.Tryz
open Classical Go.Proofs Go.Ab
structure BQ (n:Int) (v:SV) (b:Block):Prop extends RB b where
 rt:b.root=mkRoot n∨∃m∈v.ns,b.root=m.block.root
theorem x50 {s:aP} {v:SV} {q:Int} (h:GI s v q) (r:RG s v) (n k:Int) (hk:0≤k):∃x,aC Tryz.prog 50 [.agg (aB s),.v (.int .i64 n),.v (.int .i64 k)]=some x∧∃b:Block,x=.agg (aU b)∧BQ n v b:=by
 have hn:=h.sd.nn
 have hp:(0:Int)<(v.ns.length:Int):=by have:=h.pos;omega
 have gT:¬((v.ns.length:Int)=0):=by omega
 have Ma:=h.sp
 have rn:Rg s.now:=⟨r.now.1,by have:=r.now.2;omega⟩
 have rnd:∀p:Int,0≤p→p<v.ns.length→RB (nd v.ns p).block:=fun p h0 h1=>(r.nd _ (FB h0 h1)).1
 obtain⟨m1,m2⟩:=eJ (n:=(v.ns.length:Int)) hk hp
 obtain⟨m3,m4⟩:=eJ (n:=(v.ns.length:Int)) (Af hk (min 3 IntKind.i64.bits)) hp
 rw[cG Tryz.func50 rfl aPp (by kernel_rfl) rfl]
 refine pH (fun st=>st.aQ 8=0∧st.aQ 9=0∧st.aQ 11=0∧st.env 1=.v (.int .i64 n)∧st.env 2=.v (.int .i64 k)∧st.env 3=.ptr 3 0 0∧st.heap 3 0=some (.cells (aB s))∧st.env 6=.ptr 6 0 0∧st.heap 6 0=some (.cells (aU fB))) ?h0 ?r0
 case h0 =>
  refine⟨?s1, ?h1, ?q1⟩
  case h1 =>
   simp only[ZG,seval,Bool.false_and,Prod.mk.injEq,rW];rfl
  case q1=>exact⟨by simp only[E8,seval]<;>rfl,by simp only[E8,seval]<;>rfl,by simp only[E8,seval]<;>rfl,by simp only[E8,seval]<;>rfl,by simp only[E8,seval]<;>rfl,by simp only[E8,seval]<;>rfl,by simp only[E8,seval]<;>rfl,by simp only[E8,seval]<;>rfl,by simp only[E8,seval]<;>rfl⟩
 case r0 =>
 intro st hI;refine pH (fun st=>∃p:Int,(st.aQ 8=0∧st.aQ 9=0∧st.aQ 11=0∧st.env 1=.v (.int .i64 n)∧st.env 2=.v (.int .i64 k)∧st.env 3=.ptr 3 0 0∧st.heap 3 0=some (.cells (aB s))∧st.env 6=.ptr 6 0 0∧st.heap 6 0=some (.cells (aU fB))∧st.env 7=.v (.int .i64 p))∧0≤p∧p<v.ns.length) ?h1 ?r1
 case h1 =>
  refine⟨?s2, ?h2, ?q2⟩
  case h2 =>
   simp only[ZG,seval,Bool.false_and,Prod.mk.injEq,rW,hI,h.sd.tree,gT];rfl
  case q2=>exact⟨_,by and_intros<;>(simp only[E8,seval,hI]<;>rfl),m1,m2⟩
 case r1 =>
 rintro st ⟨p,hI,p0,p1⟩
 refine pH (fun st=>∃p:Int,(st.aQ 8=0∧st.aQ 9=0∧st.aQ 11=0∧st.env 1=.v (.int .i64 n)∧st.env 2=.v (.int .i64 k)∧st.env 3=.ptr 3 0 0∧st.heap 3 0=some (.cells (aB s))∧st.env 6=.ptr 6 0 0∧st.heap 6 0=some (.cells (aU fB))∧st.env 7=.v (.int .i64 p))∧0≤p∧p<v.ns.length) ?h2 ?r2
 case h2 =>
  by_cases g:0<((((k).fdiv (2 ^ min 6 IntKind.i64.bits))).tmod 3)
  ·obtain⟨M,hM⟩:∃M,(if (v.ns.length:Int)<3 then (v.ns.length:Int) else 3)=M:=⟨_,rfl⟩
   have hM1:1≤M∧M≤v.ns.length:=by rw[← hM];split<;>omega
   have hM0:¬M=0:=by omega
   obtain⟨x0,x1⟩:=eJ (n:=M) p0 (by omega)
   have w1:IntKind.i64.wrap ((v.ns.length:Int)-1)=(v.ns.length:Int)-1:=qA _ (by omega) (by omega)
   have w2:IntKind.i64.wrap ((v.ns.length:Int)-1-p.tmod M)=(v.ns.length:Int)-1-p.tmod M:=qA _ (by omega) (by omega)
   refine⟨?s3, ?h3, ?q3⟩
   case h3 =>
    simp only[ZG,seval,Bool.false_and,Prod.mk.injEq,rW,hI,h.sd.tree,g,hM,hM0,w1,w2];rfl
   case q3=>exact⟨(v.ns.length:Int)-1-p.tmod M,by and_intros<;>(simp only[E8,seval,hI]<;>rfl),by omega,by omega⟩
  ·skip
   refine⟨?s4, ?h4, ?q4⟩
   case h4 =>
    simp only[ZG,seval,Bool.false_and,Prod.mk.injEq,rW,hI,g];rfl
   case q4=>exact⟨p,by and_intros<;>(simp only[E8,seval,hI]<;>rfl),p0,p1⟩
 case r2 =>
 clear hI p0 p1
 clear p
 rintro st ⟨p,hI,p0,p1⟩
 have rN:=rnd p p0 p1
 refine pH (fun st=>st.aQ 9=0∧st.aQ 11=0∧st.env 1=.v (.int .i64 n)∧st.env 2=.v (.int .i64 k)∧st.env 3=.ptr 3 0 0∧st.heap 3 0=some (.cells (aB s))∧st.env 6=.ptr 6 0 0∧st.heap 6 0=some (.cells (aU fB))∧st.env 7=.v (.int .i64 p)∧st.env 8=.ptr 8 0 0∧st.heap 8 0=some (.cells (fJ (nd v.ns p)))) ?h4 ?r4
 case h4 =>
  refine⟨?s5, ?h5, ?q5⟩
  case h5 =>
   simp only[ZG,seval,Bool.false_and,Prod.mk.injEq,rW,hI,h.sd.tree,p0,p1];rfl
  case q5=>exact⟨by simp only[E8,seval,hI]<;>rfl,by simp only[E8,seval,hI]<;>rfl,by simp only[E8,seval,hI]<;>rfl,by simp only[E8,seval,hI]<;>rfl,by simp only[E8,seval,hI]<;>rfl,by simp only[E8,seval,hI]<;>rfl,by simp only[E8,seval,hI]<;>rfl,by simp only[E8,seval,hI]<;>rfl,by simp only[E8,seval,hI]<;>rfl,by simp only[E8,seval,hI]<;>rfl,by simp only[E8,seval,hI]<;>rfl⟩
 case r4 =>
 clear hI
 intro st hI;refine pH (fun st=>∃b:Block,(st.aQ 11=0∧st.env 1=.v (.int .i64 n)∧st.env 2=.v (.int .i64 k)∧st.env 3=.ptr 3 0 0∧st.heap 3 0=some (.cells (aB s))∧st.env 6=.ptr 6 0 0∧st.heap 6 0=some (.cells (aU fB))∧st.env 7=.v (.int .i64 p)∧st.env 8=.ptr 8 0 0∧st.heap 8 0=some (.cells (fJ (nd v.ns p)))∧st.env 9=.ptr 9 0 0∧st.heap 9 0=some (.cells (aU b)))∧BQ n v b) ?h5 ?r5
 case h5 =>
  refine⟨?s6, ?h6, ?q6⟩
  case h6 =>
   simp only[ZG,seval,Bool.false_and,Prod.mk.injEq,rW,hI,Po];rfl
  case q6=>exact⟨_,by and_intros<;>(simp only[E8,seval,hI]<;>rfl),by exact⟨⟨rn,rN.j,rN.f,rN.pj,rN.pf⟩,.inl rfl⟩⟩
 case r5 =>
 clear hI
 rintro st ⟨b,hI,rb⟩
 refine pH (fun st=>∃b:Block,(st.aQ 11=0∧st.env 1=.v (.int .i64 n)∧st.env 2=.v (.int .i64 k)∧st.env 3=.ptr 3 0 0∧st.heap 3 0=some (.cells (aB s))∧st.env 6=.ptr 6 0 0∧st.heap 6 0=some (.cells (aU fB))∧st.env 7=.v (.int .i64 p)∧st.env 8=.ptr 8 0 0∧st.heap 8 0=some (.cells (fJ (nd v.ns p)))∧st.env 9=.ptr 9 0 0∧st.heap 9 0=some (.cells (aU b)))∧BQ n v b) ?h6 ?r6
 case h6 =>
  by_cases g:((((k).fdiv (2 ^ min 10 IntKind.i64.bits))).tmod 5)=0
  case neg =>
   refine⟨?s7, ?h7, ?q7⟩
   case h7 =>
    simp only[ZG,seval,Bool.false_and,Prod.mk.injEq,rW,hI,bf g];rfl
   case q7=>exact⟨b,by and_intros<;>(simp only[E8,seval,hI]<;>rfl),rb⟩
  by_cases g2:0<s.now
  case neg =>
   refine⟨?s8, ?h8, ?q8⟩
   case h8 =>
    simp only[ZG,seval,Bool.false_and,Prod.mk.injEq,rW,hI,bt g,g2];rfl
   case q8=>exact⟨b,by and_intros<;>(simp only[E8,seval,hI]<;>rfl),rb⟩
  refine⟨?s9, ?h9, ?q9⟩
  case h9 =>
   simp only[ZG,seval,Bool.false_and,Prod.mk.injEq,rW,hI,bt g,g2];rfl
  case q9=>exact⟨_,by and_intros<;>(simp only[E8,seval,hI]<;>rfl),by exact⟨⟨jT _,rb.j,rb.f,rb.pj,rb.pf⟩,rb.rt⟩⟩
 case r6 =>
 clear hI rb
 clear b
 rintro st ⟨b,hI,rb⟩
 refine pH (fun st=>∃b:Block,(st.aQ 11=0∧st.env 1=.v (.int .i64 n)∧st.env 2=.v (.int .i64 k)∧st.env 3=.ptr 3 0 0∧st.heap 3 0=some (.cells (aB s))∧st.env 6=.ptr 6 0 0∧st.heap 6 0=some (.cells (aU fB))∧st.env 7=.v (.int .i64 p)∧st.env 8=.ptr 8 0 0∧st.heap 8 0=some (.cells (fJ (nd v.ns p)))∧st.env 9=.ptr 9 0 0∧st.heap 9 0=some (.cells (aU b)))∧BQ n v b) ?h8 ?r8
 case h8 =>
  by_cases g:((((k).fdiv (2 ^ min 12 IntKind.i64.bits))).tmod 16)=0
  case neg =>
   refine⟨?s10, ?h10, ?q10⟩
   case h10 =>
    simp only[ZG,seval,Bool.false_and,Prod.mk.injEq,rW,hI,bf g];rfl
   case q10=>exact⟨b,by and_intros<;>(simp only[E8,seval,hI]<;>rfl),rb⟩
  refine⟨?s11, ?h11, ?q11⟩
  case h11 =>
   simp only[ZG,seval,Bool.false_and,Prod.mk.injEq,rW,hI,bt g,Po];rfl
  case q11=>exact⟨_,by and_intros<;>(simp only[E8,seval,hI]<;>rfl),by exact⟨⟨rb.sl,rb.j,rb.f,rb.pj,rb.pf⟩,rb.rt⟩⟩
 case r8 =>
 clear hI rb
 clear b
 rintro st ⟨b,hI,rb⟩
 refine pH (fun st=>∃e:Int,(st.aQ 11=0∧st.env 1=.v (.int .i64 n)∧st.env 2=.v (.int .i64 k)∧st.env 3=.ptr 3 0 0∧st.heap 3 0=some (.cells (aB s))∧st.env 6=.ptr 6 0 0∧st.heap 6 0=some (.cells (aU fB))∧st.env 7=.v (.int .i64 p)∧st.env 8=.ptr 8 0 0∧st.heap 8 0=some (.cells (fJ (nd v.ns p)))∧st.env 9=.ptr 9 0 0∧st.heap 9 0=some (.cells (aU b))∧st.env 10=.v (.int .u64 e))∧Rg e) ?h10 ?r10
 case h10 =>
  refine⟨?s12, ?h12, ?q12⟩
  case h12 =>
   simp only[ZG,seval,Bool.false_and,Prod.mk.injEq,rW,hI,Ma];rfl
  case q12=>exact⟨_,by and_intros<;>(simp only[E8,seval,hI]<;>rfl),jT _⟩
 case r10 =>
 clear hI
 rintro st ⟨e,hI,re⟩
 obtain⟨y,hy,c,rfl,rc⟩:=x92 h r p e re
 have Qd:=kx hy (lN h.sd.flat (.v _) (.v _)) (.agg _ (dA _))
 refine pH (fun st=>∃b:Block,(st.env 1=.v (.int .i64 n)∧st.env 2=.v (.int .i64 k)∧st.env 3=.ptr 3 0 0∧st.heap 3 0=some (.cells (aB s))∧st.env 6=.ptr 6 0 0∧st.heap 6 0=some (.cells (aU fB))∧st.env 7=.v (.int .i64 p)∧st.env 8=.ptr 8 0 0∧st.heap 8 0=some (.cells (fJ (nd v.ns p)))∧st.env 9=.ptr 9 0 0∧st.heap 9 0=some (.cells (aU b))∧st.env 10=.v (.int .u64 e))∧BQ n v b) ?h11 ?r11
 case h11 =>
  by_cases g:b.dS.pj.aL<c.aL
  case neg =>
   refine⟨?s13, ?h13, ?q13⟩
   case h13 =>
    simp only[ZG,seval,Bool.false_and,Prod.mk.injEq,rW,hI,Qd,g];rfl
   case q13=>exact⟨b,by and_intros<;>(simp only[E8,seval,hI]<;>rfl),rb⟩
  by_cases g2:((((k).fdiv (2 ^ min 13 IntKind.i64.bits))).tmod 2)=0
  case neg =>
   refine⟨?s14, ?h14, ?q14⟩
   case h14 =>
    simp only[ZG,seval,Bool.false_and,Prod.mk.injEq,rW,hI,Qd,g,bf g2];rfl
   case q14=>exact⟨b,by and_intros<;>(simp only[E8,seval,hI]<;>rfl),rb⟩
  by_cases g3:((((k).fdiv (2 ^ min 14 IntKind.i64.bits))).tmod 2)=0
  case neg =>
   refine⟨?s15, ?h15, ?q15⟩
   case h15 =>
    simp only[ZG,seval,Bool.false_and,Prod.mk.injEq,rW,hI,Qd,g,bt g2,bf g3];rfl
   case q15=>exact⟨_,by and_intros<;>(simp only[E8,seval,hI]<;>rfl),by exact⟨⟨rb.sl,rb.j,rb.f,rc,rb.pf⟩,rb.rt⟩⟩
  refine⟨?s16, ?h16, ?q16⟩
  case h16 =>
   simp only[ZG,seval,Bool.false_and,Prod.mk.injEq,rW,hI,Qd,g,bt g2,bt g3];rfl
  case q16=>exact⟨_,by and_intros<;>(simp only[E8,seval,hI]<;>rfl),by exact⟨⟨rb.sl,rb.j,rb.f,rc,rb.pj⟩,rb.rt⟩⟩
 case r11 =>
 clear hI rb
 clear b
 rintro st ⟨b,hI,rb⟩
 refine pH (fun st=>∃b:Block,(st.env 1=.v (.int .i64 n)∧st.env 2=.v (.int .i64 k)∧st.env 3=.ptr 3 0 0∧st.heap 3 0=some (.cells (aB s))∧st.env 6=.ptr 6 0 0∧st.heap 6 0=some (.cells (aU fB))∧st.env 7=.v (.int .i64 p)∧st.env 8=.ptr 8 0 0∧st.heap 8 0=some (.cells (fJ (nd v.ns p)))∧st.env 9=.ptr 9 0 0∧st.heap 9 0=some (.cells (aU b))∧st.env 10=.v (.int .u64 e))∧BQ n v b) ?h16 ?r16
 case h16 =>
  by_cases g:((((k).fdiv (2 ^ min 15 IntKind.i64.bits))).tmod 3)=0
  case neg =>
   refine⟨?s17, ?h17, ?q17⟩
   case h17 =>
    simp only[ZG,seval,Bool.false_and,Prod.mk.injEq,rW,hI,bf g];rfl
   case q17=>exact⟨b,by and_intros<;>(simp only[E8,seval,hI]<;>rfl),rb⟩
  by_cases g2:IntKind.u64.wrap ((nd v.ns p).block.slot.tdiv s.cFg.qK)<e
  case neg =>
   refine⟨?s18, ?h18, ?q18⟩
   case h18 =>
    simp only[ZG,seval,Bool.false_and,Prod.mk.injEq,rW,hI,bt g,Ma,g2];rfl
   case q18=>exact⟨b,by and_intros<;>(simp only[E8,seval,hI]<;>rfl),rb⟩
  refine⟨?s19, ?h19, ?q19⟩
  case h19 =>
   simp only[ZG,seval,Bool.false_and,Prod.mk.injEq,rW,hI,bt g,Ma,g2];rfl
  case q19=>exact⟨_,by and_intros<;>(simp only[E8,seval,hI]<;>rfl),by exact⟨⟨rb.sl,rN.pj,rN.pf,rb.pj,rb.pf⟩,rb.rt⟩⟩
 case r16 =>
 clear hI rb
 clear b
 rintro st ⟨b,hI,rb⟩
 refine pH (fun st=>∃b:Block,(st.env 1=.v (.int .i64 n)∧st.env 2=.v (.int .i64 k)∧st.env 3=.ptr 3 0 0∧st.heap 3 0=some (.cells (aB s))∧st.env 6=.ptr 6 0 0∧st.heap 6 0=some (.cells (aU fB))∧st.env 7=.v (.int .i64 p)∧st.env 8=.ptr 8 0 0∧st.heap 8 0=some (.cells (fJ (nd v.ns p)))∧st.env 9=.ptr 9 0 0∧st.heap 9 0=some (.cells (aU b))∧st.env 10=.v (.int .u64 e))∧BQ n v b) ?h18 ?r18
 case h18 =>
  by_cases g:(nd v.ns p).block.iL=dK
  case neg =>
   refine⟨?s20, ?h20, ?q20⟩
   case h20 =>
    simp only[ZG,seval,Bool.false_and,Prod.mk.injEq,rW,hI,g,Po,qM,Nat.reduceLT];rfl
   case q20=>exact⟨_,by and_intros<;>(simp only[E8,seval,hI]<;>rfl),by exact⟨⟨rb.sl,rb.j,rb.f,rb.pj,rb.pf⟩,rb.rt⟩⟩
  by_cases g2:((((k).fdiv (2 ^ min 16 IntKind.i64.bits))).tmod 3)=0
  case neg =>
   refine⟨?s21, ?h21, ?q21⟩
   case h21 =>
    simp only[ZG,seval,Bool.false_and,Prod.mk.injEq,rW,hI,g,bf g2];rfl
   case q21=>exact⟨b,by and_intros<;>(simp only[E8,seval,hI]<;>rfl),rb⟩
  refine⟨?s22, ?h22, ?q22⟩
  case h22 =>
   simp only[ZG,seval,Bool.false_and,Prod.mk.injEq,rW,hI,g,bt g2,Po,qM,Nat.reduceLT];rfl
  case q22=>exact⟨_,by and_intros<;>(simp only[E8,seval,hI]<;>rfl),by exact⟨⟨rb.sl,rb.j,rb.f,rb.pj,rb.pf⟩,rb.rt⟩⟩
 case r18 =>
 clear hI rb
 clear b
 rintro st ⟨b,hI,rb⟩
 obtain⟨w0,hw0,W,rfl⟩:=aO9 ((k).fdiv (2 ^ min 3 IntKind.i64.bits))
 have k111:=kx hw0 (cO (.v _)) (.agg _ (iJ W))
 refine pH (fun st=>∃b:Block,(st.env 1=.v (.int .i64 n)∧st.env 2=.v (.int .i64 k)∧st.env 3=.ptr 3 0 0∧st.heap 3 0=some (.cells (aB s))∧st.env 6=.ptr 6 0 0∧st.heap 6 0=some (.cells (aU fB))∧st.env 7=.v (.int .i64 p)∧st.env 8=.ptr 8 0 0∧st.heap 8 0=some (.cells (fJ (nd v.ns p)))∧st.env 9=.ptr 9 0 0∧st.heap 9 0=some (.cells (aU b))∧st.env 10=.v (.int .u64 e))∧BQ n v b) ?h21 ?r21
 case h21 =>
  by_cases c0:((((k).fdiv (2 ^ min 18 IntKind.i64.bits))).tmod 24)=0
  ·skip
   refine⟨?s23, ?h23, ?q23⟩
   case h23 =>
    simp only[ZG,seval,Bool.false_and,Prod.mk.injEq,rW,hI,bt c0,Po];rfl
   case q23=>exact⟨_,by and_intros<;>(simp only[E8,seval,hI]<;>rfl),by exact⟨⟨rb.sl,rb.j,rb.f,rb.pj,rb.pf⟩,rb.rt⟩⟩
  by_cases c1:((((k).fdiv (2 ^ min 18 IntKind.i64.bits))).tmod 24)=1
  ·skip
   refine⟨?s24, ?h24, ?q24⟩
   case h24 =>
    simp only[ZG,seval,Bool.false_and,Prod.mk.injEq,rW,hI,bf c0,bt c1,k111];rfl
   case q24=>exact⟨_,by and_intros<;>(simp only[E8,seval,hI]<;>rfl),by exact⟨⟨rb.sl,rb.j,rb.f,rb.pj,rb.pf⟩,rb.rt⟩⟩
  by_cases c2:((((k).fdiv (2 ^ min 18 IntKind.i64.bits))).tmod 24)=2
  ·skip
   refine⟨?s25, ?h25, ?q25⟩
   case h25 =>
    simp only[ZG,seval,Bool.false_and,Prod.mk.injEq,rW,hI,bf c0,bf c1,bt c2,k111];rfl
   case q25=>exact⟨_,by and_intros<;>(simp only[E8,seval,hI]<;>rfl),by exact⟨⟨rb.sl,rb.j,rb.f,rb.pj,rb.pf⟩,rb.rt⟩⟩
  by_cases c3:((((k).fdiv (2 ^ min 18 IntKind.i64.bits))).tmod 24)=3
  ·skip
   refine⟨?s26, ?h26, ?q26⟩
   case h26 =>
    simp only[ZG,seval,Bool.false_and,Prod.mk.injEq,rW,hI,bf c0,bf c1,bf c2,bt c3];rfl
   case q26=>exact⟨_,by and_intros<;>(simp only[E8,seval,hI]<;>rfl),by exact⟨⟨rb.sl,rb.j,rb.f,jT _,rb.pf⟩,rb.rt⟩⟩
  by_cases c4:((((k).fdiv (2 ^ min 18 IntKind.i64.bits))).tmod 24)=4
  ·skip
   refine⟨?s27, ?h27, ?q27⟩
   case h27 =>
    simp only[ZG,seval,Bool.false_and,Prod.mk.injEq,rW,hI,bf c0,bf c1,bf c2,bf c3,bt c4];rfl
   case q27=>exact⟨_,by and_intros<;>(simp only[E8,seval,hI]<;>rfl),by exact⟨⟨jT _,rb.j,rb.f,rb.pj,rb.pf⟩,rb.rt⟩⟩
  by_cases c5:((((k).fdiv (2 ^ min 18 IntKind.i64.bits))).tmod 24)=5
  ·skip
   refine⟨?s28, ?h28, ?q28⟩
   case h28 =>
    simp only[ZG,seval,Bool.false_and,Prod.mk.injEq,rW,hI,bf c0,bf c1,bf c2,bf c3,bf c4,bt c5,h.sd.tree,gT,m3,m4];rfl
   case q28=>exact⟨_,by and_intros<;>(simp only[E8,seval,hI]<;>rfl),by exact⟨⟨rb.sl,rb.j,rb.f,rb.pj,rb.pf⟩,.inr ⟨_,FB m3 m4,rfl⟩⟩⟩
  by_cases c6:((((k).fdiv (2 ^ min 18 IntKind.i64.bits))).tmod 24)=6
  ·skip
   refine⟨?s29, ?h29, ?q29⟩
   case h29 =>
    simp only[ZG,seval,Bool.false_and,Prod.mk.injEq,rW,hI,bf c0,bf c1,bf c2,bf c3,bf c4,bf c5,bt c6,Po];rfl
   case q29=>exact⟨_,by and_intros<;>(simp only[E8,seval,hI]<;>rfl),by exact⟨⟨rb.sl,rb.j,rb.f,rb.pj,rb.pf⟩,rb.rt⟩⟩
  by_cases c7:((((k).fdiv (2 ^ min 18 IntKind.i64.bits))).tmod 24)=7
  ·skip
   refine⟨?s30, ?h30, ?q30⟩
   case h30 =>
    simp only[ZG,seval,Bool.false_and,Prod.mk.injEq,rW,hI,bf c0,bf c1,bf c2,bf c3,bf c4,bf c5,bf c6,bt c7];rfl
   case q30=>exact⟨_,by and_intros<;>(simp only[E8,seval,hI]<;>rfl),by exact⟨⟨rb.sl,rb.j,rb.f,rb.pj,rb.pf⟩,rb.rt⟩⟩
  refine⟨?s31, ?h31, ?q31⟩
  case h31 =>
   simp only[ZG,seval,Bool.false_and,Prod.mk.injEq,rW,hI,bf c0,bf c1,bf c2,bf c3,bf c4,bf c5,bf c6,bf c7];rfl
  case q31=>exact⟨b,by and_intros<;>(simp only[E8,seval,hI]<;>rfl),rb⟩
 case r21 =>
 clear hI rb
 clear b
 rintro st ⟨b,hI,rb⟩
 simp only[ZG,seval,Bool.false_and,Prod.mk.injEq,rW,hI];exact⟨_,fF rfl (by simp only[E8,seval,hI]<;>rfl) (by simp only[Z8,seval,hI]<;>rfl) (by simp only[dY,and_self,hI]),b,rfl,rb⟩
end Go.Ab.Tryz
end
namespace Go.Ab.Tryz
open Classical Go.Proofs Go.Ab
def Gf (st st':St):Prop:=(∀s g,g<st.aQ s→st'.heap s g=st.heap s g)∧∀s,st.aQ s≤st'.aQ s
theorem aPt:aF 0 3 (some 2)=[]∧aF 1 17 (some 6)=[]∧aF 2 2 (some 21)=[]:=⟨rfl,rfl,rfl⟩
theorem aD9 {s:aP} {v:SV} (hs:SD s v) (X:AV) (a:rQ) (V:Option (List Int)) (ha:a.eU=ov aK V) (hV:((ol V).length:Int)<1000000) (hr:∀x∈ol V,0≤x∧x<(ol v.L).length) :
 ∃G:St→St,∀st,Co Tryz.prog 44 [.agg (aB (vZ s X)),.agg (gV a)] st=some (.agg (aB (vZ (Pz s v a (ol V)) X)),G st)∧Gf st (G st):=by
 have one:∀st,∃st',Co Tryz.prog 44 [.agg (aB (vZ s X)),.agg (gV a)] st=some (.agg (aB (vZ (Pz s v a (ol V)) X)),st')∧Gf st st':=by
  intro st;have hl:(vZ s X).fV.dV=ov cK v.L:=hs.dV
  rw[FK Tryz.prog Tryz.func44 rfl (by kernel_rfl)]
  simp only[ZG,seval,Bool.false_and,Prod.mk.injEq,aPt,hl,ha,aJz v.L hs.nL _ _ V hV hr,eA];refine⟨_,Wg (P:=Tryz.prog) (fn:=Tryz.f44) (r:=.cell 4 53) (x:=.agg (aB (vZ (Pz s v a (ol V)) X))) (.inl rfl) rfl ?h1, ?h2⟩
  case h1 =>
   rw[Ah];simp only[bJ,Z8,seval];unfold vZ Pz;simp only[ov,Py]
  case h2 =>
   refine⟨fun x g hg=>?_,fun x=>?_⟩
   ·have n2:(x=2∧g=st.aQ 2)=False:=eq_false (by rintro⟨rfl,rfl⟩;omega)
    have n3:(x=3∧g=st.aQ 3)=False:=eq_false (by rintro⟨rfl,rfl⟩;omega)
    have n4:(x=4∧g=st.aQ 4)=False:=eq_false (by rintro⟨rfl,rfl⟩;omega)
    simp only[E8,seval,dH,bX,n2,n3,n4,if_false]
   ·simp only[E8,seval,dH,bX];split<;>(try split)<;>(try split)<;>subst_vars<;>omega
 exact⟨fun st=>Classical.choose (one st),fun st=>Classical.choose_spec (one st)⟩
theorem DH {cs:List AV} (h:∀c∈cs,Flat c):cs.flatMap gH=[]:=List.flatMap_eq_nil_iff.2 fun c hc=>by have:=h c hc;cases this<;>rfl
theorem aEa {c:AV} (h:Flat c):gH c=[]:=by cases h<;>rfl
theorem M0 {s:aP} {v:SV} (h:SD s v) (a g:Nat):iZ (.agg (aB (mO s (.own a g))))=[(a,g)]:=by
 obtain⟨h1,h2,h3,h4,h5,h6,h7⟩:=h.fl
 show (aB (mO s (.own a g))).flatMap gH=[(a,g)]
 unfold mO aB jP;simp only[List.flatMap_append,List.flatMap_cons,List.flatMap_nil,List.append_nil];rw[DH (tR _ h1),DH (qE _ h2 h3),DH (lC _),DH (vW _ h6),DH (eC _),DH (dP _)];have e4:gH s.dM.early=[]:=aEa h4
 have e7:gH s.tables=[]:=aEa h7
 simp only[e4,e7,List.nil_append,List.append_nil];rfl
theorem aBp {s:aP} {v:SV} (h:SD s v) (a g:Nat):WG (.agg (aB (mO s (.own a g)))):=by
 obtain⟨h1,h2,h3,h4,h5,h6,h7⟩:=h.fl
 refine .inr (.inr ⟨_,rfl,fun c hc=>?_⟩)
 unfold mO aB jP at hc;simp only[List.mem_append,List.mem_singleton] at hc;rcases hc with hc|hc|hc|(hc|hc)|hc|hc|hc|hc
 ·exact .inl (tR _ h1 _ hc)
 ·exact .inl (qE _ h2 h3 _ hc)
 ·exact .inl (lC _ _ hc)
 ·exact .inl (hc ▸ h4)
 ·exact .inr ⟨a,g,hc⟩
 ·exact .inl (vW _ h6 _ hc)
 ·exact .inl (eC _ _ hc)
 ·exact .inl (dP _ _ hc)
 ·exact .inl (hc ▸ h7)
theorem aKM {s:aP} {v:SV} {q:Int} (h:GI s v q) {b:Block} (hb:Jo s v b=0) (st:St) (d:Option Nat):fC (aC Tryz.prog) 217 [.agg (aB s),.agg (aU b)] st d=some { dst:=d,val:=.agg (aB (sJ s v b))}:=Gu (bE h.sd.flat (uI b)) (aJA h hb) (h.ins hb).sd.flat
theorem aEb {s:aP} {v:SV} {q:Int} (h0:SD s v) {O:List Block} (h:GI (mO s (ov aJ (some O))) { v with O:=some O } q) {b:Block} (hb:Jo (mO s (ov aJ (some O))) { v with O:=some O } b=0) (a g:Nat) (st:St) (d:Option Nat) (hh:st.heap a g=some (.row 74 238 O.length (aJ O))) :
 fC (aC Tryz.prog) 217 [.agg (aB (mO s (.own a g))),.agg (aU b)] st d=some { dst:=d,val:=.agg (aB (sJ (mO s (ov aJ (some O))) { v with O:=some O } b)),dJ:=some (a,g,none)}:=by
 rw[Ii (s:=a) (k:=g) (by rw[List.flatMap_cons,List.flatMap_cons,List.flatMap_nil,M0 h0,vB (uI b)];rfl) (by intro x hx;simp only[List.mem_cons,List.not_mem_nil,or_false] at hx;rcases hx with rfl|rfl;exact aBp h0 a g;exact .inl (uI b)),
  List.map_cons,List.map_cons,List.map_nil,yS h0 st hh,Ku,bR,bR,gR]
 exact DF (aJA h hb) (h.ins hb).sd.flat
theorem aPu {s:aP} {v:SV} {q:Int} (h0:SD s v) {O:List Block} (h:GI (mO s (ov aJ (some O))) { v with O:=some O } q) (b:Block) (a g:Nat) (st:St) (d:Option Nat) (hh:st.heap a g=some (.row 74 238 O.length (aJ O))) :
 aN (aC Tryz.prog) 52 [.agg (aB (mO s (.own a g))),.agg (aU b)] st d=some { dst:=d,val:=.v (.int .i64 (Jo (mO s (ov aJ (some O))) { v with O:=some O } b))}:=by
 rw[mU,List.map_cons,List.map_cons,List.map_nil,yS h0 st hh,Ku,bR,bR,gR];exact DE (c52 h.sd h.up h.sp b)
theorem aKN {s:aP} {v:SV} {q:Int} (h0:SD s v) {O:List Block} (h:GI (mO s (ov aJ (some O))) { v with O:=some O } q) (a g:Nat) (st:St) (d:Option Nat) (hh:st.heap a g=some (.row 74 238 O.length (aJ O))) :
 aN (aC Tryz.prog) 218 [.agg (aB (mO s (.own a g)))] st d=some { dst:=d,val:=.v (.int .i64 (AB { v with O:=some O }))}:=by
 rw[mU,List.map_cons,List.map_nil,yS h0 st hh,bR,gR];exact DE (aJw h.sd)
theorem sL {s:aP} {v:SV} (h:SD s v):mO s (ov aJ v.O)=s:=by unfold mO;rw[← h.bU]
def kJ:Code→Code
 | .loop b=>.loop b
 | .seq a b=>match kJ a with
   | .skip=>kJ b
   | c=>c
 | .cond _ a b=>match kJ a with
   | .skip=>kJ b
   | c=>c
 | .block _ b=>kJ b
 | _=>.skip
noncomputable def Ar:Code:=kJ (Tryz.f203.body.getD .skip)
def aPv (s:aP) (v:SV) (q:Int) (m:Nat) (st:St):Prop:=∃(S0:aP) (w:SV) (X:AV) (R:List cM) (a g:Nat),((st).env 2=.ptr 2 0 0∧(st).heap 2 0=some (.cells (aB (mO S0 X)))∧(st).env 4=.ptr 4 0 0∧(st).heap 4 0=some (.cells (aB eF))∧(st).env 9=.own a g∧(st).heap a g=some (.row 27 32 R.length (gJ R))∧(st).env 10=.v (.int .i64 (AB w)))∧((a=66∧g=0)∨(a=105∧g<st.aQ 105))∧(X=ov aJ w.O∨∃g' L,w.O=some L∧X=.own 91 g'∧g'<st.aQ 91∧st.heap 91 g'=some (.row 74 238 L.length (aJ L)))∧GI S0 w q∧RG S0 w∧S0.cFg=s.cFg∧R.length+(ol w.O).length≤1+(ol v.O).length∧m=(ol w.O).length
def o7 (s:aP) (v:SV) (q:Int) (e:Ex) (st:St):Prop:=e=.exit 0∧∃(S0:aP) (w:SV) (X:AV) (R:List cM) (a g:Nat),(st.env 2=.ptr 2 0 0∧st.heap 2 0=some (.cells (aB (mO S0 X)))∧st.env 4=.ptr 4 0 0∧st.heap 4 0=some (.cells (aB eF))∧st.env 9=.own a g∧st.heap a g=some (.row 27 32 R.length (gJ R)))∧a≠4∧(X=ov aJ w.O∨∃g' L,w.O=some L∧X=.own 91 g'∧st.heap 91 g'=some (.row 74 238 L.length (aJ L)))∧GI S0 w q∧RG S0 w∧S0.cFg=s.cFg∧R.length≤1+(ol v.O).length
theorem FL {s:aP} {v:SV} {q:Int} (nb:((ol v.O).length:Int)≤64) {m:Nat} {st:St} (hs:aPv s v q m st):∃e st',yH Tryz.prog Ar st=some (e,st')∧o7 s v q e st':=by
 have key:∃r,cD (yH Tryz.prog Ar st) some=some r∧o7 s v q r.1 r.2:=by
  unfold Ar;simp only[Tryz.f203,Option.getD_some,kJ];refine cH (fun m st=>∃(S0:aP) (w:SV) (X:AV) (R:List cM) (a g:Nat),((st).env 2=.ptr 2 0 0∧(st).heap 2 0=some (.cells (aB (mO S0 X)))∧(st).env 4=.ptr 4 0 0∧(st).heap 4 0=some (.cells (aB eF))∧(st).env 9=.own a g∧(st).heap a g=some (.row 27 32 R.length (gJ R))∧(st).env 10=.v (.int .i64 (AB w)))∧((a=66∧g=0)∨(a=105∧g<st.aQ 105))∧(X=ov aJ w.O∨∃g' L,w.O=some L∧X=.own 91 g'∧g'<st.aQ 91∧st.heap 91 g'=some (.row 74 238 L.length (aJ L)))∧GI S0 w q∧RG S0 w∧S0.cFg=s.cFg∧R.length+(ol w.O).length≤1+(ol v.O).length∧m=(ol w.O).length) (fun e st=>e=.exit 0∧∃(S0:aP) (w:SV) (X:AV) (R:List cM) (a g:Nat),(st.env 2=.ptr 2 0 0∧st.heap 2 0=some (.cells (aB (mO S0 X)))∧st.env 4=.ptr 4 0 0∧st.heap 4 0=some (.cells (aB eF))∧st.env 9=.own a g∧st.heap a g=some (.row 27 32 R.length (gJ R)))∧a≠4∧(X=ov aJ w.O∨∃g' L,w.O=some L∧X=.own 91 g'∧st.heap 91 g'=some (.row 74 238 L.length (aJ L)))∧GI S0 w q∧RG S0 w∧S0.cFg=s.cFg∧R.length≤1+(ol v.O).length) m ?step ?start ?rest
  case start=>exact hs
  case rest=>exact fun e st h=>⟨_,rfl,h⟩
  case step =>
   clear hs
   rintro m st ⟨S0,w,X,R,a,g,hI,FG,hX,hG,oD,hC,hR,hm⟩
   have hlO:=hG.nO
   have hlB:=hG.KZ
   by_cases bB:0≤AB w
   case neg =>
    have hI':=hI
    have hX':X=ov aJ w.O∨∃g' L,w.O=some L∧X=.own 91 g'∧st.heap 91 g'=some (.row 74 238 L.length (aJ L)):=hX.imp id fun ⟨g',L,h1,h2,_,h4⟩=>⟨g',L,h1,h2,h4⟩
    apply oT (.exit 0)
    ·simp only[Z8,seval,hI,bB];rfl
    ·exact⟨rfl,S0,w,X,R,a,g,by simp only[E8,seval,hI],by omega,by simpa only[E8,seval] using hX',hG,oD,hC,by omega⟩
   obtain⟨k,hk,hkp,hkw⟩:∃k:Nat,k<(ol w.O).length∧0≤aM w.ns (gx fB (ol w.O) k).parent∧AB w=k:=by
    rcases yP (fun k=>0≤aM w.ns (gx fB (ol w.O) k).parent) (ol w.O).length with ⟨e,_⟩|⟨k,h1,h2,_,h3⟩
    ·have:AB w=-1:=e;omega
    ·exact⟨k,h1,h2,h3⟩
   rw[hkw] at hI bB;have q0:(0:Int)≤k:=by omega
   have q1:(k:Int)<((ol w.O).length:Int):=by omega
   have q2:(k:Int)≤((ol w.O).length:Int):=by omega
   have q3:(0:Int)≤((k+1:Nat):Int):=by omega
   have q4:((k+1:Nat):Int)≤((ol w.O).length:Int):=by omega
   have hw:IntKind.i64.wrap ((k:Int)+1)=((k+1:Nat):Int):=by rw[qA _ (by omega) (by omega)];omega
   obtain⟨bb,wL⟩:∃bb,gx fB (ol w.O) (k:Int)=bb:=⟨_,rfl⟩
   have n1:((((ol w.O).take k).length:Nat):Int)<1000000:=by rw[List.length_take];omega
   have n2:((((ol w.O).drop (k+1)).length:Nat):Int)<1000000:=by rw[List.length_drop];omega
   obtain⟨LL,Zu⟩:∃LL,(ol w.O).take k++(ol w.O).drop (k+1)=LL:=⟨_,rfl⟩
   have nl:LL.length+1=(ol w.O).length:=by rw[← Zu,List.length_append,List.length_take,List.length_drop];omega
   have hmem:∀b∈LL,b∈ol w.O:=fun b hb=>by rw[← Zu] at hb;exact (List.mem_append.1 hb).elim List.mem_of_mem_take List.mem_of_mem_drop
   have nR:(R.length:Int)<1000000:=by omega
   have hbm:bb∈ol w.O:=by rw[← wL];exact uY q0 q1
   have e1:ol (w.O.map (·.take k))=(ol w.O).take k:=by cases w.O<;>simp[ol]
   have e2:ol (w.O.map (·.drop (k+1)))=(ol w.O).drop (k+1):=by cases w.O<;>simp[ol]
   by_cases hz:LL=[]
   ·skip
    have hT:((ol w.O).take k).length=0:=by have:=congrArg List.length Zu;rw[hz,List.length_append] at this;simp only[List.length_nil] at this;omega
    have hD:((ol w.O).drop (k+1)).length=0:=by have:=congrArg List.length Zu;rw[hz,List.length_append] at this;simp only[List.length_nil] at this;omega
    have Pl:(ol w.O).length=1:=by rw[hz] at nl;simpa using nl.symm
    have Nf:=hG.SE none (by show ((0:Nat):Int)≤_;omega)
    have Cp:RG (mO S0 (ov aJ none)) { w with O:=none }:=oD.SE none (ov aJ none) (fun b hb=>by cases hb) nofun
    have Wh:∀(st:St) (d:Option Nat),aN (aC Tryz.prog) 52 [.agg (aB (mO S0 (.v (.slice none 0 0)))),.agg (aU bb)] st d=_:=k52 Nf.sd Nf.up Nf.sp bb
    have Jq:∀(st:St) (d:Option Nat),aN (aC Tryz.prog) 218 [.agg (aB (mO S0 (.v (.slice none 0 0))))] st d=_:=KW Nf.sd
    have hO2:(ol (lE (mO S0 (ov aJ none)) { w with O:=none } bb).O).length≤0:=SG _ _ _
    obtain⟨c,hc⟩:∃c,Jo (mO S0 (ov aJ none)) { w with O:=none } bb=c:=⟨_,rfl⟩
    rw[hc] at Wh;by_cases qD:c=0
    ·rw[qD] at hc;have Sb:=Nf.ins hc
     have Cq:=Cp.ins (oD.or bb hbm) hc
     have LO:=(Ap (mO S0 (ov aJ none)) { w with O:=none } bb).1
     have DI:∀(st:St) (d:Option Nat),fC (aC Tryz.prog) 217 [.agg (aB (mO S0 (.v (.slice none 0 0)))),.agg (aU bb)] st d=_:=aKM Nf hc
     have pI:=KW Sb.sd
     obtain⟨S2,hS2⟩:∃S2,sJ (mO S0 (ov aJ none)) { w with O:=none } bb=S2:=⟨_,rfl⟩
     rw[hS2] at DI Sb Cq pI LO
     have Kv:=sL Sb.sd
     simp only[mO] at Wh Jq DI hI;rcases hX with rfl|⟨g',L,hL,rfl,hg1,LP⟩
     ·rcases FG with ⟨rfl,rfl⟩|⟨rfl,hg⟩
      ·refine oP (st':=?_) ?_ ((ol (lE (mO S0 (ov aJ none)) { w with O:=none } bb).O).length) (by omega) ?_
       rotate_left
       ·simp only[Z8,seval,hI,bB,q0,q1,q2,q3,q4,hw,wL,Int.toNat_natCast,iF,iG,oK,Option.isSome_some,Option.map_some,Option.some.injEq,hT,hD,Wh,Jq,e1,e2,bt qD,DI,pI,oE _ _ _ _ nR];rfl
       ·refine⟨S2,lE (mO S0 (ov aJ none)) { w with O:=none } bb,_,R++[bb.root],105,st.aQ 105, ?_,.inr ⟨rfl,by simp only[E8,seval]<;>omega⟩,.inl rfl,Sb,Cq,LO.trans hC, ?_,rfl⟩
        ·rw[Kv];simp only[E8,seval,hI]<;>rfl
        ·rw[List.length_append,List.length_cons,List.length_nil];omega
      ·have vC:(g=st.aQ 105)=False:=eq_false (by omega)
       refine oP (st':=?_) ?_ ((ol (lE (mO S0 (ov aJ none)) { w with O:=none } bb).O).length) (by omega) ?_
       rotate_left
       ·simp only[Z8,seval,hI,bB,q0,q1,q2,q3,q4,hw,wL,Int.toNat_natCast,iF,iG,oK,Option.isSome_some,Option.map_some,Option.some.injEq,hT,hD,Wh,Jq,e1,e2,vC,bt qD,DI,pI,oE _ _ _ _ nR];rfl
       ·refine⟨S2,lE (mO S0 (ov aJ none)) { w with O:=none } bb,_,R++[bb.root],105,st.aQ 105, ?_,.inr ⟨rfl,by simp only[E8,seval]<;>omega⟩,.inl rfl,Sb,Cq,LO.trans hC, ?_,rfl⟩
        ·rw[Kv];simp only[E8,seval,hI]<;>rfl
        ·rw[List.length_append,List.length_cons,List.length_nil];omega
     ·have eL:ol w.O=L:=by rw[hL];rfl
      have LQ:(g'=st.aQ 91)=False:=eq_false (by omega)
      obtain⟨X1,LR,Gv⟩:=Qa (L:=L) (k:=k) (by rw[← eL];omega) 91 g'
      obtain⟨X2,LS,Gw⟩:=Cl (L:=L) (k:=k+1) (by rw[← eL];omega) 91 g'
      have Wi:(k:Int)<(L.length:Int):=by rw[← eL];omega
      have Wj:=yY (T:=74) (n:=L.length) (k:=238) q0 Wi SX (by decide) (by decide)
      simp only[Int.toNat_natCast] at Wj;subst eL;rcases FG with ⟨rfl,rfl⟩|⟨rfl,hg⟩
      ·refine oP (st':=?_) ?_ ((ol (lE (mO S0 (ov aJ none)) { w with O:=none } bb).O).length) (by omega) ?_
       rotate_left
       ·simp only[Z8,seval,hI,bB,q0,q1,q2,q3,q4,hw,wL,Int.toNat_natCast,iF,iG,oK,Option.isSome_some,Option.map_some,Option.some.injEq,hT,hD,Wh,Jq,LP,LQ,LR _ _,Gv,LS _ _,Gw,Wi,Wj,bt qD,DI,pI,oE _ _ _ _ nR];rfl
       ·refine⟨S2,lE (mO S0 (ov aJ none)) { w with O:=none } bb,_,R++[bb.root],105,st.aQ 105, ?_,.inr ⟨rfl,by simp only[E8,seval]<;>omega⟩,.inl rfl,Sb,Cq,LO.trans hC, ?_,rfl⟩
        ·rw[Kv];simp only[E8,seval,hI]<;>rfl
        ·rw[List.length_append,List.length_cons,List.length_nil];omega
      ·have vC:(g=st.aQ 105)=False:=eq_false (by omega)
       refine oP (st':=?_) ?_ ((ol (lE (mO S0 (ov aJ none)) { w with O:=none } bb).O).length) (by omega) ?_
       rotate_left
       ·simp only[Z8,seval,hI,bB,q0,q1,q2,q3,q4,hw,wL,Int.toNat_natCast,iF,iG,oK,Option.isSome_some,Option.map_some,Option.some.injEq,hT,hD,Wh,Jq,LP,LQ,LR _ _,Gv,LS _ _,Gw,Wi,Wj,vC,bt qD,DI,pI,oE _ _ _ _ nR];rfl
       ·refine⟨S2,lE (mO S0 (ov aJ none)) { w with O:=none } bb,_,R++[bb.root],105,st.aQ 105, ?_,.inr ⟨rfl,by simp only[E8,seval]<;>omega⟩,.inl rfl,Sb,Cq,LO.trans hC, ?_,rfl⟩
        ·rw[Kv];simp only[E8,seval,hI]<;>rfl
        ·rw[List.length_append,List.length_cons,List.length_nil];omega
    ·simp only[mO] at Wh Jq hI;rcases hX with rfl|⟨g',L,hL,rfl,hg1,LP⟩
     ·rcases FG with ⟨rfl,rfl⟩|⟨rfl,hg⟩
      ·refine oP (st':=?_) ?_ 0 (by omega) ?_
       rotate_left
       ·simp only[Z8,seval,hI,bB,q0,q1,q2,q3,q4,hw,wL,Int.toNat_natCast,iF,iG,oK,Option.isSome_some,Option.map_some,Option.some.injEq,hT,hD,Wh,Jq,e1,e2,bf qD];rfl
       ·refine⟨(mO S0 (ov aJ none)),{ w with O:=none },ov aJ none,R,_,_, ?_,.inl ⟨rfl,rfl⟩,.inl rfl,Nf,Cp,hC,by show R.length+0≤_;omega,rfl⟩
        simp only[E8,seval,hI]<;>rfl
      ·have vC:(g=st.aQ 105)=False:=eq_false (by omega)
       refine oP (st':=?_) ?_ 0 (by omega) ?_
       rotate_left
       ·simp only[Z8,seval,hI,bB,q0,q1,q2,q3,q4,hw,wL,Int.toNat_natCast,iF,iG,oK,Option.isSome_some,Option.map_some,Option.some.injEq,hT,hD,Wh,Jq,e1,e2,vC,bf qD];rfl
       ·refine⟨(mO S0 (ov aJ none)),{ w with O:=none },ov aJ none,R,_,_, ?_,.inr ⟨rfl,by simp only[E8,seval]<;>omega⟩,.inl rfl,Nf,Cp,hC,by show R.length+0≤_;omega,rfl⟩
        simp only[E8,seval,hI]<;>rfl
     ·have eL:ol w.O=L:=by rw[hL];rfl
      have LQ:(g'=st.aQ 91)=False:=eq_false (by omega)
      obtain⟨X1,LR,Gv⟩:=Qa (L:=L) (k:=k) (by rw[← eL];omega) 91 g'
      obtain⟨X2,LS,Gw⟩:=Cl (L:=L) (k:=k+1) (by rw[← eL];omega) 91 g'
      have Wi:(k:Int)<(L.length:Int):=by rw[← eL];omega
      have Wj:=yY (T:=74) (n:=L.length) (k:=238) q0 Wi SX (by decide) (by decide)
      simp only[Int.toNat_natCast] at Wj;subst eL;rcases FG with ⟨rfl,rfl⟩|⟨rfl,hg⟩
      ·refine oP (st':=?_) ?_ 0 (by omega) ?_
       rotate_left
       ·simp only[Z8,seval,hI,bB,q0,q1,q2,q3,q4,hw,wL,Int.toNat_natCast,iF,iG,oK,Option.isSome_some,Option.map_some,Option.some.injEq,hT,hD,Wh,Jq,LP,LQ,LR _ _,Gv,LS _ _,Gw,Wi,Wj,bf qD];rfl
       ·refine⟨(mO S0 (ov aJ none)),{ w with O:=none },ov aJ none,R,_,_, ?_,.inl ⟨rfl,rfl⟩,.inl rfl,Nf,Cp,hC,by show R.length+0≤_;omega,rfl⟩
        simp only[E8,seval,hI]<;>rfl
      ·have vC:(g=st.aQ 105)=False:=eq_false (by omega)
       refine oP (st':=?_) ?_ 0 (by omega) ?_
       rotate_left
       ·simp only[Z8,seval,hI,bB,q0,q1,q2,q3,q4,hw,wL,Int.toNat_natCast,iF,iG,oK,Option.isSome_some,Option.map_some,Option.some.injEq,hT,hD,Wh,Jq,LP,LQ,LR _ _,Gv,LS _ _,Gw,Wi,Wj,vC,bf qD];rfl
       ·refine⟨(mO S0 (ov aJ none)),{ w with O:=none },ov aJ none,R,_,_, ?_,.inr ⟨rfl,by simp only[E8,seval]<;>omega⟩,.inl rfl,Nf,Cp,hC,by show R.length+0≤_;omega,rfl⟩
        simp only[E8,seval,hI]<;>rfl
   have AE:(LL.length=0)=False:=eq_false fun h=>hz (List.length_eq_zero_iff.1 h)
   have Nf:=hG.SE (some LL) (by show ((LL.length:Nat):Int)≤_;omega)
   have rX:=aPu hG.sd Nf bb 91
   have oF:=aKN hG.sd Nf 91
   have hO2:(ol (lE (mO S0 (ov aJ (some LL))) { w with O:=some LL } bb).O).length≤LL.length:=SG _ _ _
   obtain⟨c,hc⟩:∃c,Jo (mO S0 (ov aJ (some LL))) { w with O:=some LL } bb=c:=⟨_,rfl⟩
   rw[hc] at rX
   have Cp:=oD.SE (some LL) (ov aJ (some LL)) (fun b hb=>oD.or b (hmem b hb)) (fun e=>hz (by injection e))
   have eO:∀x,mO (mO S0 (ov aJ (some LL))) x=mO S0 x:=fun x=>rfl
   by_cases tP:k=0
   ·have hT:((ol w.O).take k).length=0:=by rw[tP];rfl
    have hD:(ol w.O).drop (k+1)=LL:=by rw[← Zu,tP];rfl
    have n3:((LL.length:Nat):Int)<1000000:=by omega
    by_cases qD:c=0
    · -- taken in
     rw[qD] at hc;have Sb:=Nf.ins hc
     have Cq:=Cp.ins (oD.or bb hbm) hc
     have LO:=(Ap (mO S0 (ov aJ (some LL))) { w with O:=some LL } bb).1
     have vG:=aEb hG.sd Nf hc 91
     have pI:=KW Sb.sd
     obtain⟨S2,hS2⟩:∃S2,sJ (mO S0 (ov aJ (some LL))) { w with O:=some LL } bb=S2:=⟨_,rfl⟩
     rw[hS2] at vG Sb Cq pI LO
     have Kv:=sL Sb.sd
     have FM:(ol (lE (mO S0 (ov aJ (some LL))) { w with O:=some LL } bb).O).length<m:=by omega
     have FN:(R++[bb.root]).length+(ol (lE (mO S0 (ov aJ (some LL))) { w with O:=some LL } bb).O).length≤1+(ol v.O).length:=by rw[List.length_append,List.length_cons,List.length_nil];omega
     simp only[mO] at rX oF vG hI
     rcases hX with rfl|⟨g',L,hL,rfl,hg1,LP⟩
     · -- a list
      rcases FG with ⟨rfl,rfl⟩|⟨rfl,hg⟩
      · -- 66
       refine oP (st':=?_) ?_ ((ol (lE (mO S0 (ov aJ (some LL))) { w with O:=some LL } bb).O).length) FM ?_
       rotate_left
       ·simp only[Z8,seval,hI,bB,q0,q1,q2,q3,q4,hw,wL,Int.toNat_natCast,iP _ n3,iF,iG,oK,Option.isSome_some,Option.map_some,Option.some.injEq,hT,AE,hD,rX,oF,e1,e2,bt qD,vG,pI,oE _ _ _ _ nR];rfl
       ·refine⟨S2,lE (mO S0 (ov aJ (some LL))) { w with O:=some LL } bb,_,R++[bb.root],105,st.aQ 105, ?_,.inr ⟨rfl,by simp only[E8,seval]<;>omega⟩,.inl rfl,Sb,Cq,LO.trans hC, ?_,rfl⟩
        ·rw[Kv];simp only[E8,seval,hI]<;>rfl
        ·exact FN
      · -- 105
       have vC:(g=st.aQ 105)=False:=eq_false (by omega)
       refine oP (st':=?_) ?_ ((ol (lE (mO S0 (ov aJ (some LL))) { w with O:=some LL } bb).O).length) FM ?_
       rotate_left
       ·simp only[Z8,seval,hI,bB,q0,q1,q2,q3,q4,hw,wL,Int.toNat_natCast,iP _ n3,iF,iG,oK,Option.isSome_some,Option.map_some,Option.some.injEq,hT,AE,hD,rX,oF,e1,e2,vC,bt qD,vG,pI,oE _ _ _ _ nR];rfl
       ·refine⟨S2,lE (mO S0 (ov aJ (some LL))) { w with O:=some LL } bb,_,R++[bb.root],105,st.aQ 105, ?_,.inr ⟨rfl,by simp only[E8,seval]<;>omega⟩,.inl rfl,Sb,Cq,LO.trans hC, ?_,rfl⟩
        ·rw[Kv];simp only[E8,seval,hI]<;>rfl
        ·exact FN
     · -- a row of its own
      have eL:ol w.O=L:=by rw[hL];rfl
      have LQ:(g'=st.aQ 91)=False:=eq_false (by omega)
      obtain⟨X1,LR,Gv⟩:=Qa (L:=L) (k:=k) (by rw[← eL];omega) 91 g'
      obtain⟨X2,LS,Gw⟩:=Cl (L:=L) (k:=k+1) (by rw[← eL];omega) 91 g'
      have Wi:(k:Int)<(L.length:Int):=by rw[← eL];omega
      have Wj:=yY (T:=74) (n:=L.length) (k:=238) q0 Wi SX (by decide) (by decide)
      simp only[Int.toNat_natCast] at Wj;subst eL;rcases FG with ⟨rfl,rfl⟩|⟨rfl,hg⟩
      · -- 66
       refine oP (st':=?_) ?_ ((ol (lE (mO S0 (ov aJ (some LL))) { w with O:=some LL } bb).O).length) FM ?_
       rotate_left
       ·simp only[Z8,seval,hI,bB,q0,q1,q2,q3,q4,hw,wL,Int.toNat_natCast,iP _ n3,iF,iG,oK,Option.isSome_some,Option.map_some,Option.some.injEq,hT,AE,hD,rX,oF,LP,LQ,LR _ _,Gv,LS _ _,Gw,Wi,Wj,bt qD,vG,pI,oE _ _ _ _ nR];rfl
       ·refine⟨S2,lE (mO S0 (ov aJ (some LL))) { w with O:=some LL } bb,_,R++[bb.root],105,st.aQ 105, ?_,.inr ⟨rfl,by simp only[E8,seval]<;>omega⟩,.inl rfl,Sb,Cq,LO.trans hC, ?_,rfl⟩
        ·rw[Kv];simp only[E8,seval,hI]<;>rfl
        ·exact FN
      · -- 105
       have vC:(g=st.aQ 105)=False:=eq_false (by omega)
       refine oP (st':=?_) ?_ ((ol (lE (mO S0 (ov aJ (some LL))) { w with O:=some LL } bb).O).length) FM ?_
       rotate_left
       ·simp only[Z8,seval,hI,bB,q0,q1,q2,q3,q4,hw,wL,Int.toNat_natCast,iP _ n3,iF,iG,oK,Option.isSome_some,Option.map_some,Option.some.injEq,hT,AE,hD,rX,oF,LP,LQ,LR _ _,Gv,LS _ _,Gw,Wi,Wj,vC,bt qD,vG,pI,oE _ _ _ _ nR];rfl
       ·refine⟨S2,lE (mO S0 (ov aJ (some LL))) { w with O:=some LL } bb,_,R++[bb.root],105,st.aQ 105, ?_,.inr ⟨rfl,by simp only[E8,seval]<;>omega⟩,.inl rfl,Sb,Cq,LO.trans hC, ?_,rfl⟩
        ·rw[Kv];simp only[E8,seval,hI]<;>rfl
        ·exact FN
    · -- left out
     have FM:LL.length<m:=by omega
     have FN:R.length+LL.length≤1+(ol v.O).length:=by omega
     simp only[mO] at rX oF hI
     rcases hX with rfl|⟨g',L,hL,rfl,hg1,LP⟩
     · -- a list
      rcases FG with ⟨rfl,rfl⟩|⟨rfl,hg⟩
      · -- 66
       refine oP (st':=?_) ?_ (LL.length) FM ?_
       rotate_left
       ·simp only[Z8,seval,hI,bB,q0,q1,q2,q3,q4,hw,wL,Int.toNat_natCast,iP _ n3,iF,iG,oK,Option.isSome_some,Option.map_some,Option.some.injEq,hT,AE,hD,rX,oF,e1,e2,bf qD];rfl
       ·refine⟨(mO S0 (ov aJ (some LL))),{ w with O:=some LL },_,R,_,_, ?_,.inl ⟨rfl,rfl⟩,.inr ⟨st.aQ 91,_,rfl,rfl,by simp only[E8,seval]<;>omega,by simp only[E8,seval]<;>rfl⟩,Nf,Cp,hC,FN,rfl⟩
        simp only[E8,seval,hI]<;>rfl
      · -- 105
       have vC:(g=st.aQ 105)=False:=eq_false (by omega)
       refine oP (st':=?_) ?_ (LL.length) FM ?_
       rotate_left
       ·simp only[Z8,seval,hI,bB,q0,q1,q2,q3,q4,hw,wL,Int.toNat_natCast,iP _ n3,iF,iG,oK,Option.isSome_some,Option.map_some,Option.some.injEq,hT,AE,hD,rX,oF,e1,e2,vC,bf qD];rfl
       ·refine⟨(mO S0 (ov aJ (some LL))),{ w with O:=some LL },_,R,_,_, ?_,.inr ⟨rfl,by simp only[E8,seval]<;>omega⟩,.inr ⟨st.aQ 91,_,rfl,rfl,by simp only[E8,seval]<;>omega,by simp only[E8,seval]<;>rfl⟩,Nf,Cp,hC,FN,rfl⟩
        simp only[E8,seval,hI]<;>rfl
     · -- a row of its own
      have eL:ol w.O=L:=by rw[hL];rfl
      have LQ:(g'=st.aQ 91)=False:=eq_false (by omega)
      obtain⟨X1,LR,Gv⟩:=Qa (L:=L) (k:=k) (by rw[← eL];omega) 91 g'
      obtain⟨X2,LS,Gw⟩:=Cl (L:=L) (k:=k+1) (by rw[← eL];omega) 91 g'
      have Wi:(k:Int)<(L.length:Int):=by rw[← eL];omega
      have Wj:=yY (T:=74) (n:=L.length) (k:=238) q0 Wi SX (by decide) (by decide)
      simp only[Int.toNat_natCast] at Wj;subst eL;rcases FG with ⟨rfl,rfl⟩|⟨rfl,hg⟩
      · -- 66
       refine oP (st':=?_) ?_ (LL.length) FM ?_
       rotate_left
       ·simp only[Z8,seval,hI,bB,q0,q1,q2,q3,q4,hw,wL,Int.toNat_natCast,iP _ n3,iF,iG,oK,Option.isSome_some,Option.map_some,Option.some.injEq,hT,AE,hD,rX,oF,LP,LQ,LR _ _,Gv,LS _ _,Gw,Wi,Wj,bf qD];rfl
       ·refine⟨(mO S0 (ov aJ (some LL))),{ w with O:=some LL },_,R,_,_, ?_,.inl ⟨rfl,rfl⟩,.inr ⟨st.aQ 91,_,rfl,rfl,by simp only[E8,seval]<;>omega,by simp only[E8,seval]<;>rfl⟩,Nf,Cp,hC,FN,rfl⟩
        simp only[E8,seval,hI]<;>rfl
      · -- 105
       have vC:(g=st.aQ 105)=False:=eq_false (by omega)
       refine oP (st':=?_) ?_ (LL.length) FM ?_
       rotate_left
       ·simp only[Z8,seval,hI,bB,q0,q1,q2,q3,q4,hw,wL,Int.toNat_natCast,iP _ n3,iF,iG,oK,Option.isSome_some,Option.map_some,Option.some.injEq,hT,AE,hD,rX,oF,LP,LQ,LR _ _,Gv,LS _ _,Gw,Wi,Wj,vC,bf qD];rfl
       ·refine⟨(mO S0 (ov aJ (some LL))),{ w with O:=some LL },_,R,_,_, ?_,.inr ⟨rfl,by simp only[E8,seval]<;>omega⟩,.inr ⟨st.aQ 91,_,rfl,rfl,by simp only[E8,seval]<;>omega,by simp only[E8,seval]<;>rfl⟩,Nf,Cp,hC,FN,rfl⟩
        simp only[E8,seval,hI]<;>rfl
   have hT:(((ol w.O).take k).length=0)=False:=eq_false (by rw[List.length_take];omega)
   by_cases qD:c=0
   · -- taken in
    rw[qD] at hc;have Sb:=Nf.ins hc
    have Cq:=Cp.ins (oD.or bb hbm) hc
    have LO:=(Ap (mO S0 (ov aJ (some LL))) { w with O:=some LL } bb).1
    have vG:=aEb hG.sd Nf hc 91
    have pI:=KW Sb.sd
    obtain⟨S2,hS2⟩:∃S2,sJ (mO S0 (ov aJ (some LL))) { w with O:=some LL } bb=S2:=⟨_,rfl⟩
    rw[hS2] at vG Sb Cq pI LO
    have Kv:=sL Sb.sd
    have FM:(ol (lE (mO S0 (ov aJ (some LL))) { w with O:=some LL } bb).O).length<m:=by omega
    have FN:(R++[bb.root]).length+(ol (lE (mO S0 (ov aJ (some LL))) { w with O:=some LL } bb).O).length≤1+(ol v.O).length:=by rw[List.length_append,List.length_cons,List.length_nil];omega
    simp only[mO] at rX oF vG hI
    rcases hX with rfl|⟨g',L,hL,rfl,hg1,LP⟩
    · -- a list
     rcases FG with ⟨rfl,rfl⟩|⟨rfl,hg⟩
     · -- 66
      refine oP (st':=?_) ?_ ((ol (lE (mO S0 (ov aJ (some LL))) { w with O:=some LL } bb).O).length) FM ?_
      rotate_left
      ·simp only[Z8,seval,hI,bB,q0,q1,q2,q3,q4,hw,wL,Int.toNat_natCast,iP _ n1,rD _ _ _ _ n1 n2,iF,iG,oK,Option.isSome_some,Option.map_some,Option.some.injEq,hT,AE,Zu,rX,oF,e1,e2,bt qD,vG,pI,oE _ _ _ _ nR];rfl
      ·refine⟨S2,lE (mO S0 (ov aJ (some LL))) { w with O:=some LL } bb,_,R++[bb.root],105,st.aQ 105, ?_,.inr ⟨rfl,by simp only[E8,seval]<;>omega⟩,.inl rfl,Sb,Cq,LO.trans hC, ?_,rfl⟩
       ·rw[Kv];simp only[E8,seval,hI]<;>rfl
       ·exact FN
     · -- 105
      have vC:(g=st.aQ 105)=False:=eq_false (by omega)
      refine oP (st':=?_) ?_ ((ol (lE (mO S0 (ov aJ (some LL))) { w with O:=some LL } bb).O).length) FM ?_
      rotate_left
      ·simp only[Z8,seval,hI,bB,q0,q1,q2,q3,q4,hw,wL,Int.toNat_natCast,iP _ n1,rD _ _ _ _ n1 n2,iF,iG,oK,Option.isSome_some,Option.map_some,Option.some.injEq,hT,AE,Zu,rX,oF,e1,e2,vC,bt qD,vG,pI,oE _ _ _ _ nR];rfl
      ·refine⟨S2,lE (mO S0 (ov aJ (some LL))) { w with O:=some LL } bb,_,R++[bb.root],105,st.aQ 105, ?_,.inr ⟨rfl,by simp only[E8,seval]<;>omega⟩,.inl rfl,Sb,Cq,LO.trans hC, ?_,rfl⟩
       ·rw[Kv];simp only[E8,seval,hI]<;>rfl
       ·exact FN
    · -- a row of its own
     have eL:ol w.O=L:=by rw[hL];rfl
     have LQ:(g'=st.aQ 91)=False:=eq_false (by omega)
     obtain⟨X1,LR,Gv⟩:=Qa (L:=L) (k:=k) (by rw[← eL];omega) 91 g'
     obtain⟨X2,LS,Gw⟩:=Cl (L:=L) (k:=k+1) (by rw[← eL];omega) 91 g'
     have Wi:(k:Int)<(L.length:Int):=by rw[← eL];omega
     have Wj:=yY (T:=74) (n:=L.length) (k:=238) q0 Wi SX (by decide) (by decide)
     simp only[Int.toNat_natCast] at Wj;subst eL;rcases FG with ⟨rfl,rfl⟩|⟨rfl,hg⟩
     · -- 66
      refine oP (st':=?_) ?_ ((ol (lE (mO S0 (ov aJ (some LL))) { w with O:=some LL } bb).O).length) FM ?_
      rotate_left
      ·simp only[Z8,seval,hI,bB,q0,q1,q2,q3,q4,hw,wL,Int.toNat_natCast,iP _ n1,rD _ _ _ _ n1 n2,iF,iG,oK,Option.isSome_some,Option.map_some,Option.some.injEq,hT,AE,Zu,rX,oF,LP,LQ,LR _ _,Gv,LS _ _,Gw,Wi,Wj,bt qD,vG,pI,oE _ _ _ _ nR];rfl
      ·refine⟨S2,lE (mO S0 (ov aJ (some LL))) { w with O:=some LL } bb,_,R++[bb.root],105,st.aQ 105, ?_,.inr ⟨rfl,by simp only[E8,seval]<;>omega⟩,.inl rfl,Sb,Cq,LO.trans hC, ?_,rfl⟩
       ·rw[Kv];simp only[E8,seval,hI]<;>rfl
       ·exact FN
     · -- 105
      have vC:(g=st.aQ 105)=False:=eq_false (by omega)
      refine oP (st':=?_) ?_ ((ol (lE (mO S0 (ov aJ (some LL))) { w with O:=some LL } bb).O).length) FM ?_
      rotate_left
      ·simp only[Z8,seval,hI,bB,q0,q1,q2,q3,q4,hw,wL,Int.toNat_natCast,iP _ n1,rD _ _ _ _ n1 n2,iF,iG,oK,Option.isSome_some,Option.map_some,Option.some.injEq,hT,AE,Zu,rX,oF,LP,LQ,LR _ _,Gv,LS _ _,Gw,Wi,Wj,vC,bt qD,vG,pI,oE _ _ _ _ nR];rfl
      ·refine⟨S2,lE (mO S0 (ov aJ (some LL))) { w with O:=some LL } bb,_,R++[bb.root],105,st.aQ 105, ?_,.inr ⟨rfl,by simp only[E8,seval]<;>omega⟩,.inl rfl,Sb,Cq,LO.trans hC, ?_,rfl⟩
       ·rw[Kv];simp only[E8,seval,hI]<;>rfl
       ·exact FN
   · -- left out
    have FM:LL.length<m:=by omega
    have FN:R.length+LL.length≤1+(ol v.O).length:=by omega
    simp only[mO] at rX oF hI
    rcases hX with rfl|⟨g',L,hL,rfl,hg1,LP⟩
    · -- a list
     rcases FG with ⟨rfl,rfl⟩|⟨rfl,hg⟩
     · -- 66
      refine oP (st':=?_) ?_ (LL.length) FM ?_
      rotate_left
      ·simp only[Z8,seval,hI,bB,q0,q1,q2,q3,q4,hw,wL,Int.toNat_natCast,iP _ n1,rD _ _ _ _ n1 n2,iF,iG,oK,Option.isSome_some,Option.map_some,Option.some.injEq,hT,AE,Zu,rX,oF,e1,e2,bf qD];rfl
      ·refine⟨(mO S0 (ov aJ (some LL))),{ w with O:=some LL },_,R,_,_, ?_,.inl ⟨rfl,rfl⟩,.inr ⟨st.aQ 91,_,rfl,rfl,by simp only[E8,seval]<;>omega,by simp only[E8,seval]<;>rfl⟩,Nf,Cp,hC,FN,rfl⟩
       simp only[E8,seval,hI]<;>rfl
     · -- 105
      have vC:(g=st.aQ 105)=False:=eq_false (by omega)
      refine oP (st':=?_) ?_ (LL.length) FM ?_
      rotate_left
      ·simp only[Z8,seval,hI,bB,q0,q1,q2,q3,q4,hw,wL,Int.toNat_natCast,iP _ n1,rD _ _ _ _ n1 n2,iF,iG,oK,Option.isSome_some,Option.map_some,Option.some.injEq,hT,AE,Zu,rX,oF,e1,e2,vC,bf qD];rfl
      ·refine⟨(mO S0 (ov aJ (some LL))),{ w with O:=some LL },_,R,_,_, ?_,.inr ⟨rfl,by simp only[E8,seval]<;>omega⟩,.inr ⟨st.aQ 91,_,rfl,rfl,by simp only[E8,seval]<;>omega,by simp only[E8,seval]<;>rfl⟩,Nf,Cp,hC,FN,rfl⟩
       simp only[E8,seval,hI]<;>rfl
    · -- a row of its own
     have eL:ol w.O=L:=by rw[hL];rfl
     have LQ:(g'=st.aQ 91)=False:=eq_false (by omega)
     obtain⟨X1,LR,Gv⟩:=Qa (L:=L) (k:=k) (by rw[← eL];omega) 91 g'
     obtain⟨X2,LS,Gw⟩:=Cl (L:=L) (k:=k+1) (by rw[← eL];omega) 91 g'
     have Wi:(k:Int)<(L.length:Int):=by rw[← eL];omega
     have Wj:=yY (T:=74) (n:=L.length) (k:=238) q0 Wi SX (by decide) (by decide)
     simp only[Int.toNat_natCast] at Wj;subst eL;rcases FG with ⟨rfl,rfl⟩|⟨rfl,hg⟩
     · -- 66
      refine oP (st':=?_) ?_ (LL.length) FM ?_
      rotate_left
      ·simp only[Z8,seval,hI,bB,q0,q1,q2,q3,q4,hw,wL,Int.toNat_natCast,iP _ n1,rD _ _ _ _ n1 n2,iF,iG,oK,Option.isSome_some,Option.map_some,Option.some.injEq,hT,AE,Zu,rX,oF,LP,LQ,LR _ _,Gv,LS _ _,Gw,Wi,Wj,bf qD];rfl
      ·refine⟨(mO S0 (ov aJ (some LL))),{ w with O:=some LL },_,R,_,_, ?_,.inl ⟨rfl,rfl⟩,.inr ⟨st.aQ 91,_,rfl,rfl,by simp only[E8,seval]<;>omega,by simp only[E8,seval]<;>rfl⟩,Nf,Cp,hC,FN,rfl⟩
       simp only[E8,seval,hI]<;>rfl
     · -- 105
      have vC:(g=st.aQ 105)=False:=eq_false (by omega)
      refine oP (st':=?_) ?_ (LL.length) FM ?_
      rotate_left
      ·simp only[Z8,seval,hI,bB,q0,q1,q2,q3,q4,hw,wL,Int.toNat_natCast,iP _ n1,rD _ _ _ _ n1 n2,iF,iG,oK,Option.isSome_some,Option.map_some,Option.some.injEq,hT,AE,Zu,rX,oF,LP,LQ,LR _ _,Gv,LS _ _,Gw,Wi,Wj,vC,bf qD];rfl
      ·refine⟨(mO S0 (ov aJ (some LL))),{ w with O:=some LL },_,R,_,_, ?_,.inr ⟨rfl,by simp only[E8,seval]<;>omega⟩,.inr ⟨st.aQ 91,_,rfl,rfl,by simp only[E8,seval]<;>omega,by simp only[E8,seval]<;>rfl⟩,Nf,Cp,hC,FN,rfl⟩
       simp only[E8,seval,hI]<;>rfl
 obtain⟨r,h,hq⟩:=key
 cases hx:yH Tryz.prog Ar st with
 | none=>rw[hx] at h;cases h
 | some y=>rw[hx] at h;simp only[cU,Option.some.injEq] at h;subst h;exact⟨y.1,y.2,rfl,hq⟩
end Go.Ab.Tryz
