/-
  Part 14 of the proof: an evaluator of programs, its soundness, and what functions of this program compute.
-/
import Derived.Test.YtmcjkemalibacaaGreatK13
import Derived.Test.YtmcjkemalibacaaGreatK10
import Derived.Test.YtmcjkemalibacaaGreatK12
set_option linter.all false
set_option maxRecDepth 20000
set_option maxHeartbeats 40000000
namespace Go.Ab.Tryz
open Classical Go.Proofs Go.Ab
theorem aQc (n:Int):∃x,aC Tryz.prog 111 [.v (.int .i64 n)]=some x∧∃w:rL,x=.agg (gF w):=by
 obtain⟨j,hj⟩:∃j,(IntKind.i64.wrap ((BitVec.ofInt IntKind.i64.bits (((n).fdiv (2 ^ min 9 IntKind.i64.bits))) &&& BitVec.ofInt IntKind.i64.bits 3).toNat:Int))=j:=⟨_,rfl⟩
 have hb:=Jw ((n).fdiv (2 ^ min 9 IntKind.i64.bits)) 3 (by decide)
 rw[hj] at hb;have j0:=hb.1
 have j1:j<4:=by omega
 have j3:j.toNat<4:=by omega
 have j4:j.toNat≤3:=by omega
 have Yj:∀(w:rL) (x:Int),dJ (gF w) j.toNat [.v (.int .u64 x)] (j.toNat+1)=gF (w.set j.toNat x):=fun w x=>qZ w j.toNat _ x j3 rfl
 have fw:∀w:rL,Flat (.agg (gF w))=True:=fun w=>eq_true (.agg _ (iM w))
 rw[cL Tryz.func111 rfl aLs rfl];by_cases c1:(IntKind.i64.wrap ((BitVec.ofInt IntKind.i64.bits (((n).fdiv (2 ^ min 7 IntKind.i64.bits))) &&& BitVec.ofInt IntKind.i64.bits 3).toNat:Int))=1
 ·simp only[Z8,seval,bt c1,qZ,Nat.reduceLT,Ik,hj,j0,j1,j4,Yj,Nat.mul_one,xS];exact⟨_,fI rfl (by simp only[E8,seval,fw]<;>rfl) (by simp only[Z8,seval,fw]<;>rfl) (by simp only[dU,and_self,fw]),_,rfl⟩
 by_cases c2:(IntKind.i64.wrap ((BitVec.ofInt IntKind.i64.bits (((n).fdiv (2 ^ min 7 IntKind.i64.bits))) &&& BitVec.ofInt IntKind.i64.bits 3).toNat:Int))=2
 ·simp only[Z8,seval,bf c1,bt c2,qZ,Nat.reduceLT,Ik,hj,j0,j1,j4,Yj,Nat.mul_one,xS];exact⟨_,fI rfl (by simp only[E8,seval,fw]<;>rfl) (by simp only[Z8,seval,fw]<;>rfl) (by simp only[dU,and_self,fw]),_,rfl⟩
 by_cases c3:(IntKind.i64.wrap ((BitVec.ofInt IntKind.i64.bits (((n).fdiv (2 ^ min 7 IntKind.i64.bits))) &&& BitVec.ofInt IntKind.i64.bits 3).toNat:Int))=3
 ·simp only[Z8,seval,bf c1,bf c2,bt c3,qZ,Nat.reduceLT,Ik,hj,j0,j1,j4,Yj,Nat.mul_one,xS];exact⟨_,fI rfl (by simp only[E8,seval,fw]<;>rfl) (by simp only[Z8,seval,fw]<;>rfl) (by simp only[dU,and_self,fw]),_,rfl⟩
 simp only[Z8,seval,bf c1,bf c2,bf c3,qZ,Nat.reduceLT,Ik,hj,j0,j1,j4,Yj,Nat.mul_one,xS];exact⟨_,fI rfl (by simp only[E8,seval,fw]<;>rfl) (by simp only[Z8,seval,fw]<;>rfl) (by simp only[dU,and_self,fw]),_,rfl⟩
theorem aQd (n k:Int) (h0:0<n) (h1:n≤1000):∃r,aC Tryz.prog 182 [.v (.int .i64 n),.v (.int .i64 k)]=some r∧∃x:fY,r=.agg (bZ x)∧xB x.first∧xB x.second∧Rg x.first.source∧Rg x.first.target∧Rg x.second.source∧Rg x.second.target:=by
 obtain⟨l,kl,hl⟩:=k45 n k h0 h1
 obtain⟨m,km,hm⟩:=k45 n ((k).fdiv (2 ^ min 6 IntKind.i64.bits)) h0 h1
 have cl:xB ⟨1,5,mkRoot 2,ov aJ (some l)⟩:=⟨some l,rfl,by show (l.length:Int)≤1000;omega⟩
 have rg:∀x:Int,0≤x∧x≤6→Rg x:=fun x h=>⟨by omega,by omega⟩
 have okl:∀a b r,xB ⟨a,b,r,ov aJ (some l)⟩:=fun a b r=>⟨some l,rfl,by show (l.length:Int)≤1000;omega⟩
 have okm:∀a b r,xB ⟨a,b,r,ov aJ (some m)⟩:=fun a b r=>⟨some m,rfl,by show (m.length:Int)≤1000;omega⟩
 rw[cL Tryz.func182 rfl aLu rfl];by_cases c0:((((k).fdiv (2 ^ min 12 IntKind.i64.bits))).tmod 8)=0
 ·simp only[Z8,seval,kl,km,Pm,bt c0];exact⟨_,by apply eB;rfl;all_goals simp only[aI,Z8,seval,bP,rP,vY,bA,bY,jU,dU]<;>rfl,_,rfl,okm _ _ _,okl _ _ _,rg _ (by dsimp only;omega),rg _ (by dsimp only;omega),rg _ (by dsimp only;omega),rg _ (by dsimp only;omega)⟩
 by_cases c1:((((k).fdiv (2 ^ min 12 IntKind.i64.bits))).tmod 8)=1
 ·simp only[Z8,seval,kl,km,Pm,bf c0,bt c1];exact⟨_,by apply eB;rfl;all_goals simp only[aI,Z8,seval,bP,rP,vY,bA,bY,jU,dU]<;>rfl,_,rfl,okl _ _ _,okm _ _ _,rg _ (by dsimp only;omega),rg _ (by dsimp only;omega),rg _ (by dsimp only;omega),rg _ (by dsimp only;omega)⟩
 by_cases c2:((((k).fdiv (2 ^ min 12 IntKind.i64.bits))).tmod 8)=2
 ·simp only[Z8,seval,kl,km,Pm,bf c0,bf c1,bt c2];exact⟨_,by apply eB;rfl;all_goals simp only[aI,Z8,seval,bP,rP,vY,bA,bY,jU,dU]<;>rfl,_,rfl,okl _ _ _,okl _ _ _,rg _ (by dsimp only;omega),rg _ (by dsimp only;omega),rg _ (by dsimp only;omega),rg _ (by dsimp only;omega)⟩
 by_cases c3:((((k).fdiv (2 ^ min 12 IntKind.i64.bits))).tmod 8)=3
 ·simp only[Z8,seval,kl,km,Pm,bf c0,bf c1,bf c2,bt c3];exact⟨_,by apply eB;rfl;all_goals simp only[aI,Z8,seval,bP,rP,vY,bA,bY,jU,dU]<;>rfl,_,rfl,okl _ _ _,okm _ _ _,rg _ (by dsimp only;omega),rg _ (by dsimp only;omega),rg _ (by dsimp only;omega),rg _ (by dsimp only;omega)⟩
 by_cases c4:((((k).fdiv (2 ^ min 12 IntKind.i64.bits))).tmod 8)=4
 ·simp only[Z8,seval,kl,km,Pm,bf c0,bf c1,bf c2,bf c3,bt c4];exact⟨_,by apply eB;rfl;all_goals simp only[aI,Z8,seval,bP,rP,vY,bA,bY,jU,dU]<;>rfl,_,rfl,okl _ _ _,okm _ _ _,rg _ (by dsimp only;omega),rg _ (by dsimp only;omega),rg _ (by dsimp only;omega),rg _ (by dsimp only;omega)⟩
 simp only[Z8,seval,kl,km,Pm,bf c0,bf c1,bf c2,bf c3,bf c4];exact⟨_,by apply eB;rfl;all_goals simp only[aI,Z8,seval,bP,rP,vY,bA,bY,jU,dU]<;>rfl,_,rfl,okl _ _ _,okm _ _ _,rg _ (by dsimp only;omega),rg _ (by dsimp only;omega),rg _ (by dsimp only;omega),rg _ (by dsimp only;omega)⟩
theorem aQe {s:aN} {v:SV} {q:Int} (h:GI s v q) (r:RG s v) (hB:0<(ol v.B).length∧(ol v.B).length≤64) (k:Int) (hk:0≤k):∃x,aC Tryz.prog 183 [.agg (aB s),.v (.int .i64 k)]=some x∧∃(t:Table) (b:List Int),x=.agg (cI t)∧t.jO=ov bE (some b)∧(b.length:Int)≤1000∧(∀y∈b,Rg y)∧Rg t.ck.aK:=by
 have hn:=h.sd.nn
 have hp:(0:Int)<(v.ns.length:Int):=by have:=h.pos;omega
 have gN:¬((v.ns.length:Int)=0):=by omega
 obtain⟨m1,m2⟩:=eA (n:=(v.ns.length:Int)) hk hp
 obtain⟨i,hi⟩:∃i,k.tmod (v.ns.length:Int)=i:=⟨_,rfl⟩
 rw[hi] at m1 m2;have Ox:=h.sp
 obtain⟨y,hy,c2,rfl,rc2⟩:=x92 h r i (Fh s s.now) (jV _)
 unfold Fh at hy;have Sz:=kx hy (nA h.sd.flat (.v _) (.v _)) (.agg _ (dB _))
 have rc1:Rg (nd v.ns i).block.dQ.pj.aK:=(r.nd _ (IV m1 m2)).1.pj
 rw[cL Tryz.func183 rfl aLv rfl];by_cases c0:((((k).fdiv (2 ^ min 5 IntKind.i64.bits))).tmod 4)=0
 case neg =>
  simp only[Z8,seval,h.sd.tree,gN,hi,m1,m2,bf c0];refine cE (fun m st=>∃(j:Nat) (X:AV) (L:List Int),(st.env 1=.v (.int .i64 k)∧st.env 2=.ptr 2 0 0∧st.heap 2 0=some (.cells (aB s))∧st.env 4=.ptr 4 0 0∧st.heap 4 0=some (.cells (cI iV))∧st.env 6=.ptr 6 0 0∧st.heap 6 0=some (.cells (cI ⟨(nd v.ns i).block.dQ.pj,X⟩))∧st.env 7=.v (.int .i64 j))∧((X=.v (.slice none 0 0)∧L=[])∨∃g,X=.own 55 g∧g<st.aP 55∧st.heap 55 g=some (.row 23 1 L.length (bE L)))∧(∀y∈L,Rg y)∧L.length=j∧j≤(ol v.B).length∧m=(ol v.B).length-j)
   (fun e st=>e=.exit 0∧∃(g:Nat) (L:List Int),(st.env 1=.v (.int .i64 k)∧st.env 2=.ptr 2 0 0∧st.heap 2 0=some (.cells (aB s))∧st.env 4=.ptr 4 0 0∧st.heap 4 0=some (.cells (cI iV))∧st.env 6=.ptr 6 0 0∧st.heap 6 0=some (.cells (cI ⟨(nd v.ns i).block.dQ.pj,.own 55 g⟩))∧st.heap 55 g=some (.row 23 1 L.length (bE L)))∧(∀y∈L,Rg y)∧L.length=(ol v.B).length) (ol v.B).length ?step ?start ?rest
  case step =>
   rintro m st ⟨j,X,L,hI,hX,hL,hj,hjB,hm⟩
   by_cases aY:(j:Int)<(ol v.B).length
   ·have q0:(0:Int)≤j:=by omega
    have hw:IntKind.i64.wrap ((j:Int)+1)=((j+1:Nat):Int):=by rw[pZ _ (by omega) (by omega)];omega
    have nL:(L.length:Int)<1000000:=by omega
    obtain⟨y,hy9⟩:∃y,IntKind.u64.wrap ((k.fdiv (2 ^ min (IntKind.u64.wrap (j:Int)).toNat IntKind.i64.bits)).tmod 50)=y:=⟨_,rfl⟩
    have ry:Rg y:=by rw[← hy9];exact jV _
    have DB:∀z∈L++[y],Rg z:=fun z hz=>(List.mem_append.1 hz).elim (hL z) fun e=>by rw[List.mem_singleton] at e;rw[e];exact ry
    have Si:(L++[y]).length=j+1:=by rw[List.length_append,List.length_cons,List.length_nil];omega
    rcases hX with ⟨rfl,rfl⟩|⟨g,rfl,hg,hh⟩
    ·apply oN ((ol v.B).length-(j+1))
     ·simp only[Z8,seval,hI,aY,q0,h.sd.jO,xS,hy9,hw];rfl
     ·exact⟨j+1,_,[]++[y],⟨by simp only[E8,seval,hI],by simp only[E8,seval,hI],by simp only[E8,seval,hI],by simp only[E8,seval,hI],by simp only[E8,seval,hI],by simp only[E8,seval,hI],by simp only[E8,seval,hI]<;>rfl,by simp only[E8,seval]⟩,.inr ⟨_,rfl,by simp only[E8,seval]<;>omega,by simp only[E8,seval]<;>rfl⟩,DB,Si,by omega,rfl⟩
    ·have uY:(g=st.aP 55)=False:=eq_false (by omega)
     apply oN ((ol v.B).length-(j+1))
     ·simp only[Z8,seval,hI,hh,uY,aY,q0,h.sd.jO,xS,hy9,hw,yJ _ _ _ _ nL];rfl
     ·exact⟨j+1,_,L++[y],⟨by simp only[E8,seval,hI],by simp only[E8,seval,hI],by simp only[E8,seval,hI],by simp only[E8,seval,hI],by simp only[E8,seval,hI],by simp only[E8,seval,hI],by simp only[E8,seval,hI]<;>rfl,by simp only[E8,seval]⟩,.inr ⟨_,rfl,by simp only[E8,seval]<;>omega,by simp only[E8,seval]<;>rfl⟩,DB,Si,by omega,rfl⟩
   ·rcases hX with ⟨rfl,rfl⟩|⟨g,rfl,hg,hh⟩
    ·simp at hj;omega
    ·apply oT (.exit 0)
     ·simp only[Z8,seval,hI,aY,h.sd.jO];rfl
     ·exact⟨rfl,g,L,by simp only[E8,seval,hI,hh],hL,by omega⟩
  case start=>exact⟨0,_,[],by and_intros<;>(simp only[E8,seval]<;>rfl),.inl ⟨rfl,rfl⟩,by simp,rfl,by omega,by omega⟩
  case rest =>
   rintro e st ⟨rfl,g,L,hI,hL,hlL⟩
   have nL:(L.length:Int)<1000000:=by omega
   by_cases d0:((((k).fdiv (2 ^ min 12 IntKind.i64.bits))).tmod 16)=0
   ·have DB:∀z∈L++[(1:Int)],Rg z:=fun z hz=>(List.mem_append.1 hz).elim (hL z) fun e=>by rw[List.mem_singleton] at e;rw[e];exact⟨by omega,by omega⟩
    simp only[Z8,seval,hI,bt d0,yJ _ _ _ _ nL];exact⟨_,by apply eB;rfl;all_goals simp only[aI,Z8,seval,hI,bP,tO,bA,vV,dU]<;>rfl,⟨(nd v.ns i).block.dQ.pj,_⟩,L++[1],rfl,rfl,by rw[List.length_append,List.length_cons,List.length_nil];omega,DB,rc1⟩
   by_cases d1:((((k).fdiv (2 ^ min 12 IntKind.i64.bits))).tmod 16)=1
   ·have z0:(0:Int)≤0:=by omega
    have z1:(0:Int)<(L.length:Int):=by omega
    have z2:0<L.length:=by omega
    have z3:1≤L.length:=z2
    have DB:∀z∈L.set 0 4611686018427387904,Rg z:=fun z hz=>(List.mem_or_eq_of_mem_set hz).elim (hL z) fun e=>by rw[e];exact⟨by omega,by omega⟩
    have sG:dJ (bE L) 0 [.v (.int .u64 4611686018427387904)] 1=bE (L.set 0 4611686018427387904):=by
     cases L with
     | nil=>simp at z2
     | cons a L=>simp[dJ,bE,sS]
    simp only[Z8,seval,hI,bf d0,bt d1,z0,z1,z3,sG,Int.toNat_zero,Nat.zero_mul];exact⟨_,by apply eB;rfl;all_goals simp only[aI,Z8,seval,hI,bP,tO,bA,vV,dU]<;>rfl,⟨(nd v.ns i).block.dQ.pj,_⟩,L.set 0 4611686018427387904,rfl,by simp only[ov,List.length_set],by rw[List.length_set];omega,DB,rc1⟩
   simp only[Z8,seval,hI,bf d0,bf d1];exact⟨_,by apply eB;rfl;all_goals simp only[aI,Z8,seval,hI,bP,tO,bA,vV,dU]<;>rfl,⟨(nd v.ns i).block.dQ.pj,_⟩,L,rfl,rfl,by omega,hL,rc1⟩
 simp only[Z8,seval,h.sd.tree,gN,hi,m1,m2,bt c0,Ox,Sz];refine cE (fun m st=>∃(j:Nat) (X:AV) (L:List Int),(st.env 1=.v (.int .i64 k)∧st.env 2=.ptr 2 0 0∧st.heap 2 0=some (.cells (aB s))∧st.env 4=.ptr 4 0 0∧st.heap 4 0=some (.cells (cI iV))∧st.env 6=.ptr 6 0 0∧st.heap 6 0=some (.cells (cI ⟨c2,X⟩))∧st.env 7=.v (.int .i64 j))∧((X=.v (.slice none 0 0)∧L=[])∨∃g,X=.own 55 g∧g<st.aP 55∧st.heap 55 g=some (.row 23 1 L.length (bE L)))∧(∀y∈L,Rg y)∧L.length=j∧j≤(ol v.B).length∧m=(ol v.B).length-j)
  (fun e st=>e=.exit 0∧∃(g:Nat) (L:List Int),(st.env 1=.v (.int .i64 k)∧st.env 2=.ptr 2 0 0∧st.heap 2 0=some (.cells (aB s))∧st.env 4=.ptr 4 0 0∧st.heap 4 0=some (.cells (cI iV))∧st.env 6=.ptr 6 0 0∧st.heap 6 0=some (.cells (cI ⟨c2,.own 55 g⟩))∧st.heap 55 g=some (.row 23 1 L.length (bE L)))∧(∀y∈L,Rg y)∧L.length=(ol v.B).length) (ol v.B).length ?step ?start ?rest
 case step =>
  rintro m st ⟨j,X,L,hI,hX,hL,hj,hjB,hm⟩
  by_cases aY:(j:Int)<(ol v.B).length
  ·have q0:(0:Int)≤j:=by omega
   have hw:IntKind.i64.wrap ((j:Int)+1)=((j+1:Nat):Int):=by rw[pZ _ (by omega) (by omega)];omega
   have nL:(L.length:Int)<1000000:=by omega
   obtain⟨y,hy9⟩:∃y,IntKind.u64.wrap ((k.fdiv (2 ^ min (IntKind.u64.wrap (j:Int)).toNat IntKind.i64.bits)).tmod 50)=y:=⟨_,rfl⟩
   have ry:Rg y:=by rw[← hy9];exact jV _
   have DB:∀z∈L++[y],Rg z:=fun z hz=>(List.mem_append.1 hz).elim (hL z) fun e=>by rw[List.mem_singleton] at e;rw[e];exact ry
   have Si:(L++[y]).length=j+1:=by rw[List.length_append,List.length_cons,List.length_nil];omega
   rcases hX with ⟨rfl,rfl⟩|⟨g,rfl,hg,hh⟩
   ·apply oN ((ol v.B).length-(j+1))
    ·simp only[Z8,seval,hI,aY,q0,h.sd.jO,xS,hy9,hw];rfl
    ·exact⟨j+1,_,[]++[y],⟨by simp only[E8,seval,hI],by simp only[E8,seval,hI],by simp only[E8,seval,hI],by simp only[E8,seval,hI],by simp only[E8,seval,hI],by simp only[E8,seval,hI],by simp only[E8,seval,hI]<;>rfl,by simp only[E8,seval]⟩,.inr ⟨_,rfl,by simp only[E8,seval]<;>omega,by simp only[E8,seval]<;>rfl⟩,DB,Si,by omega,rfl⟩
   ·have uY:(g=st.aP 55)=False:=eq_false (by omega)
    apply oN ((ol v.B).length-(j+1))
    ·simp only[Z8,seval,hI,hh,uY,aY,q0,h.sd.jO,xS,hy9,hw,yJ _ _ _ _ nL];rfl
    ·exact⟨j+1,_,L++[y],⟨by simp only[E8,seval,hI],by simp only[E8,seval,hI],by simp only[E8,seval,hI],by simp only[E8,seval,hI],by simp only[E8,seval,hI],by simp only[E8,seval,hI],by simp only[E8,seval,hI]<;>rfl,by simp only[E8,seval]⟩,.inr ⟨_,rfl,by simp only[E8,seval]<;>omega,by simp only[E8,seval]<;>rfl⟩,DB,Si,by omega,rfl⟩
  ·rcases hX with ⟨rfl,rfl⟩|⟨g,rfl,hg,hh⟩
   ·simp at hj;omega
   ·apply oT (.exit 0)
    ·simp only[Z8,seval,hI,aY,h.sd.jO];rfl
    ·exact⟨rfl,g,L,by simp only[E8,seval,hI,hh],hL,by omega⟩
 case start=>exact⟨0,_,[],by and_intros<;>(simp only[E8,seval]<;>rfl),.inl ⟨rfl,rfl⟩,by simp,rfl,by omega,by omega⟩
 case rest =>
  rintro e st ⟨rfl,g,L,hI,hL,hlL⟩
  have nL:(L.length:Int)<1000000:=by omega
  by_cases d0:((((k).fdiv (2 ^ min 12 IntKind.i64.bits))).tmod 16)=0
  ·have DB:∀z∈L++[(1:Int)],Rg z:=fun z hz=>(List.mem_append.1 hz).elim (hL z) fun e=>by rw[List.mem_singleton] at e;rw[e];exact⟨by omega,by omega⟩
   simp only[Z8,seval,hI,bt d0,yJ _ _ _ _ nL];exact⟨_,by apply eB;rfl;all_goals simp only[aI,Z8,seval,hI,bP,tO,bA,vV,dU]<;>rfl,⟨c2,_⟩,L++[1],rfl,rfl,by rw[List.length_append,List.length_cons,List.length_nil];omega,DB,rc2⟩
  by_cases d1:((((k).fdiv (2 ^ min 12 IntKind.i64.bits))).tmod 16)=1
  ·have z0:(0:Int)≤0:=by omega
   have z1:(0:Int)<(L.length:Int):=by omega
   have z2:0<L.length:=by omega
   have z3:1≤L.length:=z2
   have DB:∀z∈L.set 0 4611686018427387904,Rg z:=fun z hz=>(List.mem_or_eq_of_mem_set hz).elim (hL z) fun e=>by rw[e];exact⟨by omega,by omega⟩
   have sG:dJ (bE L) 0 [.v (.int .u64 4611686018427387904)] 1=bE (L.set 0 4611686018427387904):=by
    cases L with
    | nil=>simp at z2
    | cons a L=>simp[dJ,bE,sS]
   simp only[Z8,seval,hI,bf d0,bt d1,z0,z1,z3,sG,Int.toNat_zero,Nat.zero_mul];exact⟨_,by apply eB;rfl;all_goals simp only[aI,Z8,seval,hI,bP,tO,bA,vV,dU]<;>rfl,⟨c2,_⟩,L.set 0 4611686018427387904,rfl,by simp only[ov,List.length_set],by rw[List.length_set];omega,DB,rc2⟩
  simp only[Z8,seval,hI,bf d0,bf d1];exact⟨_,by apply eB;rfl;all_goals simp only[aI,Z8,seval,hI,bP,tO,bA,vV,dU]<;>rfl,⟨c2,_⟩,L,rfl,rfl,by omega,hL,rc2⟩
structure TD (t:State) (v:SV) (Q R:Option (List Request)):Prop where
 sd:SD t.store v
 Cp:t.cY=ov aA Q
 ret:t.oD=ov aA R
 nQ:((ol Q).length:Int)<900000
 nR:((ol R).length:Int)<900000
theorem TD.fl {t:State} {v:SV} {Q R:Option (List Request)} (h:TD t v Q R):Flat t.store.cFg.jO∧Flat t.store.gE.dT∧Flat t.store.gE.iB∧Flat t.store.dS.early∧Flat t.store.dS.bV∧Flat t.store.tree.nodes∧Flat t.store.tables∧Flat t.cY∧Flat t.oD:=by
 obtain⟨h1,h2,h3,h4,h5,h6,h7⟩:=h.sd.fl
 exact⟨h1,h2,h3,h4,h5,h6,h7,by rw[h.Cp];exact dK Q,by rw[h.ret];exact dK R⟩
theorem TD.flat {t:State} {v:SV} {Q R:Option (List Request)} (h:TD t v Q R):Flat (.agg (aF t)):=(oG t).2 h.fl
def sI (ns:List Node) (r:cA):Prop:=0≤aO ns r∧(nd ns (aO ns r)).status=0
theorem c85 {t:State} {v:SV} {Q R:Option (List Request)} (h:TD t v Q R) (r:cA):aC Tryz.prog 85 [.agg (aF t),.agg (aV r)]=some (.v (.bool (decide (sI v.ns r)))):=by
 have hr:=fN v.ns r
 rw[cL Tryz.func85 rfl aQi rfl];refine jG ?_
 by_cases g1:0≤aO v.ns r
 ·by_cases g2:(nd v.ns (aO v.ns r)).status=0
  ·simp only[Z8,seval,h.sd.tree,mQ _ _ h.sd.nn,g1,hr.2,bt g2];exact⟨_,bS rfl (by simp only[E8,seval]<;>rfl) (by first|exact .v _|simp only[dU]),by simp[sI,g1,g2]⟩
  ·simp only[Z8,seval,h.sd.tree,mQ _ _ h.sd.nn,g1,hr.2,bf g2];exact⟨_,bS rfl (by simp only[E8,seval]<;>rfl) (by first|exact .v _|simp only[dU]),by simp[sI,g1,g2]⟩
 ·simp only[Z8,seval,h.sd.tree,mQ _ _ h.sd.nn,g1];exact⟨_,bS rfl (by simp only[E8,seval]<;>rfl) (by first|exact .v _|simp only[dU]),by simp[sI,g1]⟩
theorem k85 {t:State} {v:SV} {Q R:Option (List Request)} (h:TD t v Q R) (r:cA) (st:St) (d:Option Nat):aM (aC Tryz.prog) 85 [.agg (aF t),.agg (aV r)] st d=some { dst:=d,val:=.v (.bool (decide (sI v.ns r)))}:=kx (c85 h r) (bG h.flat (qP r)) (.v _) st d
def aF2 (t:State) (L:List Request) (r:cA) (n:Int):State:={ t with cY:=ov aA (some (L++[⟨⟨t.bB⟩,r,n,0⟩])),bB:=IntKind.u64.wrap (t.bB+1)}
theorem c86 {t:State} {v:SV} {Q R:Option (List Request)} (h:TD t v Q R) (r:cA) (n:Int):aC Tryz.prog 86 [.agg (aF t),.agg (aV r),.v (.int .i64 n)]=some (.agg (aF (aF2 t (ol Q) r n))):=by
 have kE:=h.fl
 have nq:((ol Q).length:Int)<1000000:=by have:=h.nQ;omega
 rw[cL Tryz.func86 rfl aQj rfl];refine jG ?_
 simp only[Z8,seval,h.Cp,rA _ nq,mA _ _ _ _ nq];exact⟨_,by apply eB;rfl;all_goals simp only[aI,Z8,seval,kE,bP,vZ,gJ,bA,bY,pH,dU]<;>rfl,rfl⟩
noncomputable def pI (ns:List Node) (l:List Request):List Request:=l.filter fun r=>decide (0≤aO ns r.block)
theorem c91 {t:State} {v:SV} {Q R:Option (List Request)} (h:TD t v Q R) (o:Option (List Request)) (hn:((ol o).length:Int)<1000000):aC Tryz.prog 91 [.agg (aF t),ov aA o]=some (Pw 63 35 aA (pI v.ns (ol o))):=by
 rw[cL Tryz.func91 rfl aQk (by cases o<;>rfl)]
 refine jG ?_
 simp only[Z8,seval];refine cE (fun m st=>∃k:Nat,(st.env 2=.ptr 2 0 0∧st.heap 2 0=some (.cells (aF t))∧st.env 1=ov aA o∧st.env 6=.v (.int .i64 k))∧(((((ol o).take k).filter (fun r=>decide (0≤aO v.ns r.block)))=[]∧st.env 5=.v (.slice none 0 0))∨((((ol o).take k).filter (fun r=>decide (0≤aO v.ns r.block)))≠[]∧∃g,st.env 5=.own 29 g∧g<st.aP 29∧st.heap 29 g=some (.row 63 35 (((ol o).take k).filter (fun r=>decide (0≤aO v.ns r.block))).length (aA (((ol o).take k).filter (fun r=>decide (0≤aO v.ns r.block)))))))∧k≤(ol o).length∧m=(ol o).length-k)
  (fun e st=>e=.exit 0∧(((((ol o).take (ol o).length).filter (fun r=>decide (0≤aO v.ns r.block)))=[]∧st.env 5=.v (.slice none 0 0))∨((((ol o).take (ol o).length).filter (fun r=>decide (0≤aO v.ns r.block)))≠[]∧∃g,st.env 5=.own 29 g∧g<st.aP 29∧st.heap 29 g=some (.row 63 35 (((ol o).take (ol o).length).filter (fun r=>decide (0≤aO v.ns r.block))).length (aA (((ol o).take (ol o).length).filter (fun r=>decide (0≤aO v.ns r.block)))))))∧st.env 2=.ptr 2 0 0∧st.heap 2 0=some (.cells (aF t))∧st.env 1=ov aA o) ((ol o).length) ?step ?start ?rest
 case step =>
  rintro m st ⟨k,hI,h5,hk,hm⟩
  have Ht:(((((ol o).take k).filter (fun r=>decide (0≤aO v.ns r.block))).length:Nat):Int)<1000000:=by have:=List.length_filter_le (fun r=>decide (0≤aO v.ns r.block)) ((ol o).take k);have h2:=List.length_take_le' k (ol o);omega
  by_cases aY:(k:Int)<(ol o).length
  ·have q0:(0:Int)≤k:=by omega
   have hw:IntKind.i64.wrap ((k:Int)+1)=((k+1:Nat):Int):=by rw[pZ _ (by omega) (by omega)];omega
   have hs:=yV bU (fun r=>decide (0≤aO v.ns r.block)) (ol o) k (by omega)
   by_cases hh:0≤aO v.ns (gx bU (ol o) (k:Int)).block
   ·rw[if_pos (decide_eq_true hh)] at hs;rcases h5 with ⟨hy,h5⟩|⟨hy,g,h5⟩
    ·rw[hy] at hs;apply oN ((ol o).length-(k+1))
     ·simp only[Z8,seval,hI,h5,aY,hw,q0,h.sd.tree,mQ _ _ h.sd.nn,hh];rfl
     ·exact⟨k+1,by simp only[E8,seval,hI],.inr ⟨by rw[hs];simp,_,by simp only[E8,seval]<;>rfl,(by simp only[E8,seval]<;>omega),(by rw[hs];simp only[E8,seval]<;>rfl)⟩,by omega,rfl⟩
    ·apply oN ((ol o).length-(k+1))
     ·simp only[Z8,seval,hI,h5,Ht,aY,hw,q0,h.sd.tree,mQ _ _ h.sd.nn,hh];rfl
     ·exact⟨k+1,by simp only[E8,seval,hI],.inr ⟨by rw[hs];simp,_,by simp only[E8,seval]<;>rfl,(by simp only[E8,seval]<;>omega),(by rw[hs];simp only[E8,seval]<;>rfl)⟩,by omega,rfl⟩
   ·rw[if_neg (by simpa using hh),List.append_nil] at hs
    apply oN ((ol o).length-(k+1))
    ·simp only[Z8,seval,hI,aY,hw,q0,h.sd.tree,mQ _ _ h.sd.nn,hh];rfl
    ·exact⟨k+1,by simp only[E8,seval,hI],by rw[hs];simpa only[E8,seval] using h5,by omega,rfl⟩
  ·have Fg:k=(ol o).length:=by omega
   rw[Fg] at h5;apply oT (.exit 0)
   ·simp only[Z8,seval,hI,aY];rfl
   ·exact⟨rfl,by simpa only[E8,seval] using h5,by simp only[E8,seval,hI]⟩
 case start=>exact⟨0,by simp only[E8,seval]<;>rfl,.inl ⟨rfl,by simp only[E8,seval]⟩,by omega,by omega⟩
 case rest =>
  rintro e st ⟨rfl,⟨hy,h5⟩|⟨hy,g,h5,hg,Ax⟩,hI⟩
  ·rw[List.take_length] at hy;rw[show Pw 63 35 aA (pI v.ns (ol o))=.v (.slice none 0 0) from if_pos hy];simp only[Z8,seval,h5];exact⟨_,bS rfl (by simp only[E8,seval,h5]<;>rfl) (by first|exact .v _|simp only[dU,h5]),rfl⟩
  ·rw[List.take_length] at hy Ax;rw[show Pw 63 35 aA (pI v.ns (ol o))=.uniq 63 35 (pI v.ns (ol o)).length (aA (pI v.ns (ol o))) from if_neg hy];simp only[Z8,seval,h5];exact⟨_,tC rfl (by simp only[E8,seval,h5]<;>rfl) (by simp only[E8,seval,Ax]<;>rfl) (fJ _),rfl⟩
noncomputable def WE (t:State) (v:SV) (Q R:Option (List Request)):State:={ t with cY:=ov aA (nz (pI v.ns (ol Q))),oD:=ov aA (nz (pI v.ns (ol R)))}
theorem c36 {t:State} {v:SV} {Q R:Option (List Request)} (h:TD t v Q R):aC Tryz.prog 36 [.agg (aF t)]=some (.agg (aF (WE t v Q R))):=by
 have kE:=h.fl
 have hf:=h.flat
 have cQ:=c91 h Q (by have:=h.nQ;omega)
 have cR:=c91 h R (by have:=h.nR;omega)
 rw[cL Tryz.func36 rfl aQl rfl];refine jG ?_
 by_cases e1:pI v.ns (ol Q)=[]
 ·rw[show Pw 63 35 aA (pI v.ns (ol Q))=.v (.slice none 0 0) from if_pos e1] at cQ;have z1:nz (pI v.ns (ol Q))=none:=if_pos e1
  have kQ:=kx cQ (bG hf (dK Q)) (.v _)
  by_cases e2:pI v.ns (ol R)=[]
  ·rw[show Pw 63 35 aA (pI v.ns (ol R))=.v (.slice none 0 0) from if_pos e2] at cR;have z2:nz (pI v.ns (ol R))=none:=if_pos e2
   have kR:=kx cR (bG hf (dK R)) (.v _)
   simp only[Z8,seval,h.Cp,h.ret,kQ,kR];exact⟨_,fI rfl (by simp only[E8,seval,kE]<;>rfl) (by simp only[Z8,seval,kE]<;>rfl) (by simp only[dU,and_self,kE]),by unfold WE;rw[z1,z2];rfl⟩
  ·rw[show Pw 63 35 aA (pI v.ns (ol R))=.uniq 63 35 (pI v.ns (ol R)).length (aA (pI v.ns (ol R))) from if_neg e2] at cR;have z2:nz (pI v.ns (ol R))=some (pI v.ns (ol R)):=if_neg e2
   have kR:∀(st:St) (d:Nat),aM (aC Tryz.prog) 91 [.agg (aF t),ov aA R] st (some d)=_:=fun st d=>jF (st:=st) (d:=d) (bG hf (dK R)) cR
   simp only[Z8,seval,h.Cp,h.ret,kQ,kR];exact⟨_,by apply eB;rfl;all_goals simp only[aI,Z8,seval,kE,bP,vZ,gJ,bA,bY,pH,dU]<;>rfl,by unfold WE;rw[z1,z2];rfl⟩
 ·rw[show Pw 63 35 aA (pI v.ns (ol Q))=.uniq 63 35 (pI v.ns (ol Q)).length (aA (pI v.ns (ol Q))) from if_neg e1] at cQ;have z1:nz (pI v.ns (ol Q))=some (pI v.ns (ol Q)):=if_neg e1
  have kQ:∀(st:St) (d:Nat),aM (aC Tryz.prog) 91 [.agg (aF t),ov aA Q] st (some d)=_:=fun st d=>jF (st:=st) (d:=d) (bG hf (dK Q)) cQ
  by_cases e2:pI v.ns (ol R)=[]
  ·rw[show Pw 63 35 aA (pI v.ns (ol R))=.v (.slice none 0 0) from if_pos e2] at cR;have z2:nz (pI v.ns (ol R))=none:=if_pos e2
   have kR:=kx cR (bG hf (dK R)) (.v _)
   simp only[Z8,seval,h.Cp,h.ret,kQ,kR];exact⟨_,by apply eB;rfl;all_goals simp only[aI,Z8,seval,kE,bP,vZ,gJ,bA,bY,pH,dU]<;>rfl,by unfold WE;rw[z1,z2];rfl⟩
  ·rw[show Pw 63 35 aA (pI v.ns (ol R))=.uniq 63 35 (pI v.ns (ol R)).length (aA (pI v.ns (ol R))) from if_neg e2] at cR;have z2:nz (pI v.ns (ol R))=some (pI v.ns (ol R)):=if_neg e2
   have kR:∀(st:St) (d:Nat),aM (aC Tryz.prog) 91 [.agg (aF t),ov aA R] st (some d)=_:=fun st d=>jF (st:=st) (d:=d) (bG hf (dK R)) cR
   simp only[Z8,seval,h.Cp,h.ret,kQ,kR];exact⟨_,by apply eB;rfl;all_goals simp only[aI,Z8,seval,kE,bP,vZ,gJ,bA,bY,pH,dU]<;>rfl,by unfold WE;rw[z1,z2];rfl⟩
theorem TD.drp {t:State} {v:SV} {Q R:Option (List Request)} (h:TD t v Q R):TD (WE t v Q R) v (nz (pI v.ns (ol Q))) (nz (pI v.ns (ol R))):=by
 have h1:=List.length_filter_le (fun r:Request=>decide (0≤aO v.ns r.block)) (ol Q)
 have h2:=List.length_filter_le (fun r:Request=>decide (0≤aO v.ns r.block)) (ol R)
 refine⟨h.sd,rfl,rfl, ?_, ?_⟩
 ·rw[oV];have:=h.nQ;unfold pI;omega
 ·rw[oV];have:=h.nR;unfold pI;omega
noncomputable def GU (ns:List Node) (p:Option (List Request) × Int) (r:cA):Option (List Request) × Int:=if sI ns r then (some (ol p.1++[⟨⟨p.2⟩,r,0,0⟩]),IntKind.u64.wrap (p.2+1)) else p
noncomputable def Gz (ns:List Node) (p:Option (List Request) × Int) (l:List cA):Option (List Request) × Int:=l.foldl (GU ns) p
theorem Zm (ns:List Node) (a:Option (List Request) × Int) (l:List cA) (k:Nat) (h:k<l.length):Gz ns a (l.take (k+1))=GU ns (Gz ns a (l.take k)) (gx dE l k):=by
 unfold Gz;rw[List.take_succ_eq_append_getElem h,List.foldl_append];simp[gx,h]
def DN (t:State) (p:Option (List Request) × Int):State:={ t with cY:=ov aA p.1,bB:=p.2 }
theorem TD.DN {t:State} {v:SV} {Q R:Option (List Request)} (h:TD t v Q R) (p:Option (List Request) × Int) (hn:((ol p.1).length:Int)<900000):TD (DN t p) v p.1 R:=⟨h.sd,rfl,h.ret,hn,h.nR⟩
theorem aF3 {t:State} {v:SV} {Q R:Option (List Request)} (h:TD t v Q R):Tryz.DN t (Q,t.bB)=t:=by unfold Tryz.DN;simp only;rw[← h.Cp]
theorem aCi (ns:List Node) (p:Option (List Request) × Int) (r:cA):(ol (GU ns p r).1).length≤(ol p.1).length+1:=by
 unfold GU;split
 ·show (ol p.1++[_]).length≤_;rw[List.length_append,List.length_cons,List.length_nil];omega
 ·omega
theorem Qg (ns:List Node) (p:Option (List Request) × Int) (l:List cA):(ol (Gz ns p l).1).length≤(ol p.1).length+l.length:=by
 induction l generalizing p with
 | nil=>exact Nat.le_refl _
 | cons r l ih=>have h1:=ih (GU ns p r);have h2:=aCi ns p r;rw[List.length_cons];show (ol (Gz ns (GU ns p r) l).1).length≤_;omega
theorem c32 {t:State} {v:SV} {Q R:Option (List Request)} (h:TD t v Q R) (L:Option (List cA)) (hn:((ol Q).length:Int)+(ol L).length<800000):aC Tryz.prog 32 [.agg (aF t),ov dV L]=some (.agg (aF (Tryz.DN t (Gz v.ns (Q,t.bB) (ol L))))):=by
 have hT:∀k:Nat,k≤(ol L).length→TD (Tryz.DN t (Gz v.ns (Q,t.bB) ((ol L).take k))) v (Gz v.ns (Q,t.bB) ((ol L).take k)).1 R:=fun k hk=>h.DN _ (by
  have:=Qg v.ns (Q,t.bB) ((ol L).take k);rw[List.length_take] at this;have e:ol (Q,t.bB).1=ol Q:=rfl;rw[e] at this;omega)
 rw[cL Tryz.func32 rfl aQm (by cases L<;>rfl)]
 refine jG ?_
 simp only[Z8,seval];refine cE (fun m st=>∃k:Nat,(st.env 1=ov dV L∧st.env 2=.ptr 2 0 0∧st.heap 2 0=some (.cells (aF (Tryz.DN t (Gz v.ns (Q,t.bB) ((ol L).take k)))))∧st.env 4=.ptr 4 0 0∧st.heap 4 0=some (.cells (aF iW))∧st.env 5=.v (.int .i64 k))∧k≤(ol L).length∧m=(ol L).length-k)
  (fun e st=>e=.exit 0∧(st.env 2=.ptr 2 0 0∧st.heap 2 0=some (.cells (aF (Tryz.DN t (Gz v.ns (Q,t.bB) (ol L)))))∧st.env 4=.ptr 4 0 0∧st.heap 4 0=some (.cells (aF iW)))) (ol L).length ?step ?start ?rest
 case step =>
  rintro m st ⟨k,hI,hk,hm⟩
  by_cases aY:(k:Int)<(ol L).length
  ·have q0:(0:Int)≤k:=by omega
   have hw:IntKind.i64.wrap ((k:Int)+1)=((k+1:Nat):Int):=by rw[pZ _ (by omega) (by omega)];omega
   have hs:=Zm v.ns (Q,t.bB) (ol L) k (by omega)
   have hTk:=hT k hk
   have F6:=k85 hTk (gx dE (ol L) (k:Int))
   by_cases g1:sI v.ns (gx dE (ol L) (k:Int))
   ·have WG:=hT (k+1) (by omega)
    have k86':=kx (c86 hTk (gx dE (ol L) (k:Int)) 0) (nA hTk.flat (qP _) (.v _)) (by
     have:aF2 (Tryz.DN t (Gz v.ns (Q,t.bB) ((ol L).take k))) (ol (Gz v.ns (Q,t.bB) ((ol L).take k)).1) (gx dE (ol L) (k:Int)) 0=Tryz.DN t (Gz v.ns (Q,t.bB) ((ol L).take (k+1))):=by rw[hs,GU,if_pos g1];rfl
     rw[this];exact WG.flat)
    have he:aF2 (Tryz.DN t (Gz v.ns (Q,t.bB) ((ol L).take k))) (ol (Gz v.ns (Q,t.bB) ((ol L).take k)).1) (gx dE (ol L) (k:Int)) 0=Tryz.DN t (Gz v.ns (Q,t.bB) ((ol L).take (k+1))):=by rw[hs,GU,if_pos g1];rfl
    rw[he] at k86'
    apply oN ((ol L).length-(k+1))
    ·simp only[Z8,seval,hI,aY,q0,F6,g1,k86',hw];rfl
    ·exact⟨k+1,by simp only[E8,seval,hI],by omega,rfl⟩
   ·rw[GU,if_neg g1] at hs;apply oN ((ol L).length-(k+1))
    ·simp only[Z8,seval,hI,aY,q0,F6,g1,hw];rfl
    ·exact⟨k+1,by simp only[E8,seval,hI,hs],by omega,rfl⟩
  ·have Fg:k=(ol L).length:=by omega
   rw[Fg,List.take_length] at hI;apply oT (.exit 0)
   ·simp only[Z8,seval,hI,Int.lt_irrefl];rfl
   ·exact⟨rfl,by simp only[E8,seval,hI]⟩
 case start=>exact⟨0,by rw[List.take_zero,show Gz v.ns (Q,t.bB) []=(Q,t.bB) from rfl,aF3 h];simp only[E8,seval]<;>rfl,by omega,by omega⟩
 case rest =>
  rintro e st ⟨rfl,hI⟩
  have WG:=(hT (ol L).length (Nat.le_refl _)).fl
  rw[List.take_length] at WG;simp only[Z8,seval,hI];exact⟨_,fI rfl (by simp only[E8,seval,hI,WG]<;>rfl) (by simp only[Z8,seval,hI,WG]<;>rfl) (by simp only[dU,and_self,hI,WG]),rfl⟩
noncomputable def OT (b:Int):Nat→Int→Int
 | 0,d=>d
 | n+1,d=>if IntKind.u64.wrap (b-d)≤d then b else OT b n (IntKind.u64.wrap (2 * d))
noncomputable def WH (n b:Int):Int:=if b=0 then 0 else OT b (n-1).toNat 1
theorem aQo (n b:Int) (hn:n≤9223372036854775807):aC Tryz.prog 143 [.v (.int .i64 n),.v (.int .u64 b)]=some (.v (.int .u64 (WH n b))):=by
 rw[cL Tryz.func143 rfl aLw rfl];refine jG ?_
 by_cases g0:b=0
 ·simp only[Z8,seval,bt g0];exact⟨_,bS rfl (by simp only[E8,seval]<;>rfl) (by first|exact .v _|simp only[dU]),by rw[WH,if_pos g0]⟩
 simp only[Z8,seval,bf g0];refine cE (fun m st=>∃(k:Nat) (d i:Int),(st.env 0=.v (.int .i64 n)∧st.env 1=.v (.int .u64 b)∧st.env 5=.v (.int .u64 d)∧st.env 6=.v (.int .i64 i))∧i=k+1∧OT b ((n-1).toNat-k) d=OT b (n-1).toNat 1∧k≤(n-1).toNat∧m=(n-1).toNat-k)
  (fun e st=>(e=.ret∧st.env 4=.v (.int .u64 (OT b (n-1).toNat 1)))∨(e=.exit 0∧st.env 5=.v (.int .u64 (OT b (n-1).toNat 1)))) (n-1).toNat ?step ?start ?rest
 case step =>
  rintro m st ⟨k,d,i,hI,hi,hd,hk,hm⟩
  by_cases aY:i<n
  ·have hw:IntKind.i64.wrap (i+1)=i+1:=pZ _ (by omega) (by omega)
   have e1:(n-1).toNat-k=((n-1).toNat-(k+1))+1:=by omega
   rw[e1,OT] at hd;by_cases g1:IntKind.u64.wrap (b-d)≤d
   ·rw[if_pos g1] at hd;apply oT (.ret)
    ·simp only[Z8,seval,hI,aY,g1];rfl
    ·exact .inl ⟨rfl,by rw[← hd];simp only[E8,seval]⟩
   ·rw[if_neg g1] at hd;apply oN ((n-1).toNat-(k+1))
    ·simp only[Z8,seval,hI,aY,g1,hw];rfl
    ·exact⟨k+1,_,i+1,by and_intros<;>(simp only[E8,seval,hI]<;>rfl),by omega,hd,by omega,rfl⟩
  ·have e1:(n-1).toNat-k=0:=by omega
   rw[e1,OT] at hd;apply oT (.exit 0)
   ·simp only[Z8,seval,hI,aY];rfl
   ·exact .inr ⟨rfl,by rw[← hd];simp only[E8,seval,hI]⟩
 case start=>exact⟨0,1,1,by and_intros<;>(simp only[E8,seval]<;>rfl),rfl,rfl,by omega,by omega⟩
 case rest =>
  rintro e st (⟨rfl,h⟩|⟨rfl,h⟩)
  ·simp only[Z8,seval,h];exact⟨_,bS rfl (by simp only[E8,seval,h]<;>rfl) (by first|exact .v _|simp only[dU,h]),by rw[WH,if_neg g0]⟩
  ·simp only[Z8,seval,h];exact⟨_,bS rfl (by simp only[E8,seval,h]<;>rfl) (by first|exact .v _|simp only[dU,h]),by rw[WH,if_neg g0]⟩
theorem aQp (n b:Int) (hn:n≤9223372036854775807) (st:St) (d:Option Nat):aM (aC Tryz.prog) 143 [.v (.int .i64 n),.v (.int .u64 b)] st d=some { dst:=d,val:=.v (.int .u64 (WH n b))}:=kx (aQo n b hn) (bG (.v _) (.v _)) (.v _) st d
theorem x37 {s:aN} {v:SV} {q:Int} (h:GI s v q) (r:RG s v) (hB:0<(ol v.B).length∧(ol v.B).length≤64) (k:Int) (hk:0≤k):∃x,aC Tryz.prog 37 [.agg (aB s),.v (.int .i64 k)]=some x∧∃(a:sH) (V:List Int),x=.agg (gY a)∧a.eU=ov aJ (some V)∧(V.length:Int)≤1000∧Rg a.slot∧Rg a.target.aK:=by
 have hn:=h.sd.nn
 have hp:(0:Int)<(v.ns.length:Int):=by have:=h.pos;omega
 have gN:¬((v.ns.length:Int)=0):=by omega
 obtain⟨m1,m2⟩:=eA (n:=(v.ns.length:Int)) hk hp
 obtain⟨i,hi⟩:∃i,k.tmod (v.ns.length:Int)=i:=⟨_,rfl⟩
 rw[hi] at m1 m2;obtain⟨m3,m4⟩:=eA (n:=(v.ns.length:Int)) (Bk hk (min 4 IntKind.i64.bits)) hp
 have Ox:=h.sp
 obtain⟨l,kl,hl⟩:=k45 (ol v.B).length ((k).fdiv (2 ^ min 3 IntKind.i64.bits)) (by omega) (by omega)
 have nl:(l.length:Int)<1000000:=by omega
 have rn:Rg s.now:=⟨r.now.1,by have:=r.now.2;omega⟩
 rw[cL Tryz.func37 rfl aQq rfl];by_cases g1:0<((((k).fdiv (2 ^ min 9 IntKind.i64.bits))).tmod 4)
 case neg =>
  obtain⟨y,hy,c,rfl,rc⟩:=x92 h r i (IntKind.u64.wrap ((s.now).tdiv s.cFg.qW)) (jV _)
  have Sz:=kx hy (nA h.sd.flat (.v _) (.v _)) (.agg _ (dB _))
  by_cases d0:((((k).fdiv (2 ^ min 12 IntKind.i64.bits))).tmod 20)=0
  ·simp only[Z8,seval,h.sd.tree,h.sd.jO,gN,hi,m1,m2,kl,g1,Ox,Sz,bt d0];exact⟨_,by apply eB;rfl;all_goals simp only[aI,Z8,seval,bP,lT,bA,bY,jU,dU]<;>rfl,_,l,rfl,rfl,by omega,rn,jV _⟩
  by_cases d1:((((k).fdiv (2 ^ min 12 IntKind.i64.bits))).tmod 20)=1
  ·simp only[Z8,seval,h.sd.tree,h.sd.jO,gN,hi,m1,m2,kl,g1,Ox,Sz,bf d0,bt d1,Pm];exact⟨_,by apply eB;rfl;all_goals simp only[aI,Z8,seval,bP,lT,bA,bY,jU,dU]<;>rfl,_,l,rfl,rfl,by omega,rn,rc⟩
  by_cases d2:((((k).fdiv (2 ^ min 12 IntKind.i64.bits))).tmod 20)=2
  ·simp only[Z8,seval,h.sd.tree,h.sd.jO,gN,hi,m1,m2,kl,g1,Ox,Sz,bf d0,bf d1,bt d2,m3,m4];exact⟨_,by apply eB;rfl;all_goals simp only[aI,Z8,seval,bP,lT,bA,bY,jU,dU]<;>rfl,_,l,rfl,rfl,by omega,rn,rc⟩
  by_cases d3:((((k).fdiv (2 ^ min 12 IntKind.i64.bits))).tmod 20)=3
  ·simp only[Z8,seval,h.sd.tree,h.sd.jO,gN,hi,m1,m2,kl,g1,Ox,Sz,bf d0,bf d1,bf d2,bt d3];exact⟨_,by apply eB;rfl;all_goals simp only[aI,Z8,seval,bP,lT,bA,bY,jU,dU]<;>rfl,_,l,rfl,rfl,by omega,jV _,rc⟩
  by_cases d4:((((k).fdiv (2 ^ min 12 IntKind.i64.bits))).tmod 20)=4
  ·simp only[Z8,seval,h.sd.tree,h.sd.jO,gN,hi,m1,m2,kl,g1,Ox,Sz,bf d0,bf d1,bf d2,bf d3,bt d4,Gc _ _ _ _ nl];exact⟨_,by apply eB;rfl;all_goals simp only[aI,Z8,seval,bP,lT,bA,bY,jU,dU]<;>rfl,_,l++[((((k).fdiv (2 ^ min 17 IntKind.i64.bits))).tmod 9)],rfl,rfl,by rw[List.length_append,List.length_cons,List.length_nil];omega,rn,rc⟩
  simp only[Z8,seval,h.sd.tree,h.sd.jO,gN,hi,m1,m2,kl,g1,Ox,Sz,bf d0,bf d1,bf d2,bf d3,bf d4];exact⟨_,by apply eB;rfl;all_goals simp only[aI,Z8,seval,bP,lT,bA,bY,jU,dU]<;>rfl,_,l,rfl,rfl,by omega,rn,rc⟩
 by_cases g2:0<s.now
 case neg =>
  obtain⟨y,hy,c,rfl,rc⟩:=x92 h r i (IntKind.u64.wrap ((s.now).tdiv s.cFg.qW)) (jV _)
  have Sz:=kx hy (nA h.sd.flat (.v _) (.v _)) (.agg _ (dB _))
  by_cases d0:((((k).fdiv (2 ^ min 12 IntKind.i64.bits))).tmod 20)=0
  ·simp only[Z8,seval,h.sd.tree,h.sd.jO,gN,hi,m1,m2,kl,g1,g2,Ox,Sz,bt d0];exact⟨_,by apply eB;rfl;all_goals simp only[aI,Z8,seval,bP,lT,bA,bY,jU,dU]<;>rfl,_,l,rfl,rfl,by omega,rn,jV _⟩
  by_cases d1:((((k).fdiv (2 ^ min 12 IntKind.i64.bits))).tmod 20)=1
  ·simp only[Z8,seval,h.sd.tree,h.sd.jO,gN,hi,m1,m2,kl,g1,g2,Ox,Sz,bf d0,bt d1,Pm];exact⟨_,by apply eB;rfl;all_goals simp only[aI,Z8,seval,bP,lT,bA,bY,jU,dU]<;>rfl,_,l,rfl,rfl,by omega,rn,rc⟩
  by_cases d2:((((k).fdiv (2 ^ min 12 IntKind.i64.bits))).tmod 20)=2
  ·simp only[Z8,seval,h.sd.tree,h.sd.jO,gN,hi,m1,m2,kl,g1,g2,Ox,Sz,bf d0,bf d1,bt d2,m3,m4];exact⟨_,by apply eB;rfl;all_goals simp only[aI,Z8,seval,bP,lT,bA,bY,jU,dU]<;>rfl,_,l,rfl,rfl,by omega,rn,rc⟩
  by_cases d3:((((k).fdiv (2 ^ min 12 IntKind.i64.bits))).tmod 20)=3
  ·simp only[Z8,seval,h.sd.tree,h.sd.jO,gN,hi,m1,m2,kl,g1,g2,Ox,Sz,bf d0,bf d1,bf d2,bt d3];exact⟨_,by apply eB;rfl;all_goals simp only[aI,Z8,seval,bP,lT,bA,bY,jU,dU]<;>rfl,_,l,rfl,rfl,by omega,jV _,rc⟩
  by_cases d4:((((k).fdiv (2 ^ min 12 IntKind.i64.bits))).tmod 20)=4
  ·simp only[Z8,seval,h.sd.tree,h.sd.jO,gN,hi,m1,m2,kl,g1,g2,Ox,Sz,bf d0,bf d1,bf d2,bf d3,bt d4,Gc _ _ _ _ nl];exact⟨_,by apply eB;rfl;all_goals simp only[aI,Z8,seval,bP,lT,bA,bY,jU,dU]<;>rfl,_,l++[((((k).fdiv (2 ^ min 17 IntKind.i64.bits))).tmod 9)],rfl,rfl,by rw[List.length_append,List.length_cons,List.length_nil];omega,rn,rc⟩
  simp only[Z8,seval,h.sd.tree,h.sd.jO,gN,hi,m1,m2,kl,g1,g2,Ox,Sz,bf d0,bf d1,bf d2,bf d3,bf d4];exact⟨_,by apply eB;rfl;all_goals simp only[aI,Z8,seval,bP,lT,bA,bY,jU,dU]<;>rfl,_,l,rfl,rfl,by omega,rn,rc⟩
 obtain⟨y,hy,c,rfl,rc⟩:=x92 h r i (IntKind.u64.wrap ((IntKind.u64.wrap (s.now-1)).tdiv s.cFg.qW)) (jV _)
 have Sz:=kx hy (nA h.sd.flat (.v _) (.v _)) (.agg _ (dB _))
 by_cases d0:((((k).fdiv (2 ^ min 12 IntKind.i64.bits))).tmod 20)=0
 ·simp only[Z8,seval,h.sd.tree,h.sd.jO,gN,hi,m1,m2,kl,g1,g2,Ox,Sz,bt d0];exact⟨_,by apply eB;rfl;all_goals simp only[aI,Z8,seval,bP,lT,bA,bY,jU,dU]<;>rfl,_,l,rfl,rfl,by omega,jV _,jV _⟩
 by_cases d1:((((k).fdiv (2 ^ min 12 IntKind.i64.bits))).tmod 20)=1
 ·simp only[Z8,seval,h.sd.tree,h.sd.jO,gN,hi,m1,m2,kl,g1,g2,Ox,Sz,bf d0,bt d1,Pm];exact⟨_,by apply eB;rfl;all_goals simp only[aI,Z8,seval,bP,lT,bA,bY,jU,dU]<;>rfl,_,l,rfl,rfl,by omega,jV _,rc⟩
 by_cases d2:((((k).fdiv (2 ^ min 12 IntKind.i64.bits))).tmod 20)=2
 ·simp only[Z8,seval,h.sd.tree,h.sd.jO,gN,hi,m1,m2,kl,g1,g2,Ox,Sz,bf d0,bf d1,bt d2,m3,m4];exact⟨_,by apply eB;rfl;all_goals simp only[aI,Z8,seval,bP,lT,bA,bY,jU,dU]<;>rfl,_,l,rfl,rfl,by omega,jV _,rc⟩
 by_cases d3:((((k).fdiv (2 ^ min 12 IntKind.i64.bits))).tmod 20)=3
 ·simp only[Z8,seval,h.sd.tree,h.sd.jO,gN,hi,m1,m2,kl,g1,g2,Ox,Sz,bf d0,bf d1,bf d2,bt d3];exact⟨_,by apply eB;rfl;all_goals simp only[aI,Z8,seval,bP,lT,bA,bY,jU,dU]<;>rfl,_,l,rfl,rfl,by omega,jV _,rc⟩
 by_cases d4:((((k).fdiv (2 ^ min 12 IntKind.i64.bits))).tmod 20)=4
 ·simp only[Z8,seval,h.sd.tree,h.sd.jO,gN,hi,m1,m2,kl,g1,g2,Ox,Sz,bf d0,bf d1,bf d2,bf d3,bt d4,Gc _ _ _ _ nl];exact⟨_,by apply eB;rfl;all_goals simp only[aI,Z8,seval,bP,lT,bA,bY,jU,dU]<;>rfl,_,l++[((((k).fdiv (2 ^ min 17 IntKind.i64.bits))).tmod 9)],rfl,rfl,by rw[List.length_append,List.length_cons,List.length_nil];omega,jV _,rc⟩
 simp only[Z8,seval,h.sd.tree,h.sd.jO,gN,hi,m1,m2,kl,g1,g2,Ox,Sz,bf d0,bf d1,bf d2,bf d3,bf d4];exact⟨_,by apply eB;rfl;all_goals simp only[aI,Z8,seval,bP,lT,bA,bY,jU,dU]<;>rfl,_,l,rfl,rfl,by omega,jV _,rc⟩
theorem iP {call:Nat→List AV→Option AV} {ops:Array Oper} {st:St} {T:Nat} {pos:String} {eH:Array Edge} (d:Nat):cD Tryz.prog call ops ⟨some d,.buildSlice 22 6 #[(0,.const (.int .i64 1)),(1,.const (.int .i64 1)),(2,.const (.int .i64 2)),(3,.const (.int .i64 2)),(4,.const (.int .i64 3)),(5,.const (.int .i64 4))],T,pos,eH,none⟩ st =
 some ((st.new d (.row 3 1 6 (aJ [1,1,2,2,3,4]))).put (some d) (.own d (st.aP d))):=by
 rw[kX];simp[Na,ze3,cH,St.ev,AV.jQ,Value.oneCell',gR,AV.cells,List.range,List.range.loop,aJ,pX]
theorem x25 {t:State} {v:SV} {Q R:Option (List Request)} {q:Int} (hT:TD t v Q R) (h:GI t.store v q) (hq:∀r∈ol Q,Rg r.tagged.tag) (k:Int) (hk:0≤k):∃x,aC Tryz.prog 25 [.agg (aF t),.v (.int .i64 k)]=some x∧∃w:fL,x=.agg (bW w)∧Rg w.tagged.tag:=by
 have hn:=h.sd.nn
 have hp:(0:Int)<(v.ns.length:Int):=by have:=h.pos;omega
 have gN:¬((v.ns.length:Int)=0):=by omega
 obtain⟨m1,m2⟩:=eA (n:=(v.ns.length:Int)) hk hp
 obtain⟨j0,j1⟩:=eA (n:=6) (Bk hk (min 4 IntKind.i64.bits)) (by omega)
 obtain⟨j,hj⟩:∃j,((((k).fdiv (2 ^ min 4 IntKind.i64.bits))).tmod 6)=j:=⟨_,rfl⟩
 rw[hj] at j0 j1;have g6:=pF (l:=[1,1,2,2,3,4]) j0 (by show j<((6:Nat):Int);omega)
 have fv:∀w:fL,Flat (.agg (bW w))=True:=fun w=>eq_true (.agg _ (gM w))
 have N8:=jV (k.tmod 9)
 rw[cG Tryz.func25 rfl aQr (by kernel_rfl) rfl]
 by_cases g1:(0:Int)<((ol Q).length:Int)
 case neg =>
  by_cases p0:0≤aO v.ns ((nd v.ns (k.tmod (v.ns.length:Int))).block.root)
  case neg =>
   have kp:=fun st d=>A9 v.ns (aO v.ns ((nd v.ns (k.tmod (v.ns.length:Int))).block.root)) (fun hh=>p0 hh.1) st d
   by_cases e2:((((k).fdiv (2 ^ min 14 IntKind.i64.bits))).tmod 16)=0
   ·simp only[ZG,seval,Bool.false_and,Prod.mk.injEq,Hm,iP,hj,j0,j1,g6,hT.Cp,h.sd.tree,gN,m1,m2,mQ _ _ hn,g1,kp,bt e2,Pm];exact⟨_,fI rfl (by simp only[E8,seval,fv]<;>rfl) (by simp only[Z8,seval,fv]<;>rfl) (by simp only[dU,and_self,fv]),_,rfl,N8⟩
   simp only[ZG,seval,Bool.false_and,Prod.mk.injEq,Hm,iP,hj,j0,j1,g6,hT.Cp,h.sd.tree,gN,m1,m2,mQ _ _ hn,g1,kp,bf e2];exact⟨_,fI rfl (by simp only[E8,seval,fv]<;>rfl) (by simp only[Z8,seval,fv]<;>rfl) (by simp only[dU,and_self,fv]),_,rfl,N8⟩
  have pr:=fN v.ns ((nd v.ns (k.tmod (v.ns.length:Int))).block.root)
  have kp:=fun st d=>k76 v.ns h.up hn (aO v.ns ((nd v.ns (k.tmod (v.ns.length:Int))).block.root)) p0 pr.2 st d
  have pm:=yR h.up p0 pr.2
  have prg:∀x∈path v.ns (aO v.ns ((nd v.ns (k.tmod (v.ns.length:Int))).block.root)),0≤x∧x<v.ns.length:=fun x hx=>vO h.up hx
  have pl:=Bi h.up (aO v.ns ((nd v.ns (k.tmod (v.ns.length:Int))).block.root))
  obtain⟨p,ep⟩:∃p,path v.ns (aO v.ns ((nd v.ns (k.tmod (v.ns.length:Int))).block.root))=p:=⟨_,rfl⟩
  rw[ep] at kp pm prg pl;have l0:(0:Int)<(p.length:Int):=by have:=List.length_pos_of_mem pm;omega
  have lne:¬((p.length:Int)=0):=by omega
  by_cases e1:0<((((k).fdiv (2 ^ min 14 IntKind.i64.bits))).tmod 4)
  case neg =>
   by_cases e2:((((k).fdiv (2 ^ min 14 IntKind.i64.bits))).tmod 16)=0
   ·simp only[ZG,seval,Bool.false_and,Prod.mk.injEq,Hm,iP,hj,j0,j1,g6,hT.Cp,h.sd.tree,gN,m1,m2,mQ _ _ hn,g1,kp,l0,e1,bt e2,Pm];exact⟨_,fI rfl (by simp only[E8,seval,fv]<;>rfl) (by simp only[Z8,seval,fv]<;>rfl) (by simp only[dU,and_self,fv]),_,rfl,N8⟩
   simp only[ZG,seval,Bool.false_and,Prod.mk.injEq,Hm,iP,hj,j0,j1,g6,hT.Cp,h.sd.tree,gN,m1,m2,mQ _ _ hn,g1,kp,l0,e1,bf e2];exact⟨_,fI rfl (by simp only[E8,seval,fv]<;>rfl) (by simp only[Z8,seval,fv]<;>rfl) (by simp only[dU,and_self,fv]),_,rfl,N8⟩
  obtain⟨x1,x2⟩:=eA (n:=(p.length:Int)) (Bk hk (min 16 IntKind.i64.bits)) l0
  obtain⟨y,hy⟩:∃y,((((k).fdiv (2 ^ min 16 IntKind.i64.bits))).tmod (p.length:Int))=y:=⟨_,rfl⟩
  rw[hy] at x1 x2;have gp:=pF x1 x2
  obtain⟨z1,z2⟩:=prg (it p y) (by obtain⟨h1,h2⟩:=xN x1 x2;rw[h2];exact List.getElem_mem h1)
  by_cases e2:((((k).fdiv (2 ^ min 14 IntKind.i64.bits))).tmod 16)=0
  ·simp only[ZG,seval,Bool.false_and,Prod.mk.injEq,Hm,iP,hj,j0,j1,g6,hT.Cp,h.sd.tree,gN,m1,m2,mQ _ _ hn,g1,kp,l0,lne,e1,hy,x1,x2,gp,z1,z2,bt e2,Pm];exact⟨_,fI rfl (by simp only[E8,seval,fv]<;>rfl) (by simp only[Z8,seval,fv]<;>rfl) (by simp only[dU,and_self,fv]),_,rfl,N8⟩
  simp only[ZG,seval,Bool.false_and,Prod.mk.injEq,Hm,iP,hj,j0,j1,g6,hT.Cp,h.sd.tree,gN,m1,m2,mQ _ _ hn,g1,kp,l0,lne,e1,hy,x1,x2,gp,z1,z2,bf e2];exact⟨_,fI rfl (by simp only[E8,seval,fv]<;>rfl) (by simp only[Z8,seval,fv]<;>rfl) (by simp only[dU,and_self,fv]),_,rfl,N8⟩
 by_cases g2:0<((((k).fdiv (2 ^ min 8 IntKind.i64.bits))).tmod 8)
 case neg =>
  by_cases p0:0≤aO v.ns ((nd v.ns (k.tmod (v.ns.length:Int))).block.root)
  case neg =>
   have kp:=fun st d=>A9 v.ns (aO v.ns ((nd v.ns (k.tmod (v.ns.length:Int))).block.root)) (fun hh=>p0 hh.1) st d
   by_cases e2:((((k).fdiv (2 ^ min 14 IntKind.i64.bits))).tmod 16)=0
   ·simp only[ZG,seval,Bool.false_and,Prod.mk.injEq,Hm,iP,hj,j0,j1,g6,hT.Cp,h.sd.tree,gN,m1,m2,mQ _ _ hn,g1,g2,kp,bt e2,Pm];exact⟨_,fI rfl (by simp only[E8,seval,fv]<;>rfl) (by simp only[Z8,seval,fv]<;>rfl) (by simp only[dU,and_self,fv]),_,rfl,N8⟩
   simp only[ZG,seval,Bool.false_and,Prod.mk.injEq,Hm,iP,hj,j0,j1,g6,hT.Cp,h.sd.tree,gN,m1,m2,mQ _ _ hn,g1,g2,kp,bf e2];exact⟨_,fI rfl (by simp only[E8,seval,fv]<;>rfl) (by simp only[Z8,seval,fv]<;>rfl) (by simp only[dU,and_self,fv]),_,rfl,N8⟩
  have pr:=fN v.ns ((nd v.ns (k.tmod (v.ns.length:Int))).block.root)
  have kp:=fun st d=>k76 v.ns h.up hn (aO v.ns ((nd v.ns (k.tmod (v.ns.length:Int))).block.root)) p0 pr.2 st d
  have pm:=yR h.up p0 pr.2
  have prg:∀x∈path v.ns (aO v.ns ((nd v.ns (k.tmod (v.ns.length:Int))).block.root)),0≤x∧x<v.ns.length:=fun x hx=>vO h.up hx
  have pl:=Bi h.up (aO v.ns ((nd v.ns (k.tmod (v.ns.length:Int))).block.root))
  obtain⟨p,ep⟩:∃p,path v.ns (aO v.ns ((nd v.ns (k.tmod (v.ns.length:Int))).block.root))=p:=⟨_,rfl⟩
  rw[ep] at kp pm prg pl;have l0:(0:Int)<(p.length:Int):=by have:=List.length_pos_of_mem pm;omega
  have lne:¬((p.length:Int)=0):=by omega
  by_cases e1:0<((((k).fdiv (2 ^ min 14 IntKind.i64.bits))).tmod 4)
  case neg =>
   by_cases e2:((((k).fdiv (2 ^ min 14 IntKind.i64.bits))).tmod 16)=0
   ·simp only[ZG,seval,Bool.false_and,Prod.mk.injEq,Hm,iP,hj,j0,j1,g6,hT.Cp,h.sd.tree,gN,m1,m2,mQ _ _ hn,g1,g2,kp,l0,e1,bt e2,Pm];exact⟨_,fI rfl (by simp only[E8,seval,fv]<;>rfl) (by simp only[Z8,seval,fv]<;>rfl) (by simp only[dU,and_self,fv]),_,rfl,N8⟩
   simp only[ZG,seval,Bool.false_and,Prod.mk.injEq,Hm,iP,hj,j0,j1,g6,hT.Cp,h.sd.tree,gN,m1,m2,mQ _ _ hn,g1,g2,kp,l0,e1,bf e2];exact⟨_,fI rfl (by simp only[E8,seval,fv]<;>rfl) (by simp only[Z8,seval,fv]<;>rfl) (by simp only[dU,and_self,fv]),_,rfl,N8⟩
  obtain⟨x1,x2⟩:=eA (n:=(p.length:Int)) (Bk hk (min 16 IntKind.i64.bits)) l0
  obtain⟨y,hy⟩:∃y,((((k).fdiv (2 ^ min 16 IntKind.i64.bits))).tmod (p.length:Int))=y:=⟨_,rfl⟩
  rw[hy] at x1 x2;have gp:=pF x1 x2
  obtain⟨z1,z2⟩:=prg (it p y) (by obtain⟨h1,h2⟩:=xN x1 x2;rw[h2];exact List.getElem_mem h1)
  by_cases e2:((((k).fdiv (2 ^ min 14 IntKind.i64.bits))).tmod 16)=0
  ·simp only[ZG,seval,Bool.false_and,Prod.mk.injEq,Hm,iP,hj,j0,j1,g6,hT.Cp,h.sd.tree,gN,m1,m2,mQ _ _ hn,g1,g2,kp,l0,lne,e1,hy,x1,x2,gp,z1,z2,bt e2,Pm];exact⟨_,fI rfl (by simp only[E8,seval,fv]<;>rfl) (by simp only[Z8,seval,fv]<;>rfl) (by simp only[dU,and_self,fv]),_,rfl,N8⟩
  simp only[ZG,seval,Bool.false_and,Prod.mk.injEq,Hm,iP,hj,j0,j1,g6,hT.Cp,h.sd.tree,gN,m1,m2,mQ _ _ hn,g1,g2,kp,l0,lne,e1,hy,x1,x2,gp,z1,z2,bf e2];exact⟨_,fI rfl (by simp only[E8,seval,fv]<;>rfl) (by simp only[Z8,seval,fv]<;>rfl) (by simp only[dU,and_self,fv]),_,rfl,N8⟩
 have qne:¬(((ol Q).length:Int)=0):=by omega
 obtain⟨c1,c2⟩:=eA (n:=((ol Q).length:Int)) (Bk hk (min 11 IntKind.i64.bits)) g1
 obtain⟨c,hc⟩:∃c,((((k).fdiv (2 ^ min 11 IntKind.i64.bits))).tmod ((ol Q).length:Int))=c:=⟨_,rfl⟩
 rw[hc] at c1 c2;have rTB:Rg (gx bU (ol Q) c).tagged.tag:=hq _ (vU c1 c2)
 by_cases p0:0≤aO v.ns ((gx bU (ol Q) c).block)
 case neg =>
  have kp:=fun st d=>A9 v.ns (aO v.ns ((gx bU (ol Q) c).block)) (fun hh=>p0 hh.1) st d
  by_cases e2:((((k).fdiv (2 ^ min 14 IntKind.i64.bits))).tmod 16)=0
  ·simp only[ZG,seval,Bool.false_and,Prod.mk.injEq,Hm,iP,hj,j0,j1,g6,hT.Cp,h.sd.tree,gN,m1,m2,mQ _ _ hn,g1,g2,qne,hc,c1,c2,kp,bt e2,Pm];exact⟨_,fI rfl (by simp only[E8,seval,fv]<;>rfl) (by simp only[Z8,seval,fv]<;>rfl) (by simp only[dU,and_self,fv]),_,rfl,rTB⟩
  simp only[ZG,seval,Bool.false_and,Prod.mk.injEq,Hm,iP,hj,j0,j1,g6,hT.Cp,h.sd.tree,gN,m1,m2,mQ _ _ hn,g1,g2,qne,hc,c1,c2,kp,bf e2];exact⟨_,fI rfl (by simp only[E8,seval,fv]<;>rfl) (by simp only[Z8,seval,fv]<;>rfl) (by simp only[dU,and_self,fv]),_,rfl,rTB⟩
 have pr:=fN v.ns ((gx bU (ol Q) c).block)
 have kp:=fun st d=>k76 v.ns h.up hn (aO v.ns ((gx bU (ol Q) c).block)) p0 pr.2 st d
 have pm:=yR h.up p0 pr.2
 have prg:∀x∈path v.ns (aO v.ns ((gx bU (ol Q) c).block)),0≤x∧x<v.ns.length:=fun x hx=>vO h.up hx
 have pl:=Bi h.up (aO v.ns ((gx bU (ol Q) c).block))
 obtain⟨p,ep⟩:∃p,path v.ns (aO v.ns ((gx bU (ol Q) c).block))=p:=⟨_,rfl⟩
 rw[ep] at kp pm prg pl;have l0:(0:Int)<(p.length:Int):=by have:=List.length_pos_of_mem pm;omega
 have lne:¬((p.length:Int)=0):=by omega
 by_cases e1:0<((((k).fdiv (2 ^ min 14 IntKind.i64.bits))).tmod 4)
 case neg =>
  by_cases e2:((((k).fdiv (2 ^ min 14 IntKind.i64.bits))).tmod 16)=0
  ·simp only[ZG,seval,Bool.false_and,Prod.mk.injEq,Hm,iP,hj,j0,j1,g6,hT.Cp,h.sd.tree,gN,m1,m2,mQ _ _ hn,g1,g2,qne,hc,c1,c2,kp,l0,e1,bt e2,Pm];exact⟨_,fI rfl (by simp only[E8,seval,fv]<;>rfl) (by simp only[Z8,seval,fv]<;>rfl) (by simp only[dU,and_self,fv]),_,rfl,rTB⟩
  simp only[ZG,seval,Bool.false_and,Prod.mk.injEq,Hm,iP,hj,j0,j1,g6,hT.Cp,h.sd.tree,gN,m1,m2,mQ _ _ hn,g1,g2,qne,hc,c1,c2,kp,l0,e1,bf e2];exact⟨_,fI rfl (by simp only[E8,seval,fv]<;>rfl) (by simp only[Z8,seval,fv]<;>rfl) (by simp only[dU,and_self,fv]),_,rfl,rTB⟩
 obtain⟨x1,x2⟩:=eA (n:=(p.length:Int)) (Bk hk (min 16 IntKind.i64.bits)) l0
 obtain⟨y,hy⟩:∃y,((((k).fdiv (2 ^ min 16 IntKind.i64.bits))).tmod (p.length:Int))=y:=⟨_,rfl⟩
 rw[hy] at x1 x2;have gp:=pF x1 x2
 obtain⟨z1,z2⟩:=prg (it p y) (by obtain⟨h1,h2⟩:=xN x1 x2;rw[h2];exact List.getElem_mem h1)
 by_cases e2:((((k).fdiv (2 ^ min 14 IntKind.i64.bits))).tmod 16)=0
 ·simp only[ZG,seval,Bool.false_and,Prod.mk.injEq,Hm,iP,hj,j0,j1,g6,hT.Cp,h.sd.tree,gN,m1,m2,mQ _ _ hn,g1,g2,qne,hc,c1,c2,kp,l0,lne,e1,hy,x1,x2,gp,z1,z2,bt e2,Pm];exact⟨_,fI rfl (by simp only[E8,seval,fv]<;>rfl) (by simp only[Z8,seval,fv]<;>rfl) (by simp only[dU,and_self,fv]),_,rfl,rTB⟩
 simp only[ZG,seval,Bool.false_and,Prod.mk.injEq,Hm,iP,hj,j0,j1,g6,hT.Cp,h.sd.tree,gN,m1,m2,mQ _ _ hn,g1,g2,qne,hc,c1,c2,kp,l0,lne,e1,hy,x1,x2,gp,z1,z2,bf e2];exact⟨_,fI rfl (by simp only[E8,seval,fv]<;>rfl) (by simp only[Z8,seval,fv]<;>rfl) (by simp only[dU,and_self,fv]),_,rfl,rTB⟩
end Go.Ab.Tryz
section
namespace Go.Ab
open Classical
theorem pO [Ext] {P:Program} {bi:Bool} {a b:Code} {st:St} {β:Type} {K:Ex × St→Option β} {R:β→Prop} (Q:St→Prop) (h:∃st',wQ P bi a st=some (.normal,st')∧Q st')
 (rest:∀st',Q st'→∃r,cH (wQ P bi b st') K=some r∧R r):∃r,cH (wQ P bi (.seq a b) st) K=some r∧R r:=by
 obtain⟨s1,h1,h2⟩:=h
 rw[JC,h1];exact rest s1 h2
end Go.Ab
namespace Go.Ab.Tryz
open Classical Go.Proofs Go.Ab
structure BQ (n:Int) (v:SV) (b:Block):Prop extends RB b where
 rt:b.root=mkRoot n∨∃m∈v.ns,b.root=m.block.root
theorem x50 {s:aN} {v:SV} {q:Int} (h:GI s v q) (r:RG s v) (n k:Int) (hk:0≤k):∃x,aC Tryz.prog 50 [.agg (aB s),.v (.int .i64 n),.v (.int .i64 k)]=some x∧∃b:Block,x=.agg (aT b)∧BQ n v b:=by
 have hn:=h.sd.nn
 have hp:(0:Int)<(v.ns.length:Int):=by have:=h.pos;omega
 have gN:¬((v.ns.length:Int)=0):=by omega
 have Ox:=h.sp
 have rn:Rg s.now:=⟨r.now.1,by have:=r.now.2;omega⟩
 have rnd:∀p:Int,0≤p→p<v.ns.length→RB (nd v.ns p).block:=fun p h0 h1=>(r.nd _ (IV h0 h1)).1
 obtain⟨m1,m2⟩:=eA (n:=(v.ns.length:Int)) hk hp
 obtain⟨m3,m4⟩:=eA (n:=(v.ns.length:Int)) (Bk hk (min 3 IntKind.i64.bits)) hp
 rw[cG Tryz.func50 rfl aQs (by kernel_rfl) rfl]
 refine pO (fun st=>st.aP 8=0∧st.aP 9=0∧st.aP 11=0∧st.env 1=.v (.int .i64 n)∧st.env 2=.v (.int .i64 k)∧st.env 3=.ptr 3 0 0∧st.heap 3 0=some (.cells (aB s))∧st.env 6=.ptr 6 0 0∧st.heap 6 0=some (.cells (aT fD))) ?h0 ?r0
 case h0 =>
  refine⟨?s1, ?h1, ?q1⟩
  case h1 =>
   simp only[ZG,seval,Bool.false_and,Prod.mk.injEq,sT];rfl
  case q1=>exact⟨by simp only[E8,seval]<;>rfl,by simp only[E8,seval]<;>rfl,by simp only[E8,seval]<;>rfl,by simp only[E8,seval]<;>rfl,by simp only[E8,seval]<;>rfl,by simp only[E8,seval]<;>rfl,by simp only[E8,seval]<;>rfl,by simp only[E8,seval]<;>rfl,by simp only[E8,seval]<;>rfl⟩
 case r0 =>
 intro st hI;refine pO (fun st=>∃p:Int,(st.aP 8=0∧st.aP 9=0∧st.aP 11=0∧st.env 1=.v (.int .i64 n)∧st.env 2=.v (.int .i64 k)∧st.env 3=.ptr 3 0 0∧st.heap 3 0=some (.cells (aB s))∧st.env 6=.ptr 6 0 0∧st.heap 6 0=some (.cells (aT fD))∧st.env 7=.v (.int .i64 p))∧0≤p∧p<v.ns.length) ?h1 ?r1
 case h1 =>
  refine⟨?s2, ?h2, ?q2⟩
  case h2 =>
   simp only[ZG,seval,Bool.false_and,Prod.mk.injEq,sT,hI,h.sd.tree,gN];rfl
  case q2=>exact⟨_,by and_intros<;>(simp only[E8,seval,hI]<;>rfl),m1,m2⟩
 case r1 =>
 rintro st ⟨p,hI,p0,p1⟩
 refine pO (fun st=>∃p:Int,(st.aP 8=0∧st.aP 9=0∧st.aP 11=0∧st.env 1=.v (.int .i64 n)∧st.env 2=.v (.int .i64 k)∧st.env 3=.ptr 3 0 0∧st.heap 3 0=some (.cells (aB s))∧st.env 6=.ptr 6 0 0∧st.heap 6 0=some (.cells (aT fD))∧st.env 7=.v (.int .i64 p))∧0≤p∧p<v.ns.length) ?h2 ?r2
 case h2 =>
  by_cases g:0<((((k).fdiv (2 ^ min 6 IntKind.i64.bits))).tmod 3)
  ·obtain⟨M,hM⟩:∃M,(if (v.ns.length:Int)<3 then (v.ns.length:Int) else 3)=M:=⟨_,rfl⟩
   have hM1:1≤M∧M≤v.ns.length:=by rw[← hM];split<;>omega
   have hM0:¬M=0:=by omega
   obtain⟨x0,x1⟩:=eA (n:=M) p0 (by omega)
   have w1:IntKind.i64.wrap ((v.ns.length:Int)-1)=(v.ns.length:Int)-1:=pZ _ (by omega) (by omega)
   have w2:IntKind.i64.wrap ((v.ns.length:Int)-1-p.tmod M)=(v.ns.length:Int)-1-p.tmod M:=pZ _ (by omega) (by omega)
   refine⟨?s3, ?h3, ?q3⟩
   case h3 =>
    simp only[ZG,seval,Bool.false_and,Prod.mk.injEq,sT,hI,h.sd.tree,g,hM,hM0,w1,w2];rfl
   case q3=>exact⟨(v.ns.length:Int)-1-p.tmod M,by and_intros<;>(simp only[E8,seval,hI]<;>rfl),by omega,by omega⟩
  ·skip
   refine⟨?s4, ?h4, ?q4⟩
   case h4 =>
    simp only[ZG,seval,Bool.false_and,Prod.mk.injEq,sT,hI,g];rfl
   case q4=>exact⟨p,by and_intros<;>(simp only[E8,seval,hI]<;>rfl),p0,p1⟩
 case r2 =>
 clear hI p0 p1
 clear p
 rintro st ⟨p,hI,p0,p1⟩
 have rN:=rnd p p0 p1
 refine pO (fun st=>st.aP 9=0∧st.aP 11=0∧st.env 1=.v (.int .i64 n)∧st.env 2=.v (.int .i64 k)∧st.env 3=.ptr 3 0 0∧st.heap 3 0=some (.cells (aB s))∧st.env 6=.ptr 6 0 0∧st.heap 6 0=some (.cells (aT fD))∧st.env 7=.v (.int .i64 p)∧st.env 8=.ptr 8 0 0∧st.heap 8 0=some (.cells (fF (nd v.ns p)))) ?h4 ?r4
 case h4 =>
  refine⟨?s5, ?h5, ?q5⟩
  case h5 =>
   simp only[ZG,seval,Bool.false_and,Prod.mk.injEq,sT,hI,h.sd.tree,p0,p1];rfl
  case q5=>exact⟨by simp only[E8,seval,hI]<;>rfl,by simp only[E8,seval,hI]<;>rfl,by simp only[E8,seval,hI]<;>rfl,by simp only[E8,seval,hI]<;>rfl,by simp only[E8,seval,hI]<;>rfl,by simp only[E8,seval,hI]<;>rfl,by simp only[E8,seval,hI]<;>rfl,by simp only[E8,seval,hI]<;>rfl,by simp only[E8,seval,hI]<;>rfl,by simp only[E8,seval,hI]<;>rfl,by simp only[E8,seval,hI]<;>rfl⟩
 case r4 =>
 clear hI
 intro st hI;refine pO (fun st=>∃b:Block,(st.aP 11=0∧st.env 1=.v (.int .i64 n)∧st.env 2=.v (.int .i64 k)∧st.env 3=.ptr 3 0 0∧st.heap 3 0=some (.cells (aB s))∧st.env 6=.ptr 6 0 0∧st.heap 6 0=some (.cells (aT fD))∧st.env 7=.v (.int .i64 p)∧st.env 8=.ptr 8 0 0∧st.heap 8 0=some (.cells (fF (nd v.ns p)))∧st.env 9=.ptr 9 0 0∧st.heap 9 0=some (.cells (aT b)))∧BQ n v b) ?h5 ?r5
 case h5 =>
  refine⟨?s6, ?h6, ?q6⟩
  case h6 =>
   simp only[ZG,seval,Bool.false_and,Prod.mk.injEq,sT,hI,Pm];rfl
  case q6=>exact⟨_,by and_intros<;>(simp only[E8,seval,hI]<;>rfl),by exact⟨⟨rn,rN.j,rN.f,rN.pj,rN.pf⟩,.inl rfl⟩⟩
 case r5 =>
 clear hI
 rintro st ⟨b,hI,rb⟩
 refine pO (fun st=>∃b:Block,(st.aP 11=0∧st.env 1=.v (.int .i64 n)∧st.env 2=.v (.int .i64 k)∧st.env 3=.ptr 3 0 0∧st.heap 3 0=some (.cells (aB s))∧st.env 6=.ptr 6 0 0∧st.heap 6 0=some (.cells (aT fD))∧st.env 7=.v (.int .i64 p)∧st.env 8=.ptr 8 0 0∧st.heap 8 0=some (.cells (fF (nd v.ns p)))∧st.env 9=.ptr 9 0 0∧st.heap 9 0=some (.cells (aT b)))∧BQ n v b) ?h6 ?r6
 case h6 =>
  by_cases g:((((k).fdiv (2 ^ min 10 IntKind.i64.bits))).tmod 5)=0
  case neg =>
   refine⟨?s7, ?h7, ?q7⟩
   case h7 =>
    simp only[ZG,seval,Bool.false_and,Prod.mk.injEq,sT,hI,bf g];rfl
   case q7=>exact⟨b,by and_intros<;>(simp only[E8,seval,hI]<;>rfl),rb⟩
  by_cases g2:0<s.now
  case neg =>
   refine⟨?s8, ?h8, ?q8⟩
   case h8 =>
    simp only[ZG,seval,Bool.false_and,Prod.mk.injEq,sT,hI,bt g,g2];rfl
   case q8=>exact⟨b,by and_intros<;>(simp only[E8,seval,hI]<;>rfl),rb⟩
  refine⟨?s9, ?h9, ?q9⟩
  case h9 =>
   simp only[ZG,seval,Bool.false_and,Prod.mk.injEq,sT,hI,bt g,g2];rfl
  case q9=>exact⟨_,by and_intros<;>(simp only[E8,seval,hI]<;>rfl),by exact⟨⟨jV _,rb.j,rb.f,rb.pj,rb.pf⟩,rb.rt⟩⟩
 case r6 =>
 clear hI rb
 clear b
 rintro st ⟨b,hI,rb⟩
 refine pO (fun st=>∃b:Block,(st.aP 11=0∧st.env 1=.v (.int .i64 n)∧st.env 2=.v (.int .i64 k)∧st.env 3=.ptr 3 0 0∧st.heap 3 0=some (.cells (aB s))∧st.env 6=.ptr 6 0 0∧st.heap 6 0=some (.cells (aT fD))∧st.env 7=.v (.int .i64 p)∧st.env 8=.ptr 8 0 0∧st.heap 8 0=some (.cells (fF (nd v.ns p)))∧st.env 9=.ptr 9 0 0∧st.heap 9 0=some (.cells (aT b)))∧BQ n v b) ?h8 ?r8
 case h8 =>
  by_cases g:((((k).fdiv (2 ^ min 12 IntKind.i64.bits))).tmod 16)=0
  case neg =>
   refine⟨?s10, ?h10, ?q10⟩
   case h10 =>
    simp only[ZG,seval,Bool.false_and,Prod.mk.injEq,sT,hI,bf g];rfl
   case q10=>exact⟨b,by and_intros<;>(simp only[E8,seval,hI]<;>rfl),rb⟩
  refine⟨?s11, ?h11, ?q11⟩
  case h11 =>
   simp only[ZG,seval,Bool.false_and,Prod.mk.injEq,sT,hI,bt g,Pm];rfl
  case q11=>exact⟨_,by and_intros<;>(simp only[E8,seval,hI]<;>rfl),by exact⟨⟨rb.sl,rb.j,rb.f,rb.pj,rb.pf⟩,rb.rt⟩⟩
 case r8 =>
 clear hI rb
 clear b
 rintro st ⟨b,hI,rb⟩
 refine pO (fun st=>∃e:Int,(st.aP 11=0∧st.env 1=.v (.int .i64 n)∧st.env 2=.v (.int .i64 k)∧st.env 3=.ptr 3 0 0∧st.heap 3 0=some (.cells (aB s))∧st.env 6=.ptr 6 0 0∧st.heap 6 0=some (.cells (aT fD))∧st.env 7=.v (.int .i64 p)∧st.env 8=.ptr 8 0 0∧st.heap 8 0=some (.cells (fF (nd v.ns p)))∧st.env 9=.ptr 9 0 0∧st.heap 9 0=some (.cells (aT b))∧st.env 10=.v (.int .u64 e))∧Rg e) ?h10 ?r10
 case h10 =>
  refine⟨?s12, ?h12, ?q12⟩
  case h12 =>
   simp only[ZG,seval,Bool.false_and,Prod.mk.injEq,sT,hI,Ox];rfl
  case q12=>exact⟨_,by and_intros<;>(simp only[E8,seval,hI]<;>rfl),jV _⟩
 case r10 =>
 clear hI
 rintro st ⟨e,hI,re⟩
 obtain⟨y,hy,c,rfl,rc⟩:=x92 h r p e re
 have Sz:=kx hy (nA h.sd.flat (.v _) (.v _)) (.agg _ (dB _))
 refine pO (fun st=>∃b:Block,(st.env 1=.v (.int .i64 n)∧st.env 2=.v (.int .i64 k)∧st.env 3=.ptr 3 0 0∧st.heap 3 0=some (.cells (aB s))∧st.env 6=.ptr 6 0 0∧st.heap 6 0=some (.cells (aT fD))∧st.env 7=.v (.int .i64 p)∧st.env 8=.ptr 8 0 0∧st.heap 8 0=some (.cells (fF (nd v.ns p)))∧st.env 9=.ptr 9 0 0∧st.heap 9 0=some (.cells (aT b))∧st.env 10=.v (.int .u64 e))∧BQ n v b) ?h11 ?r11
 case h11 =>
  by_cases g:b.dQ.pj.aK<c.aK
  case neg =>
   refine⟨?s13, ?h13, ?q13⟩
   case h13 =>
    simp only[ZG,seval,Bool.false_and,Prod.mk.injEq,sT,hI,Sz,g];rfl
   case q13=>exact⟨b,by and_intros<;>(simp only[E8,seval,hI]<;>rfl),rb⟩
  by_cases g2:((((k).fdiv (2 ^ min 13 IntKind.i64.bits))).tmod 2)=0
  case neg =>
   refine⟨?s14, ?h14, ?q14⟩
   case h14 =>
    simp only[ZG,seval,Bool.false_and,Prod.mk.injEq,sT,hI,Sz,g,bf g2];rfl
   case q14=>exact⟨b,by and_intros<;>(simp only[E8,seval,hI]<;>rfl),rb⟩
  by_cases g3:((((k).fdiv (2 ^ min 14 IntKind.i64.bits))).tmod 2)=0
  case neg =>
   refine⟨?s15, ?h15, ?q15⟩
   case h15 =>
    simp only[ZG,seval,Bool.false_and,Prod.mk.injEq,sT,hI,Sz,g,bt g2,bf g3];rfl
   case q15=>exact⟨_,by and_intros<;>(simp only[E8,seval,hI]<;>rfl),by exact⟨⟨rb.sl,rb.j,rb.f,rc,rb.pf⟩,rb.rt⟩⟩
  refine⟨?s16, ?h16, ?q16⟩
  case h16 =>
   simp only[ZG,seval,Bool.false_and,Prod.mk.injEq,sT,hI,Sz,g,bt g2,bt g3];rfl
  case q16=>exact⟨_,by and_intros<;>(simp only[E8,seval,hI]<;>rfl),by exact⟨⟨rb.sl,rb.j,rb.f,rc,rb.pj⟩,rb.rt⟩⟩
 case r11 =>
 clear hI rb
 clear b
 rintro st ⟨b,hI,rb⟩
 refine pO (fun st=>∃b:Block,(st.env 1=.v (.int .i64 n)∧st.env 2=.v (.int .i64 k)∧st.env 3=.ptr 3 0 0∧st.heap 3 0=some (.cells (aB s))∧st.env 6=.ptr 6 0 0∧st.heap 6 0=some (.cells (aT fD))∧st.env 7=.v (.int .i64 p)∧st.env 8=.ptr 8 0 0∧st.heap 8 0=some (.cells (fF (nd v.ns p)))∧st.env 9=.ptr 9 0 0∧st.heap 9 0=some (.cells (aT b))∧st.env 10=.v (.int .u64 e))∧BQ n v b) ?h16 ?r16
 case h16 =>
  by_cases g:((((k).fdiv (2 ^ min 15 IntKind.i64.bits))).tmod 3)=0
  case neg =>
   refine⟨?s17, ?h17, ?q17⟩
   case h17 =>
    simp only[ZG,seval,Bool.false_and,Prod.mk.injEq,sT,hI,bf g];rfl
   case q17=>exact⟨b,by and_intros<;>(simp only[E8,seval,hI]<;>rfl),rb⟩
  by_cases g2:IntKind.u64.wrap ((nd v.ns p).block.slot.tdiv s.cFg.qW)<e
  case neg =>
   refine⟨?s18, ?h18, ?q18⟩
   case h18 =>
    simp only[ZG,seval,Bool.false_and,Prod.mk.injEq,sT,hI,bt g,Ox,g2];rfl
   case q18=>exact⟨b,by and_intros<;>(simp only[E8,seval,hI]<;>rfl),rb⟩
  refine⟨?s19, ?h19, ?q19⟩
  case h19 =>
   simp only[ZG,seval,Bool.false_and,Prod.mk.injEq,sT,hI,bt g,Ox,g2];rfl
  case q19=>exact⟨_,by and_intros<;>(simp only[E8,seval,hI]<;>rfl),by exact⟨⟨rb.sl,rN.pj,rN.pf,rb.pj,rb.pf⟩,rb.rt⟩⟩
 case r16 =>
 clear hI rb
 clear b
 rintro st ⟨b,hI,rb⟩
 refine pO (fun st=>∃b:Block,(st.env 1=.v (.int .i64 n)∧st.env 2=.v (.int .i64 k)∧st.env 3=.ptr 3 0 0∧st.heap 3 0=some (.cells (aB s))∧st.env 6=.ptr 6 0 0∧st.heap 6 0=some (.cells (aT fD))∧st.env 7=.v (.int .i64 p)∧st.env 8=.ptr 8 0 0∧st.heap 8 0=some (.cells (fF (nd v.ns p)))∧st.env 9=.ptr 9 0 0∧st.heap 9 0=some (.cells (aT b))∧st.env 10=.v (.int .u64 e))∧BQ n v b) ?h18 ?r18
 case h18 =>
  by_cases g:(nd v.ns p).block.iO=dE
  case neg =>
   refine⟨?s20, ?h20, ?q20⟩
   case h20 =>
    simp only[ZG,seval,Bool.false_and,Prod.mk.injEq,sT,hI,g,Pm,qZ,Nat.reduceLT];rfl
   case q20=>exact⟨_,by and_intros<;>(simp only[E8,seval,hI]<;>rfl),by exact⟨⟨rb.sl,rb.j,rb.f,rb.pj,rb.pf⟩,rb.rt⟩⟩
  by_cases g2:((((k).fdiv (2 ^ min 16 IntKind.i64.bits))).tmod 3)=0
  case neg =>
   refine⟨?s21, ?h21, ?q21⟩
   case h21 =>
    simp only[ZG,seval,Bool.false_and,Prod.mk.injEq,sT,hI,g,bf g2];rfl
   case q21=>exact⟨b,by and_intros<;>(simp only[E8,seval,hI]<;>rfl),rb⟩
  refine⟨?s22, ?h22, ?q22⟩
  case h22 =>
   simp only[ZG,seval,Bool.false_and,Prod.mk.injEq,sT,hI,g,bt g2,Pm,qZ,Nat.reduceLT];rfl
  case q22=>exact⟨_,by and_intros<;>(simp only[E8,seval,hI]<;>rfl),by exact⟨⟨rb.sl,rb.j,rb.f,rb.pj,rb.pf⟩,rb.rt⟩⟩
 case r18 =>
 clear hI rb
 clear b
 rintro st ⟨b,hI,rb⟩
 obtain⟨w0,hw0,W,rfl⟩:=aQc ((k).fdiv (2 ^ min 3 IntKind.i64.bits))
 have k111:=kx hw0 (cU (.v _)) (.agg _ (iM W))
 refine pO (fun st=>∃b:Block,(st.env 1=.v (.int .i64 n)∧st.env 2=.v (.int .i64 k)∧st.env 3=.ptr 3 0 0∧st.heap 3 0=some (.cells (aB s))∧st.env 6=.ptr 6 0 0∧st.heap 6 0=some (.cells (aT fD))∧st.env 7=.v (.int .i64 p)∧st.env 8=.ptr 8 0 0∧st.heap 8 0=some (.cells (fF (nd v.ns p)))∧st.env 9=.ptr 9 0 0∧st.heap 9 0=some (.cells (aT b))∧st.env 10=.v (.int .u64 e))∧BQ n v b) ?h21 ?r21
 case h21 =>
  by_cases c0:((((k).fdiv (2 ^ min 18 IntKind.i64.bits))).tmod 24)=0
  ·skip
   refine⟨?s23, ?h23, ?q23⟩
   case h23 =>
    simp only[ZG,seval,Bool.false_and,Prod.mk.injEq,sT,hI,bt c0,Pm];rfl
   case q23=>exact⟨_,by and_intros<;>(simp only[E8,seval,hI]<;>rfl),by exact⟨⟨rb.sl,rb.j,rb.f,rb.pj,rb.pf⟩,rb.rt⟩⟩
  by_cases c1:((((k).fdiv (2 ^ min 18 IntKind.i64.bits))).tmod 24)=1
  ·skip
   refine⟨?s24, ?h24, ?q24⟩
   case h24 =>
    simp only[ZG,seval,Bool.false_and,Prod.mk.injEq,sT,hI,bf c0,bt c1,k111];rfl
   case q24=>exact⟨_,by and_intros<;>(simp only[E8,seval,hI]<;>rfl),by exact⟨⟨rb.sl,rb.j,rb.f,rb.pj,rb.pf⟩,rb.rt⟩⟩
  by_cases c2:((((k).fdiv (2 ^ min 18 IntKind.i64.bits))).tmod 24)=2
  ·skip
   refine⟨?s25, ?h25, ?q25⟩
   case h25 =>
    simp only[ZG,seval,Bool.false_and,Prod.mk.injEq,sT,hI,bf c0,bf c1,bt c2,k111];rfl
   case q25=>exact⟨_,by and_intros<;>(simp only[E8,seval,hI]<;>rfl),by exact⟨⟨rb.sl,rb.j,rb.f,rb.pj,rb.pf⟩,rb.rt⟩⟩
  by_cases c3:((((k).fdiv (2 ^ min 18 IntKind.i64.bits))).tmod 24)=3
  ·skip
   refine⟨?s26, ?h26, ?q26⟩
   case h26 =>
    simp only[ZG,seval,Bool.false_and,Prod.mk.injEq,sT,hI,bf c0,bf c1,bf c2,bt c3];rfl
   case q26=>exact⟨_,by and_intros<;>(simp only[E8,seval,hI]<;>rfl),by exact⟨⟨rb.sl,rb.j,rb.f,jV _,rb.pf⟩,rb.rt⟩⟩
  by_cases c4:((((k).fdiv (2 ^ min 18 IntKind.i64.bits))).tmod 24)=4
  ·skip
   refine⟨?s27, ?h27, ?q27⟩
   case h27 =>
    simp only[ZG,seval,Bool.false_and,Prod.mk.injEq,sT,hI,bf c0,bf c1,bf c2,bf c3,bt c4];rfl
   case q27=>exact⟨_,by and_intros<;>(simp only[E8,seval,hI]<;>rfl),by exact⟨⟨jV _,rb.j,rb.f,rb.pj,rb.pf⟩,rb.rt⟩⟩
  by_cases c5:((((k).fdiv (2 ^ min 18 IntKind.i64.bits))).tmod 24)=5
  ·skip
   refine⟨?s28, ?h28, ?q28⟩
   case h28 =>
    simp only[ZG,seval,Bool.false_and,Prod.mk.injEq,sT,hI,bf c0,bf c1,bf c2,bf c3,bf c4,bt c5,h.sd.tree,gN,m3,m4];rfl
   case q28=>exact⟨_,by and_intros<;>(simp only[E8,seval,hI]<;>rfl),by exact⟨⟨rb.sl,rb.j,rb.f,rb.pj,rb.pf⟩,.inr ⟨_,IV m3 m4,rfl⟩⟩⟩
  by_cases c6:((((k).fdiv (2 ^ min 18 IntKind.i64.bits))).tmod 24)=6
  ·skip
   refine⟨?s29, ?h29, ?q29⟩
   case h29 =>
    simp only[ZG,seval,Bool.false_and,Prod.mk.injEq,sT,hI,bf c0,bf c1,bf c2,bf c3,bf c4,bf c5,bt c6,Pm];rfl
   case q29=>exact⟨_,by and_intros<;>(simp only[E8,seval,hI]<;>rfl),by exact⟨⟨rb.sl,rb.j,rb.f,rb.pj,rb.pf⟩,rb.rt⟩⟩
  by_cases c7:((((k).fdiv (2 ^ min 18 IntKind.i64.bits))).tmod 24)=7
  ·skip
   refine⟨?s30, ?h30, ?q30⟩
   case h30 =>
    simp only[ZG,seval,Bool.false_and,Prod.mk.injEq,sT,hI,bf c0,bf c1,bf c2,bf c3,bf c4,bf c5,bf c6,bt c7];rfl
   case q30=>exact⟨_,by and_intros<;>(simp only[E8,seval,hI]<;>rfl),by exact⟨⟨rb.sl,rb.j,rb.f,rb.pj,rb.pf⟩,rb.rt⟩⟩
  refine⟨?s31, ?h31, ?q31⟩
  case h31 =>
   simp only[ZG,seval,Bool.false_and,Prod.mk.injEq,sT,hI,bf c0,bf c1,bf c2,bf c3,bf c4,bf c5,bf c6,bf c7];rfl
  case q31=>exact⟨b,by and_intros<;>(simp only[E8,seval,hI]<;>rfl),rb⟩
 case r21 =>
 clear hI rb
 clear b
 rintro st ⟨b,hI,rb⟩
 simp only[ZG,seval,Bool.false_and,Prod.mk.injEq,sT,hI];exact⟨_,fI rfl (by simp only[E8,seval,hI]<;>rfl) (by simp only[Z8,seval,hI]<;>rfl) (by simp only[dU,and_self,hI]),b,rfl,rb⟩
end Go.Ab.Tryz
end
namespace Go.Ab.Tryz
open Classical Go.Proofs Go.Ab
def Hs (st st':St):Prop:=(∀s g,g<st.aP s→st'.heap s g=st.heap s g)∧∀s,st.aP s≤st'.aP s
theorem aQw:aE 0 3 (some 2)=[]∧aE 1 17 (some 6)=[]∧aE 2 2 (some 21)=[]:=⟨rfl,rfl,rfl⟩
theorem aEK {s:aN} {v:SV} (hs:SD s v) (X:AV) (a:sH) (V:Option (List Int)) (ha:a.eU=ov aJ V) (hV:((ol V).length:Int)<1000000) (hr:∀x∈ol V,0≤x∧x<(ol v.L).length) :
 ∃G:St→St,∀st,Dr Tryz.prog 44 [.agg (aB (xA s X)),.agg (gY a)] st=some (.agg (aB (xA (Sv s v a (ol V)) X)),G st)∧Hs st (G st):=by
 have one:∀st,∃st',Dr Tryz.prog 44 [.agg (aB (xA s X)),.agg (gY a)] st=some (.agg (aB (xA (Sv s v a (ol V)) X)),st')∧Hs st st':=by
  intro st;have hl:(xA s X).gE.dT=ov cP v.L:=hs.dT
  rw[JD Tryz.prog Tryz.func44 rfl (by kernel_rfl)]
  simp only[ZG,seval,Bool.false_and,Prod.mk.injEq,aQw,hl,ha,aKl v.L hs.nL _ _ V hV hr,dY];refine⟨_,Zn (P:=Tryz.prog) (fn:=Tryz.f44) (r:=.cell 4 53) (x:=.agg (aB (xA (Sv s v a (ol V)) X))) (.inl rfl) rfl ?h1, ?h2⟩
  case h1 =>
   rw[Bl];simp only[bT,Z8,seval];unfold xA Sv;simp only[ov,Su]
  case h2 =>
   refine⟨fun x g hg=>?_,fun x=>?_⟩
   ·have n2:(x=2∧g=st.aP 2)=False:=eq_false (by rintro⟨rfl,rfl⟩;omega)
    have n3:(x=3∧g=st.aP 3)=False:=eq_false (by rintro⟨rfl,rfl⟩;omega)
    have n4:(x=4∧g=st.aP 4)=False:=eq_false (by rintro⟨rfl,rfl⟩;omega)
    simp only[E8,seval,dI,cC,n2,n3,n4,if_false]
   ·simp only[E8,seval,dI,cC];split<;>(try split)<;>(try split)<;>subst_vars<;>omega
 exact⟨fun st=>Classical.choose (one st),fun st=>Classical.choose_spec (one st)⟩
theorem GV {cs:List AV} (h:∀c∈cs,Flat c):cs.flatMap gI=[]:=List.flatMap_eq_nil_iff.2 fun c hc=>by have:=h c hc;cases this<;>rfl
theorem aEL {c:AV} (h:Flat c):gI c=[]:=by cases h<;>rfl
theorem U0 {s:aN} {v:SV} (h:SD s v) (a g:Nat):jD (.agg (aB (mS s (.own a g))))=[(a,g)]:=by
 obtain⟨h1,h2,h3,h4,h5,h6,h7⟩:=h.fl
 show (aB (mS s (.own a g))).flatMap gI=[(a,g)]
 unfold mS aB jT;simp only[List.flatMap_append,List.flatMap_cons,List.flatMap_nil,List.append_nil];rw[GV (uD _ h1),GV (qQ _ h2 h3),GV (lC _),GV (wX _ h6),GV (dZ _),GV (dF _)];have e4:gI s.dS.early=[]:=aEL h4
 have e7:gI s.tables=[]:=aEL h7
 simp only[e4,e7,List.nil_append,List.append_nil];rfl
theorem aCj {s:aN} {v:SV} (h:SD s v) (a g:Nat):ZL (.agg (aB (mS s (.own a g)))):=by
 obtain⟨h1,h2,h3,h4,h5,h6,h7⟩:=h.fl
 refine .inr (.inr ⟨_,rfl,fun c hc=>?_⟩)
 unfold mS aB jT at hc;simp only[List.mem_append,List.mem_singleton] at hc;rcases hc with hc|hc|hc|(hc|hc)|hc|hc|hc|hc
 ·exact .inl (uD _ h1 _ hc)
 ·exact .inl (qQ _ h2 h3 _ hc)
 ·exact .inl (lC _ _ hc)
 ·exact .inl (hc ▸ h4)
 ·exact .inr ⟨a,g,hc⟩
 ·exact .inl (wX _ h6 _ hc)
 ·exact .inl (dZ _ _ hc)
 ·exact .inl (dF _ _ hc)
 ·exact .inl (hc ▸ h7)
theorem aLx {s:aN} {v:SV} {q:Int} (h:GI s v q) {b:Block} (hb:Md s v b=0) (st:St) (d:Option Nat):eI (aC Tryz.prog) 217 [.agg (aB s),.agg (aT b)] st d=some { dst:=d,val:=.agg (aB (tF s v b))}:=Ir (bG h.sd.flat (vC b)) (aKm h hb) (h.ins hb).sd.flat
theorem aEM {s:aN} {v:SV} {q:Int} (h0:SD s v) {O:List Block} (h:GI (mS s (ov aH (some O))) { v with O:=some O } q) {b:Block} (hb:Md (mS s (ov aH (some O))) { v with O:=some O } b=0) (a g:Nat) (st:St) (d:Option Nat) (hh:st.heap a g=some (.row 74 238 O.length (aH O))) :
 eI (aC Tryz.prog) 217 [.agg (aB (mS s (.own a g))),.agg (aT b)] st d=some { dst:=d,val:=.agg (aB (tF (mS s (ov aH (some O))) { v with O:=some O } b)),dJ:=some (a,g,none)}:=by
 rw[Gd (s:=a) (k:=g) (by rw[List.flatMap_cons,List.flatMap_cons,List.flatMap_nil,U0 h0,tP (vC b)];rfl) (by intro x hx;simp only[List.mem_cons,List.not_mem_nil,or_false] at hx;rcases hx with rfl|rfl;exact aCj h0 a g;exact .inl (vC b)),
  List.map_cons,List.map_cons,List.map_nil,zV h0 st hh,Nk,bL,bL,gK]
 exact Zi (aKm h hb) (h.ins hb).sd.flat
theorem aQx {s:aN} {v:SV} {q:Int} (h0:SD s v) {O:List Block} (h:GI (mS s (ov aH (some O))) { v with O:=some O } q) (b:Block) (a g:Nat) (st:St) (d:Option Nat) (hh:st.heap a g=some (.row 74 238 O.length (aH O))) :
 aM (aC Tryz.prog) 52 [.agg (aB (mS s (.own a g))),.agg (aT b)] st d=some { dst:=d,val:=.v (.int .i64 (Md (mS s (ov aH (some O))) { v with O:=some O } b))}:=by
 rw[lN,List.map_cons,List.map_cons,List.map_nil,zV h0 st hh,Nk,bL,bL,gK];exact Yl (c52 h.sd h.up h.sp b)
theorem aLy {s:aN} {v:SV} {q:Int} (h0:SD s v) {O:List Block} (h:GI (mS s (ov aH (some O))) { v with O:=some O } q) (a g:Nat) (st:St) (d:Option Nat) (hh:st.heap a g=some (.row 74 238 O.length (aH O))) :
 aM (aC Tryz.prog) 218 [.agg (aB (mS s (.own a g)))] st d=some { dst:=d,val:=.v (.int .i64 (DK { v with O:=some O }))}:=by
 rw[lN,List.map_cons,List.map_nil,zV h0 st hh,bL,gK];exact Yl (aKi h.sd)
theorem tH {s:aN} {v:SV} (h:SD s v):mS s (ov aH v.O)=s:=by unfold mS;rw[← h.bV]
def kP:Code→Code
 | .loop b=>.loop b
 | .seq a b=>match kP a with
   | .skip=>kP b
   | c=>c
 | .cond _ a b=>match kP a with
   | .skip=>kP b
   | c=>c
 | .block _ b=>kP b
 | _=>.skip
noncomputable def Bv:Code:=kP (Tryz.f203.body.getD .skip)
def aQy (s:aN) (v:SV) (q:Int) (m:Nat) (st:St):Prop:=∃(S0:aN) (w:SV) (X:AV) (R:List cA) (a g:Nat),((st).env 2=.ptr 2 0 0∧(st).heap 2 0=some (.cells (aB (mS S0 X)))∧(st).env 4=.ptr 4 0 0∧(st).heap 4 0=some (.cells (aB gP))∧(st).env 9=.own a g∧(st).heap a g=some (.row 27 32 R.length (dV R))∧(st).env 10=.v (.int .i64 (DK w)))∧((a=66∧g=0)∨(a=105∧g<st.aP 105))∧(X=ov aH w.O∨∃g' L,w.O=some L∧X=.own 91 g'∧g'<st.aP 91∧st.heap 91 g'=some (.row 74 238 L.length (aH L)))∧GI S0 w q∧RG S0 w∧S0.cFg=s.cFg∧R.length+(ol w.O).length≤1+(ol v.O).length∧m=(ol w.O).length
def F7 (s:aN) (v:SV) (q:Int) (e:Ex) (st:St):Prop:=e=.exit 0∧∃(S0:aN) (w:SV) (X:AV) (R:List cA) (a g:Nat),(st.env 2=.ptr 2 0 0∧st.heap 2 0=some (.cells (aB (mS S0 X)))∧st.env 4=.ptr 4 0 0∧st.heap 4 0=some (.cells (aB gP))∧st.env 9=.own a g∧st.heap a g=some (.row 27 32 R.length (dV R)))∧a≠4∧(X=ov aH w.O∨∃g' L,w.O=some L∧X=.own 91 g'∧st.heap 91 g'=some (.row 74 238 L.length (aH L)))∧GI S0 w q∧RG S0 w∧S0.cFg=s.cFg∧R.length≤1+(ol v.O).length
theorem JE {s:aN} {v:SV} {q:Int} (nb:((ol v.O).length:Int)≤64) {m:Nat} {st:St} (hs:aQy s v q m st):∃e st',yS Tryz.prog Bv st=some (e,st')∧F7 s v q e st':=by
 have key:∃r,cH (yS Tryz.prog Bv st) some=some r∧F7 s v q r.1 r.2:=by
  unfold Bv;simp only[Tryz.f203,Option.getD_some,kP];refine cE (fun m st=>∃(S0:aN) (w:SV) (X:AV) (R:List cA) (a g:Nat),((st).env 2=.ptr 2 0 0∧(st).heap 2 0=some (.cells (aB (mS S0 X)))∧(st).env 4=.ptr 4 0 0∧(st).heap 4 0=some (.cells (aB gP))∧(st).env 9=.own a g∧(st).heap a g=some (.row 27 32 R.length (dV R))∧(st).env 10=.v (.int .i64 (DK w)))∧((a=66∧g=0)∨(a=105∧g<st.aP 105))∧(X=ov aH w.O∨∃g' L,w.O=some L∧X=.own 91 g'∧g'<st.aP 91∧st.heap 91 g'=some (.row 74 238 L.length (aH L)))∧GI S0 w q∧RG S0 w∧S0.cFg=s.cFg∧R.length+(ol w.O).length≤1+(ol v.O).length∧m=(ol w.O).length) (fun e st=>e=.exit 0∧∃(S0:aN) (w:SV) (X:AV) (R:List cA) (a g:Nat),(st.env 2=.ptr 2 0 0∧st.heap 2 0=some (.cells (aB (mS S0 X)))∧st.env 4=.ptr 4 0 0∧st.heap 4 0=some (.cells (aB gP))∧st.env 9=.own a g∧st.heap a g=some (.row 27 32 R.length (dV R)))∧a≠4∧(X=ov aH w.O∨∃g' L,w.O=some L∧X=.own 91 g'∧st.heap 91 g'=some (.row 74 238 L.length (aH L)))∧GI S0 w q∧RG S0 w∧S0.cFg=s.cFg∧R.length≤1+(ol v.O).length) m ?step ?start ?rest
  case start=>exact hs
  case rest=>exact fun e st h=>⟨_,rfl,h⟩
  case step =>
   clear hs
   rintro m st ⟨S0,w,X,R,a,g,hI,JA,hX,hG,oK,hC,hR,hm⟩
   have hlO:=hG.nO
   have hlB:=hG.OJ
   by_cases aY:0≤DK w
   case neg =>
    have hI':=hI
    have hX':X=ov aH w.O∨∃g' L,w.O=some L∧X=.own 91 g'∧st.heap 91 g'=some (.row 74 238 L.length (aH L)):=hX.imp id fun ⟨g',L,h1,h2,_,h4⟩=>⟨g',L,h1,h2,h4⟩
    apply oT (.exit 0)
    ·simp only[Z8,seval,hI,aY];rfl
    ·exact⟨rfl,S0,w,X,R,a,g,by simp only[E8,seval,hI],by omega,by simpa only[E8,seval] using hX',hG,oK,hC,by omega⟩
   obtain⟨k,hk,hkp,hkw⟩:∃k:Nat,k<(ol w.O).length∧0≤aO w.ns (gx fD (ol w.O) k).parent∧DK w=k:=by
    rcases zS (fun k=>0≤aO w.ns (gx fD (ol w.O) k).parent) (ol w.O).length with ⟨e,_⟩|⟨k,h1,h2,_,h3⟩
    ·have:DK w=-1:=e;omega
    ·exact⟨k,h1,h2,h3⟩
   rw[hkw] at hI aY;have q0:(0:Int)≤k:=by omega
   have q1:(k:Int)<((ol w.O).length:Int):=by omega
   have q2:(k:Int)≤((ol w.O).length:Int):=by omega
   have q3:(0:Int)≤((k+1:Nat):Int):=by omega
   have q4:((k+1:Nat):Int)≤((ol w.O).length:Int):=by omega
   have hw:IntKind.i64.wrap ((k:Int)+1)=((k+1:Nat):Int):=by rw[pZ _ (by omega) (by omega)];omega
   obtain⟨bb,wO⟩:∃bb,gx fD (ol w.O) (k:Int)=bb:=⟨_,rfl⟩
   have n1:((((ol w.O).take k).length:Nat):Int)<1000000:=by rw[List.length_take];omega
   have n2:((((ol w.O).drop (k+1)).length:Nat):Int)<1000000:=by rw[List.length_drop];omega
   obtain⟨LL,DD⟩:∃LL,(ol w.O).take k++(ol w.O).drop (k+1)=LL:=⟨_,rfl⟩
   have nl:LL.length+1=(ol w.O).length:=by rw[← DD,List.length_append,List.length_take,List.length_drop];omega
   have hmem:∀b∈LL,b∈ol w.O:=fun b hb=>by rw[← DD] at hb;exact (List.mem_append.1 hb).elim List.mem_of_mem_take List.mem_of_mem_drop
   have nR:(R.length:Int)<1000000:=by omega
   have hbm:bb∈ol w.O:=by rw[← wO];exact vU q0 q1
   have e1:ol (w.O.map (·.take k))=(ol w.O).take k:=by cases w.O<;>simp[ol]
   have e2:ol (w.O.map (·.drop (k+1)))=(ol w.O).drop (k+1):=by cases w.O<;>simp[ol]
   by_cases hz:LL=[]
   ·skip
    have hT:((ol w.O).take k).length=0:=by have:=congrArg List.length DD;rw[hz,List.length_append] at this;simp only[List.length_nil] at this;omega
    have hD:((ol w.O).drop (k+1)).length=0:=by have:=congrArg List.length DD;rw[hz,List.length_append] at this;simp only[List.length_nil] at this;omega
    have Si:(ol w.O).length=1:=by rw[hz] at nl;simpa using nl.symm
    have Qh:=hG.VQ none (by show ((0:Nat):Int)≤_;omega)
    have Ds:RG (mS S0 (ov aH none)) { w with O:=none }:=oK.VQ none (ov aH none) (fun b hb=>by cases hb) nofun
    have Zo:∀(st:St) (d:Option Nat),aM (aC Tryz.prog) 52 [.agg (aB (mS S0 (.v (.slice none 0 0)))),.agg (aT bb)] st d=_:=k52 Qh.sd Qh.up Qh.sp bb
    have Mf:∀(st:St) (d:Option Nat),aM (aC Tryz.prog) 218 [.agg (aB (mS S0 (.v (.slice none 0 0))))] st d=_:=OG Qh.sd
    have hO2:(ol (lF (mS S0 (ov aH none)) { w with O:=none } bb).O).length≤0:=VS _ _ _
    obtain⟨c,hc⟩:∃c,Md (mS S0 (ov aH none)) { w with O:=none } bb=c:=⟨_,rfl⟩
    rw[hc] at Zo;by_cases pT:c=0
    ·rw[pT] at hc;have Vb:=Qh.ins hc
     have Dt:=Ds.ins (oK.or bb hbm) hc
     have OU:=(Bt (mS S0 (ov aH none)) { w with O:=none } bb).1
     have GW:∀(st:St) (d:Option Nat),eI (aC Tryz.prog) 217 [.agg (aB (mS S0 (.v (.slice none 0 0)))),.agg (aT bb)] st d=_:=aLx Qh hc
     have pP:=OG Vb.sd
     obtain⟨S2,hS2⟩:∃S2,tF (mS S0 (ov aH none)) { w with O:=none } bb=S2:=⟨_,rfl⟩
     rw[hS2] at GW Vb Dt pP OU
     have Nl:=tH Vb.sd
     simp only[mS] at Zo Mf GW hI;rcases hX with rfl|⟨g',L,hL,rfl,hg1,OV⟩
     ·rcases JA with ⟨rfl,rfl⟩|⟨rfl,hg⟩
      ·refine oW (st':=?_) ?_ ((ol (lF (mS S0 (ov aH none)) { w with O:=none } bb).O).length) (by omega) ?_
       rotate_left
       ·simp only[Z8,seval,hI,aY,q0,q1,q2,q3,q4,hw,wO,Int.toNat_natCast,iI,iJ,oB,Option.isSome_some,Option.map_some,Option.some.injEq,hT,hD,Zo,Mf,e1,e2,bt pT,GW,pP,oL _ _ _ _ nR];rfl
       ·refine⟨S2,lF (mS S0 (ov aH none)) { w with O:=none } bb,_,R++[bb.root],105,st.aP 105, ?_,.inr ⟨rfl,by simp only[E8,seval]<;>omega⟩,.inl rfl,Vb,Dt,OU.trans hC, ?_,rfl⟩
        ·rw[Nl];simp only[E8,seval,hI]<;>rfl
        ·rw[List.length_append,List.length_cons,List.length_nil];omega
      ·have uY:(g=st.aP 105)=False:=eq_false (by omega)
       refine oW (st':=?_) ?_ ((ol (lF (mS S0 (ov aH none)) { w with O:=none } bb).O).length) (by omega) ?_
       rotate_left
       ·simp only[Z8,seval,hI,aY,q0,q1,q2,q3,q4,hw,wO,Int.toNat_natCast,iI,iJ,oB,Option.isSome_some,Option.map_some,Option.some.injEq,hT,hD,Zo,Mf,e1,e2,uY,bt pT,GW,pP,oL _ _ _ _ nR];rfl
       ·refine⟨S2,lF (mS S0 (ov aH none)) { w with O:=none } bb,_,R++[bb.root],105,st.aP 105, ?_,.inr ⟨rfl,by simp only[E8,seval]<;>omega⟩,.inl rfl,Vb,Dt,OU.trans hC, ?_,rfl⟩
        ·rw[Nl];simp only[E8,seval,hI]<;>rfl
        ·rw[List.length_append,List.length_cons,List.length_nil];omega
     ·have eL:ol w.O=L:=by rw[hL];rfl
      have OW:(g'=st.aP 91)=False:=eq_false (by omega)
      obtain⟨X1,OX,Is⟩:=Sw (L:=L) (k:=k) (by rw[← eL];omega) 91 g'
      obtain⟨X2,OY,It⟩:=Dn (L:=L) (k:=k+1) (by rw[← eL];omega) 91 g'
      have Zp:(k:Int)<(L.length:Int):=by rw[← eL];omega
      have Zq:=Ac (T:=74) (n:=L.length) (k:=238) q0 Zp WI (by decide) (by decide)
      simp only[Int.toNat_natCast] at Zq;subst eL;rcases JA with ⟨rfl,rfl⟩|⟨rfl,hg⟩
      ·refine oW (st':=?_) ?_ ((ol (lF (mS S0 (ov aH none)) { w with O:=none } bb).O).length) (by omega) ?_
       rotate_left
       ·simp only[Z8,seval,hI,aY,q0,q1,q2,q3,q4,hw,wO,Int.toNat_natCast,iI,iJ,oB,Option.isSome_some,Option.map_some,Option.some.injEq,hT,hD,Zo,Mf,OV,OW,OX _ _,Is,OY _ _,It,Zp,Zq,bt pT,GW,pP,oL _ _ _ _ nR];rfl
       ·refine⟨S2,lF (mS S0 (ov aH none)) { w with O:=none } bb,_,R++[bb.root],105,st.aP 105, ?_,.inr ⟨rfl,by simp only[E8,seval]<;>omega⟩,.inl rfl,Vb,Dt,OU.trans hC, ?_,rfl⟩
        ·rw[Nl];simp only[E8,seval,hI]<;>rfl
        ·rw[List.length_append,List.length_cons,List.length_nil];omega
      ·have uY:(g=st.aP 105)=False:=eq_false (by omega)
       refine oW (st':=?_) ?_ ((ol (lF (mS S0 (ov aH none)) { w with O:=none } bb).O).length) (by omega) ?_
       rotate_left
       ·simp only[Z8,seval,hI,aY,q0,q1,q2,q3,q4,hw,wO,Int.toNat_natCast,iI,iJ,oB,Option.isSome_some,Option.map_some,Option.some.injEq,hT,hD,Zo,Mf,OV,OW,OX _ _,Is,OY _ _,It,Zp,Zq,uY,bt pT,GW,pP,oL _ _ _ _ nR];rfl
       ·refine⟨S2,lF (mS S0 (ov aH none)) { w with O:=none } bb,_,R++[bb.root],105,st.aP 105, ?_,.inr ⟨rfl,by simp only[E8,seval]<;>omega⟩,.inl rfl,Vb,Dt,OU.trans hC, ?_,rfl⟩
        ·rw[Nl];simp only[E8,seval,hI]<;>rfl
        ·rw[List.length_append,List.length_cons,List.length_nil];omega
    ·simp only[mS] at Zo Mf hI;rcases hX with rfl|⟨g',L,hL,rfl,hg1,OV⟩
     ·rcases JA with ⟨rfl,rfl⟩|⟨rfl,hg⟩
      ·refine oW (st':=?_) ?_ 0 (by omega) ?_
       rotate_left
       ·simp only[Z8,seval,hI,aY,q0,q1,q2,q3,q4,hw,wO,Int.toNat_natCast,iI,iJ,oB,Option.isSome_some,Option.map_some,Option.some.injEq,hT,hD,Zo,Mf,e1,e2,bf pT];rfl
       ·refine⟨(mS S0 (ov aH none)),{ w with O:=none },ov aH none,R,_,_, ?_,.inl ⟨rfl,rfl⟩,.inl rfl,Qh,Ds,hC,by show R.length+0≤_;omega,rfl⟩
        simp only[E8,seval,hI]<;>rfl
      ·have uY:(g=st.aP 105)=False:=eq_false (by omega)
       refine oW (st':=?_) ?_ 0 (by omega) ?_
       rotate_left
       ·simp only[Z8,seval,hI,aY,q0,q1,q2,q3,q4,hw,wO,Int.toNat_natCast,iI,iJ,oB,Option.isSome_some,Option.map_some,Option.some.injEq,hT,hD,Zo,Mf,e1,e2,uY,bf pT];rfl
       ·refine⟨(mS S0 (ov aH none)),{ w with O:=none },ov aH none,R,_,_, ?_,.inr ⟨rfl,by simp only[E8,seval]<;>omega⟩,.inl rfl,Qh,Ds,hC,by show R.length+0≤_;omega,rfl⟩
        simp only[E8,seval,hI]<;>rfl
     ·have eL:ol w.O=L:=by rw[hL];rfl
      have OW:(g'=st.aP 91)=False:=eq_false (by omega)
      obtain⟨X1,OX,Is⟩:=Sw (L:=L) (k:=k) (by rw[← eL];omega) 91 g'
      obtain⟨X2,OY,It⟩:=Dn (L:=L) (k:=k+1) (by rw[← eL];omega) 91 g'
      have Zp:(k:Int)<(L.length:Int):=by rw[← eL];omega
      have Zq:=Ac (T:=74) (n:=L.length) (k:=238) q0 Zp WI (by decide) (by decide)
      simp only[Int.toNat_natCast] at Zq;subst eL;rcases JA with ⟨rfl,rfl⟩|⟨rfl,hg⟩
      ·refine oW (st':=?_) ?_ 0 (by omega) ?_
       rotate_left
       ·simp only[Z8,seval,hI,aY,q0,q1,q2,q3,q4,hw,wO,Int.toNat_natCast,iI,iJ,oB,Option.isSome_some,Option.map_some,Option.some.injEq,hT,hD,Zo,Mf,OV,OW,OX _ _,Is,OY _ _,It,Zp,Zq,bf pT];rfl
       ·refine⟨(mS S0 (ov aH none)),{ w with O:=none },ov aH none,R,_,_, ?_,.inl ⟨rfl,rfl⟩,.inl rfl,Qh,Ds,hC,by show R.length+0≤_;omega,rfl⟩
        simp only[E8,seval,hI]<;>rfl
      ·have uY:(g=st.aP 105)=False:=eq_false (by omega)
       refine oW (st':=?_) ?_ 0 (by omega) ?_
       rotate_left
       ·simp only[Z8,seval,hI,aY,q0,q1,q2,q3,q4,hw,wO,Int.toNat_natCast,iI,iJ,oB,Option.isSome_some,Option.map_some,Option.some.injEq,hT,hD,Zo,Mf,OV,OW,OX _ _,Is,OY _ _,It,Zp,Zq,uY,bf pT];rfl
       ·refine⟨(mS S0 (ov aH none)),{ w with O:=none },ov aH none,R,_,_, ?_,.inr ⟨rfl,by simp only[E8,seval]<;>omega⟩,.inl rfl,Qh,Ds,hC,by show R.length+0≤_;omega,rfl⟩
        simp only[E8,seval,hI]<;>rfl
   have DM:(LL.length=0)=False:=eq_false fun h=>hz (List.length_eq_zero_iff.1 h)
   have Qh:=hG.VQ (some LL) (by show ((LL.length:Nat):Int)≤_;omega)
   have sU:=aQx hG.sd Qh bb 91
   have oM:=aLy hG.sd Qh 91
   have hO2:(ol (lF (mS S0 (ov aH (some LL))) { w with O:=some LL } bb).O).length≤LL.length:=VS _ _ _
   obtain⟨c,hc⟩:∃c,Md (mS S0 (ov aH (some LL))) { w with O:=some LL } bb=c:=⟨_,rfl⟩
   rw[hc] at sU
   have Ds:=oK.VQ (some LL) (ov aH (some LL)) (fun b hb=>oK.or b (hmem b hb)) (fun e=>hz (by injection e))
   have eO:∀x,mS (mS S0 (ov aH (some LL))) x=mS S0 x:=fun x=>rfl
   by_cases uW:k=0
   ·have hT:((ol w.O).take k).length=0:=by rw[uW];rfl
    have hD:(ol w.O).drop (k+1)=LL:=by rw[← DD,uW];rfl
    have n3:((LL.length:Nat):Int)<1000000:=by omega
    by_cases pT:c=0
    · -- taken in
     rw[pT] at hc;have Vb:=Qh.ins hc
     have Dt:=Ds.ins (oK.or bb hbm) hc
     have OU:=(Bt (mS S0 (ov aH (some LL))) { w with O:=some LL } bb).1
     have wA:=aEM hG.sd Qh hc 91
     have pP:=OG Vb.sd
     obtain⟨S2,hS2⟩:∃S2,tF (mS S0 (ov aH (some LL))) { w with O:=some LL } bb=S2:=⟨_,rfl⟩
     rw[hS2] at wA Vb Dt pP OU
     have Nl:=tH Vb.sd
     have JF:(ol (lF (mS S0 (ov aH (some LL))) { w with O:=some LL } bb).O).length<m:=by omega
     have JG:(R++[bb.root]).length+(ol (lF (mS S0 (ov aH (some LL))) { w with O:=some LL } bb).O).length≤1+(ol v.O).length:=by rw[List.length_append,List.length_cons,List.length_nil];omega
     simp only[mS] at sU oM wA hI
     rcases hX with rfl|⟨g',L,hL,rfl,hg1,OV⟩
     · -- a list
      rcases JA with ⟨rfl,rfl⟩|⟨rfl,hg⟩
      · -- 66
       refine oW (st':=?_) ?_ ((ol (lF (mS S0 (ov aH (some LL))) { w with O:=some LL } bb).O).length) JF ?_
       rotate_left
       ·simp only[Z8,seval,hI,aY,q0,q1,q2,q3,q4,hw,wO,Int.toNat_natCast,iQ _ n3,iI,iJ,oB,Option.isSome_some,Option.map_some,Option.some.injEq,hT,DM,hD,sU,oM,e1,e2,bt pT,wA,pP,oL _ _ _ _ nR];rfl
       ·refine⟨S2,lF (mS S0 (ov aH (some LL))) { w with O:=some LL } bb,_,R++[bb.root],105,st.aP 105, ?_,.inr ⟨rfl,by simp only[E8,seval]<;>omega⟩,.inl rfl,Vb,Dt,OU.trans hC, ?_,rfl⟩
        ·rw[Nl];simp only[E8,seval,hI]<;>rfl
        ·exact JG
      · -- 105
       have uY:(g=st.aP 105)=False:=eq_false (by omega)
       refine oW (st':=?_) ?_ ((ol (lF (mS S0 (ov aH (some LL))) { w with O:=some LL } bb).O).length) JF ?_
       rotate_left
       ·simp only[Z8,seval,hI,aY,q0,q1,q2,q3,q4,hw,wO,Int.toNat_natCast,iQ _ n3,iI,iJ,oB,Option.isSome_some,Option.map_some,Option.some.injEq,hT,DM,hD,sU,oM,e1,e2,uY,bt pT,wA,pP,oL _ _ _ _ nR];rfl
       ·refine⟨S2,lF (mS S0 (ov aH (some LL))) { w with O:=some LL } bb,_,R++[bb.root],105,st.aP 105, ?_,.inr ⟨rfl,by simp only[E8,seval]<;>omega⟩,.inl rfl,Vb,Dt,OU.trans hC, ?_,rfl⟩
        ·rw[Nl];simp only[E8,seval,hI]<;>rfl
        ·exact JG
     · -- a row of its own
      have eL:ol w.O=L:=by rw[hL];rfl
      have OW:(g'=st.aP 91)=False:=eq_false (by omega)
      obtain⟨X1,OX,Is⟩:=Sw (L:=L) (k:=k) (by rw[← eL];omega) 91 g'
      obtain⟨X2,OY,It⟩:=Dn (L:=L) (k:=k+1) (by rw[← eL];omega) 91 g'
      have Zp:(k:Int)<(L.length:Int):=by rw[← eL];omega
      have Zq:=Ac (T:=74) (n:=L.length) (k:=238) q0 Zp WI (by decide) (by decide)
      simp only[Int.toNat_natCast] at Zq;subst eL;rcases JA with ⟨rfl,rfl⟩|⟨rfl,hg⟩
      · -- 66
       refine oW (st':=?_) ?_ ((ol (lF (mS S0 (ov aH (some LL))) { w with O:=some LL } bb).O).length) JF ?_
       rotate_left
       ·simp only[Z8,seval,hI,aY,q0,q1,q2,q3,q4,hw,wO,Int.toNat_natCast,iQ _ n3,iI,iJ,oB,Option.isSome_some,Option.map_some,Option.some.injEq,hT,DM,hD,sU,oM,OV,OW,OX _ _,Is,OY _ _,It,Zp,Zq,bt pT,wA,pP,oL _ _ _ _ nR];rfl
       ·refine⟨S2,lF (mS S0 (ov aH (some LL))) { w with O:=some LL } bb,_,R++[bb.root],105,st.aP 105, ?_,.inr ⟨rfl,by simp only[E8,seval]<;>omega⟩,.inl rfl,Vb,Dt,OU.trans hC, ?_,rfl⟩
        ·rw[Nl];simp only[E8,seval,hI]<;>rfl
        ·exact JG
      · -- 105
       have uY:(g=st.aP 105)=False:=eq_false (by omega)
       refine oW (st':=?_) ?_ ((ol (lF (mS S0 (ov aH (some LL))) { w with O:=some LL } bb).O).length) JF ?_
       rotate_left
       ·simp only[Z8,seval,hI,aY,q0,q1,q2,q3,q4,hw,wO,Int.toNat_natCast,iQ _ n3,iI,iJ,oB,Option.isSome_some,Option.map_some,Option.some.injEq,hT,DM,hD,sU,oM,OV,OW,OX _ _,Is,OY _ _,It,Zp,Zq,uY,bt pT,wA,pP,oL _ _ _ _ nR];rfl
       ·refine⟨S2,lF (mS S0 (ov aH (some LL))) { w with O:=some LL } bb,_,R++[bb.root],105,st.aP 105, ?_,.inr ⟨rfl,by simp only[E8,seval]<;>omega⟩,.inl rfl,Vb,Dt,OU.trans hC, ?_,rfl⟩
        ·rw[Nl];simp only[E8,seval,hI]<;>rfl
        ·exact JG
    · -- left out
     have JF:LL.length<m:=by omega
     have JG:R.length+LL.length≤1+(ol v.O).length:=by omega
     simp only[mS] at sU oM hI
     rcases hX with rfl|⟨g',L,hL,rfl,hg1,OV⟩
     · -- a list
      rcases JA with ⟨rfl,rfl⟩|⟨rfl,hg⟩
      · -- 66
       refine oW (st':=?_) ?_ (LL.length) JF ?_
       rotate_left
       ·simp only[Z8,seval,hI,aY,q0,q1,q2,q3,q4,hw,wO,Int.toNat_natCast,iQ _ n3,iI,iJ,oB,Option.isSome_some,Option.map_some,Option.some.injEq,hT,DM,hD,sU,oM,e1,e2,bf pT];rfl
       ·refine⟨(mS S0 (ov aH (some LL))),{ w with O:=some LL },_,R,_,_, ?_,.inl ⟨rfl,rfl⟩,.inr ⟨st.aP 91,_,rfl,rfl,by simp only[E8,seval]<;>omega,by simp only[E8,seval]<;>rfl⟩,Qh,Ds,hC,JG,rfl⟩
        simp only[E8,seval,hI]<;>rfl
      · -- 105
       have uY:(g=st.aP 105)=False:=eq_false (by omega)
       refine oW (st':=?_) ?_ (LL.length) JF ?_
       rotate_left
       ·simp only[Z8,seval,hI,aY,q0,q1,q2,q3,q4,hw,wO,Int.toNat_natCast,iQ _ n3,iI,iJ,oB,Option.isSome_some,Option.map_some,Option.some.injEq,hT,DM,hD,sU,oM,e1,e2,uY,bf pT];rfl
       ·refine⟨(mS S0 (ov aH (some LL))),{ w with O:=some LL },_,R,_,_, ?_,.inr ⟨rfl,by simp only[E8,seval]<;>omega⟩,.inr ⟨st.aP 91,_,rfl,rfl,by simp only[E8,seval]<;>omega,by simp only[E8,seval]<;>rfl⟩,Qh,Ds,hC,JG,rfl⟩
        simp only[E8,seval,hI]<;>rfl
     · -- a row of its own
      have eL:ol w.O=L:=by rw[hL];rfl
      have OW:(g'=st.aP 91)=False:=eq_false (by omega)
      obtain⟨X1,OX,Is⟩:=Sw (L:=L) (k:=k) (by rw[← eL];omega) 91 g'
      obtain⟨X2,OY,It⟩:=Dn (L:=L) (k:=k+1) (by rw[← eL];omega) 91 g'
      have Zp:(k:Int)<(L.length:Int):=by rw[← eL];omega
      have Zq:=Ac (T:=74) (n:=L.length) (k:=238) q0 Zp WI (by decide) (by decide)
      simp only[Int.toNat_natCast] at Zq;subst eL;rcases JA with ⟨rfl,rfl⟩|⟨rfl,hg⟩
      · -- 66
       refine oW (st':=?_) ?_ (LL.length) JF ?_
       rotate_left
       ·simp only[Z8,seval,hI,aY,q0,q1,q2,q3,q4,hw,wO,Int.toNat_natCast,iQ _ n3,iI,iJ,oB,Option.isSome_some,Option.map_some,Option.some.injEq,hT,DM,hD,sU,oM,OV,OW,OX _ _,Is,OY _ _,It,Zp,Zq,bf pT];rfl
       ·refine⟨(mS S0 (ov aH (some LL))),{ w with O:=some LL },_,R,_,_, ?_,.inl ⟨rfl,rfl⟩,.inr ⟨st.aP 91,_,rfl,rfl,by simp only[E8,seval]<;>omega,by simp only[E8,seval]<;>rfl⟩,Qh,Ds,hC,JG,rfl⟩
        simp only[E8,seval,hI]<;>rfl
      · -- 105
       have uY:(g=st.aP 105)=False:=eq_false (by omega)
       refine oW (st':=?_) ?_ (LL.length) JF ?_
       rotate_left
       ·simp only[Z8,seval,hI,aY,q0,q1,q2,q3,q4,hw,wO,Int.toNat_natCast,iQ _ n3,iI,iJ,oB,Option.isSome_some,Option.map_some,Option.some.injEq,hT,DM,hD,sU,oM,OV,OW,OX _ _,Is,OY _ _,It,Zp,Zq,uY,bf pT];rfl
       ·refine⟨(mS S0 (ov aH (some LL))),{ w with O:=some LL },_,R,_,_, ?_,.inr ⟨rfl,by simp only[E8,seval]<;>omega⟩,.inr ⟨st.aP 91,_,rfl,rfl,by simp only[E8,seval]<;>omega,by simp only[E8,seval]<;>rfl⟩,Qh,Ds,hC,JG,rfl⟩
        simp only[E8,seval,hI]<;>rfl
   have hT:(((ol w.O).take k).length=0)=False:=eq_false (by rw[List.length_take];omega)
   by_cases pT:c=0
   · -- taken in
    rw[pT] at hc;have Vb:=Qh.ins hc
    have Dt:=Ds.ins (oK.or bb hbm) hc
    have OU:=(Bt (mS S0 (ov aH (some LL))) { w with O:=some LL } bb).1
    have wA:=aEM hG.sd Qh hc 91
    have pP:=OG Vb.sd
    obtain⟨S2,hS2⟩:∃S2,tF (mS S0 (ov aH (some LL))) { w with O:=some LL } bb=S2:=⟨_,rfl⟩
    rw[hS2] at wA Vb Dt pP OU
    have Nl:=tH Vb.sd
    have JF:(ol (lF (mS S0 (ov aH (some LL))) { w with O:=some LL } bb).O).length<m:=by omega
    have JG:(R++[bb.root]).length+(ol (lF (mS S0 (ov aH (some LL))) { w with O:=some LL } bb).O).length≤1+(ol v.O).length:=by rw[List.length_append,List.length_cons,List.length_nil];omega
    simp only[mS] at sU oM wA hI
    rcases hX with rfl|⟨g',L,hL,rfl,hg1,OV⟩
    · -- a list
     rcases JA with ⟨rfl,rfl⟩|⟨rfl,hg⟩
     · -- 66
      refine oW (st':=?_) ?_ ((ol (lF (mS S0 (ov aH (some LL))) { w with O:=some LL } bb).O).length) JF ?_
      rotate_left
      ·simp only[Z8,seval,hI,aY,q0,q1,q2,q3,q4,hw,wO,Int.toNat_natCast,iQ _ n1,rQ _ _ _ _ n1 n2,iI,iJ,oB,Option.isSome_some,Option.map_some,Option.some.injEq,hT,DM,DD,sU,oM,e1,e2,bt pT,wA,pP,oL _ _ _ _ nR];rfl
      ·refine⟨S2,lF (mS S0 (ov aH (some LL))) { w with O:=some LL } bb,_,R++[bb.root],105,st.aP 105, ?_,.inr ⟨rfl,by simp only[E8,seval]<;>omega⟩,.inl rfl,Vb,Dt,OU.trans hC, ?_,rfl⟩
       ·rw[Nl];simp only[E8,seval,hI]<;>rfl
       ·exact JG
     · -- 105
      have uY:(g=st.aP 105)=False:=eq_false (by omega)
      refine oW (st':=?_) ?_ ((ol (lF (mS S0 (ov aH (some LL))) { w with O:=some LL } bb).O).length) JF ?_
      rotate_left
      ·simp only[Z8,seval,hI,aY,q0,q1,q2,q3,q4,hw,wO,Int.toNat_natCast,iQ _ n1,rQ _ _ _ _ n1 n2,iI,iJ,oB,Option.isSome_some,Option.map_some,Option.some.injEq,hT,DM,DD,sU,oM,e1,e2,uY,bt pT,wA,pP,oL _ _ _ _ nR];rfl
      ·refine⟨S2,lF (mS S0 (ov aH (some LL))) { w with O:=some LL } bb,_,R++[bb.root],105,st.aP 105, ?_,.inr ⟨rfl,by simp only[E8,seval]<;>omega⟩,.inl rfl,Vb,Dt,OU.trans hC, ?_,rfl⟩
       ·rw[Nl];simp only[E8,seval,hI]<;>rfl
       ·exact JG
    · -- a row of its own
     have eL:ol w.O=L:=by rw[hL];rfl
     have OW:(g'=st.aP 91)=False:=eq_false (by omega)
     obtain⟨X1,OX,Is⟩:=Sw (L:=L) (k:=k) (by rw[← eL];omega) 91 g'
     obtain⟨X2,OY,It⟩:=Dn (L:=L) (k:=k+1) (by rw[← eL];omega) 91 g'
     have Zp:(k:Int)<(L.length:Int):=by rw[← eL];omega
     have Zq:=Ac (T:=74) (n:=L.length) (k:=238) q0 Zp WI (by decide) (by decide)
     simp only[Int.toNat_natCast] at Zq;subst eL;rcases JA with ⟨rfl,rfl⟩|⟨rfl,hg⟩
     · -- 66
      refine oW (st':=?_) ?_ ((ol (lF (mS S0 (ov aH (some LL))) { w with O:=some LL } bb).O).length) JF ?_
      rotate_left
      ·simp only[Z8,seval,hI,aY,q0,q1,q2,q3,q4,hw,wO,Int.toNat_natCast,iQ _ n1,rQ _ _ _ _ n1 n2,iI,iJ,oB,Option.isSome_some,Option.map_some,Option.some.injEq,hT,DM,DD,sU,oM,OV,OW,OX _ _,Is,OY _ _,It,Zp,Zq,bt pT,wA,pP,oL _ _ _ _ nR];rfl
      ·refine⟨S2,lF (mS S0 (ov aH (some LL))) { w with O:=some LL } bb,_,R++[bb.root],105,st.aP 105, ?_,.inr ⟨rfl,by simp only[E8,seval]<;>omega⟩,.inl rfl,Vb,Dt,OU.trans hC, ?_,rfl⟩
       ·rw[Nl];simp only[E8,seval,hI]<;>rfl
       ·exact JG
     · -- 105
      have uY:(g=st.aP 105)=False:=eq_false (by omega)
      refine oW (st':=?_) ?_ ((ol (lF (mS S0 (ov aH (some LL))) { w with O:=some LL } bb).O).length) JF ?_
      rotate_left
      ·simp only[Z8,seval,hI,aY,q0,q1,q2,q3,q4,hw,wO,Int.toNat_natCast,iQ _ n1,rQ _ _ _ _ n1 n2,iI,iJ,oB,Option.isSome_some,Option.map_some,Option.some.injEq,hT,DM,DD,sU,oM,OV,OW,OX _ _,Is,OY _ _,It,Zp,Zq,uY,bt pT,wA,pP,oL _ _ _ _ nR];rfl
      ·refine⟨S2,lF (mS S0 (ov aH (some LL))) { w with O:=some LL } bb,_,R++[bb.root],105,st.aP 105, ?_,.inr ⟨rfl,by simp only[E8,seval]<;>omega⟩,.inl rfl,Vb,Dt,OU.trans hC, ?_,rfl⟩
       ·rw[Nl];simp only[E8,seval,hI]<;>rfl
       ·exact JG
   · -- left out
    have JF:LL.length<m:=by omega
    have JG:R.length+LL.length≤1+(ol v.O).length:=by omega
    simp only[mS] at sU oM hI
    rcases hX with rfl|⟨g',L,hL,rfl,hg1,OV⟩
    · -- a list
     rcases JA with ⟨rfl,rfl⟩|⟨rfl,hg⟩
     · -- 66
      refine oW (st':=?_) ?_ (LL.length) JF ?_
      rotate_left
      ·simp only[Z8,seval,hI,aY,q0,q1,q2,q3,q4,hw,wO,Int.toNat_natCast,iQ _ n1,rQ _ _ _ _ n1 n2,iI,iJ,oB,Option.isSome_some,Option.map_some,Option.some.injEq,hT,DM,DD,sU,oM,e1,e2,bf pT];rfl
      ·refine⟨(mS S0 (ov aH (some LL))),{ w with O:=some LL },_,R,_,_, ?_,.inl ⟨rfl,rfl⟩,.inr ⟨st.aP 91,_,rfl,rfl,by simp only[E8,seval]<;>omega,by simp only[E8,seval]<;>rfl⟩,Qh,Ds,hC,JG,rfl⟩
       simp only[E8,seval,hI]<;>rfl
     · -- 105
      have uY:(g=st.aP 105)=False:=eq_false (by omega)
      refine oW (st':=?_) ?_ (LL.length) JF ?_
      rotate_left
      ·simp only[Z8,seval,hI,aY,q0,q1,q2,q3,q4,hw,wO,Int.toNat_natCast,iQ _ n1,rQ _ _ _ _ n1 n2,iI,iJ,oB,Option.isSome_some,Option.map_some,Option.some.injEq,hT,DM,DD,sU,oM,e1,e2,uY,bf pT];rfl
      ·refine⟨(mS S0 (ov aH (some LL))),{ w with O:=some LL },_,R,_,_, ?_,.inr ⟨rfl,by simp only[E8,seval]<;>omega⟩,.inr ⟨st.aP 91,_,rfl,rfl,by simp only[E8,seval]<;>omega,by simp only[E8,seval]<;>rfl⟩,Qh,Ds,hC,JG,rfl⟩
       simp only[E8,seval,hI]<;>rfl
    · -- a row of its own
     have eL:ol w.O=L:=by rw[hL];rfl
     have OW:(g'=st.aP 91)=False:=eq_false (by omega)
     obtain⟨X1,OX,Is⟩:=Sw (L:=L) (k:=k) (by rw[← eL];omega) 91 g'
     obtain⟨X2,OY,It⟩:=Dn (L:=L) (k:=k+1) (by rw[← eL];omega) 91 g'
     have Zp:(k:Int)<(L.length:Int):=by rw[← eL];omega
     have Zq:=Ac (T:=74) (n:=L.length) (k:=238) q0 Zp WI (by decide) (by decide)
     simp only[Int.toNat_natCast] at Zq;subst eL;rcases JA with ⟨rfl,rfl⟩|⟨rfl,hg⟩
     · -- 66
      refine oW (st':=?_) ?_ (LL.length) JF ?_
      rotate_left
      ·simp only[Z8,seval,hI,aY,q0,q1,q2,q3,q4,hw,wO,Int.toNat_natCast,iQ _ n1,rQ _ _ _ _ n1 n2,iI,iJ,oB,Option.isSome_some,Option.map_some,Option.some.injEq,hT,DM,DD,sU,oM,OV,OW,OX _ _,Is,OY _ _,It,Zp,Zq,bf pT];rfl
      ·refine⟨(mS S0 (ov aH (some LL))),{ w with O:=some LL },_,R,_,_, ?_,.inl ⟨rfl,rfl⟩,.inr ⟨st.aP 91,_,rfl,rfl,by simp only[E8,seval]<;>omega,by simp only[E8,seval]<;>rfl⟩,Qh,Ds,hC,JG,rfl⟩
       simp only[E8,seval,hI]<;>rfl
     · -- 105
      have uY:(g=st.aP 105)=False:=eq_false (by omega)
      refine oW (st':=?_) ?_ (LL.length) JF ?_
      rotate_left
      ·simp only[Z8,seval,hI,aY,q0,q1,q2,q3,q4,hw,wO,Int.toNat_natCast,iQ _ n1,rQ _ _ _ _ n1 n2,iI,iJ,oB,Option.isSome_some,Option.map_some,Option.some.injEq,hT,DM,DD,sU,oM,OV,OW,OX _ _,Is,OY _ _,It,Zp,Zq,uY,bf pT];rfl
      ·refine⟨(mS S0 (ov aH (some LL))),{ w with O:=some LL },_,R,_,_, ?_,.inr ⟨rfl,by simp only[E8,seval]<;>omega⟩,.inr ⟨st.aP 91,_,rfl,rfl,by simp only[E8,seval]<;>omega,by simp only[E8,seval]<;>rfl⟩,Qh,Ds,hC,JG,rfl⟩
       simp only[E8,seval,hI]<;>rfl
 obtain⟨r,h,hq⟩:=key
 cases hx:yS Tryz.prog Bv st with
 | none=>rw[hx] at h;cases h
 | some y=>rw[hx] at h;simp only[cK,Option.some.injEq] at h;subst h;exact⟨y.1,y.2,rfl,hq⟩
end Go.Ab.Tryz
