/-
  Part 14 of the proof: an evaluator of programs, its soundness, and what functions of this program compute.
-/
import Derived.Test.YtmcjkemalibacaaGreatK13
import Derived.Test.YtmcjkemalibacaaGreatK10
import Derived.Test.YtmcjkemalibacaaGreatK12
set_option linter.all false
set_option maxRecDepth 20000
set_option maxHeartbeats 40000000
namespace Go.Ab.Tryz
open Classical Go.Proofs Go.Ab
theorem aQ7 (n:Int):∃x,aB Tryz.prog 111 [.v (.int .i64 n)]=some x∧∃w:qN,x=.agg (gI w):=by
 obtain⟨j,hj⟩:∃j,(IntKind.i64.wrap ((BitVec.ofInt IntKind.i64.bits (((n).fdiv (2 ^ min 9 IntKind.i64.bits))) &&& BitVec.ofInt IntKind.i64.bits 3).toNat:Int))=j:=⟨_,rfl⟩
 have hb:=Ct ((n).fdiv (2 ^ min 9 IntKind.i64.bits)) 3 (by decide)
 rw[hj] at hb;have j0:=hb.1
 have j1:j<4:=by omega
 have j3:j.toNat<4:=by omega
 have j4:j.toNat≤3:=by omega
 have Mo:∀(w:qN) (x:Int),dQ (gI w) j.toNat [.v (.int .u64 x)] (j.toNat+1)=gI (w.set j.toNat x):=fun w x=>pJ w j.toNat _ x j3 rfl
 have fw:∀w:qN,Flat (.agg (gI w))=True:=fun w=>eq_true (.agg _ (iQ w))
 rw[cL Tryz.func111 rfl aMg rfl];by_cases c1:(IntKind.i64.wrap ((BitVec.ofInt IntKind.i64.bits (((n).fdiv (2 ^ min 7 IntKind.i64.bits))) &&& BitVec.ofInt IntKind.i64.bits 3).toNat:Int))=1
 ·simp only[Z8,seval,bt c1,pJ,Nat.reduceLT,Hb,hj,j0,j1,j4,Mo,Nat.mul_one,xQ];exact⟨_,fK rfl (by simp only[E8,seval,fw]<;>rfl) (by simp only[Z8,seval,fw]<;>rfl) (by simp only[dV,and_self,fw]),_,rfl⟩
 by_cases c2:(IntKind.i64.wrap ((BitVec.ofInt IntKind.i64.bits (((n).fdiv (2 ^ min 7 IntKind.i64.bits))) &&& BitVec.ofInt IntKind.i64.bits 3).toNat:Int))=2
 ·simp only[Z8,seval,bf c1,bt c2,pJ,Nat.reduceLT,Hb,hj,j0,j1,j4,Mo,Nat.mul_one,xQ];exact⟨_,fK rfl (by simp only[E8,seval,fw]<;>rfl) (by simp only[Z8,seval,fw]<;>rfl) (by simp only[dV,and_self,fw]),_,rfl⟩
 by_cases c3:(IntKind.i64.wrap ((BitVec.ofInt IntKind.i64.bits (((n).fdiv (2 ^ min 7 IntKind.i64.bits))) &&& BitVec.ofInt IntKind.i64.bits 3).toNat:Int))=3
 ·simp only[Z8,seval,bf c1,bf c2,bt c3,pJ,Nat.reduceLT,Hb,hj,j0,j1,j4,Mo,Nat.mul_one,xQ];exact⟨_,fK rfl (by simp only[E8,seval,fw]<;>rfl) (by simp only[Z8,seval,fw]<;>rfl) (by simp only[dV,and_self,fw]),_,rfl⟩
 simp only[Z8,seval,bf c1,bf c2,bf c3,pJ,Nat.reduceLT,Hb,hj,j0,j1,j4,Mo,Nat.mul_one,xQ];exact⟨_,fK rfl (by simp only[E8,seval,fw]<;>rfl) (by simp only[Z8,seval,fw]<;>rfl) (by simp only[dV,and_self,fw]),_,rfl⟩
theorem aQ8 (n k:Int) (h0:0<n) (h1:n≤1000):∃r,aB Tryz.prog 182 [.v (.int .i64 n),.v (.int .i64 k)]=some r∧∃x:fW,r=.agg (cC x)∧wU x.first∧wU x.second∧Rg x.first.source∧Rg x.first.target∧Rg x.second.source∧Rg x.second.target:=by
 obtain⟨l,kl,hl⟩:=k45 n k h0 h1
 obtain⟨m,km,hm⟩:=k45 n ((k).fdiv (2 ^ min 6 IntKind.i64.bits)) h0 h1
 have cl:wU ⟨1,5,mkRoot 2,ov aK (some l)⟩:=⟨some l,rfl,by show (l.length:Int)≤1000;omega⟩
 have rg:∀x:Int,0≤x∧x≤6→Rg x:=fun x h=>⟨by omega,by omega⟩
 have okl:∀a b r,wU ⟨a,b,r,ov aK (some l)⟩:=fun a b r=>⟨some l,rfl,by show (l.length:Int)≤1000;omega⟩
 have okm:∀a b r,wU ⟨a,b,r,ov aK (some m)⟩:=fun a b r=>⟨some m,rfl,by show (m.length:Int)≤1000;omega⟩
 rw[cL Tryz.func182 rfl aMi rfl];by_cases c0:((((k).fdiv (2 ^ min 12 IntKind.i64.bits))).tmod 8)=0
 ·simp only[Z8,seval,kl,km,Qg,bt c0];exact⟨_,by apply eG;rfl;all_goals simp only[aH,Z8,seval,bQ,rO,vS,bP,cV,jX,dV]<;>rfl,_,rfl,okm _ _ _,okl _ _ _,rg _ (by dsimp only;omega),rg _ (by dsimp only;omega),rg _ (by dsimp only;omega),rg _ (by dsimp only;omega)⟩
 by_cases c1:((((k).fdiv (2 ^ min 12 IntKind.i64.bits))).tmod 8)=1
 ·simp only[Z8,seval,kl,km,Qg,bf c0,bt c1];exact⟨_,by apply eG;rfl;all_goals simp only[aH,Z8,seval,bQ,rO,vS,bP,cV,jX,dV]<;>rfl,_,rfl,okl _ _ _,okm _ _ _,rg _ (by dsimp only;omega),rg _ (by dsimp only;omega),rg _ (by dsimp only;omega),rg _ (by dsimp only;omega)⟩
 by_cases c2:((((k).fdiv (2 ^ min 12 IntKind.i64.bits))).tmod 8)=2
 ·simp only[Z8,seval,kl,km,Qg,bf c0,bf c1,bt c2];exact⟨_,by apply eG;rfl;all_goals simp only[aH,Z8,seval,bQ,rO,vS,bP,cV,jX,dV]<;>rfl,_,rfl,okl _ _ _,okl _ _ _,rg _ (by dsimp only;omega),rg _ (by dsimp only;omega),rg _ (by dsimp only;omega),rg _ (by dsimp only;omega)⟩
 by_cases c3:((((k).fdiv (2 ^ min 12 IntKind.i64.bits))).tmod 8)=3
 ·simp only[Z8,seval,kl,km,Qg,bf c0,bf c1,bf c2,bt c3];exact⟨_,by apply eG;rfl;all_goals simp only[aH,Z8,seval,bQ,rO,vS,bP,cV,jX,dV]<;>rfl,_,rfl,okl _ _ _,okm _ _ _,rg _ (by dsimp only;omega),rg _ (by dsimp only;omega),rg _ (by dsimp only;omega),rg _ (by dsimp only;omega)⟩
 by_cases c4:((((k).fdiv (2 ^ min 12 IntKind.i64.bits))).tmod 8)=4
 ·simp only[Z8,seval,kl,km,Qg,bf c0,bf c1,bf c2,bf c3,bt c4];exact⟨_,by apply eG;rfl;all_goals simp only[aH,Z8,seval,bQ,rO,vS,bP,cV,jX,dV]<;>rfl,_,rfl,okl _ _ _,okm _ _ _,rg _ (by dsimp only;omega),rg _ (by dsimp only;omega),rg _ (by dsimp only;omega),rg _ (by dsimp only;omega)⟩
 simp only[Z8,seval,kl,km,Qg,bf c0,bf c1,bf c2,bf c3,bf c4];exact⟨_,by apply eG;rfl;all_goals simp only[aH,Z8,seval,bQ,rO,vS,bP,cV,jX,dV]<;>rfl,_,rfl,okl _ _ _,okm _ _ _,rg _ (by dsimp only;omega),rg _ (by dsimp only;omega),rg _ (by dsimp only;omega),rg _ (by dsimp only;omega)⟩
theorem aQ9 {s:aL} {v:SV} {q:Int} (h:GI s v q) (r:RG s v) (hB:0<(ol v.B).length∧(ol v.B).length≤64) (k:Int) (hk:0≤k):∃x,aB Tryz.prog 183 [.agg (aA s),.v (.int .i64 k)]=some x∧∃(t:Table) (b:List Int),x=.agg (cA t)∧t.iP=ov bJ (some b)∧(b.length:Int)≤1000∧(∀y∈b,Rg y)∧Rg t.ck.aG:=by
 have hn:=h.sd.nn
 have hp:(0:Int)<(v.ns.length:Int):=by have:=h.pos;omega
 have gR:¬((v.ns.length:Int)=0):=by omega
 obtain⟨m1,m2⟩:=cP (n:=(v.ns.length:Int)) hk hp
 obtain⟨i,hi⟩:∃i,k.tmod (v.ns.length:Int)=i:=⟨_,rfl⟩
 rw[hi] at m1 m2;have Mq:=h.sp
 obtain⟨y,hy,c2,rfl,rc2⟩:=x92 h r i (xM s s.now) (iK _)
 unfold xM at hy;have Qx:=kx hy (mD h.sd.flat (.v _) (.v _)) (.agg _ (bM _))
 have rc1:Rg (nd v.ns i).block.dW.pj.aG:=(r.nd _ (Qt m1 m2)).1.pj
 rw[cL Tryz.func183 rfl aMj rfl];by_cases c0:((((k).fdiv (2 ^ min 5 IntKind.i64.bits))).tmod 4)=0
 case neg =>
  simp only[Z8,seval,h.sd.tree,gR,hi,m1,m2,bf c0];refine cF (fun m st=>∃(j:Nat) (X:AV) (L:List Int),(st.env 1=.v (.int .i64 k)∧st.env 2=.ptr 2 0 0∧st.heap 2 0=some (.cells (aA s))∧st.env 4=.ptr 4 0 0∧st.heap 4 0=some (.cells (cA dX))∧st.env 6=.ptr 6 0 0∧st.heap 6 0=some (.cells (cA ⟨(nd v.ns i).block.dW.pj,X⟩))∧st.env 7=.v (.int .i64 j))∧((X=.v (.slice none 0 0)∧L=[])∨∃g,X=.own 55 g∧g<st.aQ 55∧st.heap 55 g=some (.row 23 1 L.length (bJ L)))∧(∀y∈L,Rg y)∧L.length=j∧j≤(ol v.B).length∧m=(ol v.B).length-j)
   (fun e st=>e=.exit 0∧∃(g:Nat) (L:List Int),(st.env 1=.v (.int .i64 k)∧st.env 2=.ptr 2 0 0∧st.heap 2 0=some (.cells (aA s))∧st.env 4=.ptr 4 0 0∧st.heap 4 0=some (.cells (cA dX))∧st.env 6=.ptr 6 0 0∧st.heap 6 0=some (.cells (cA ⟨(nd v.ns i).block.dW.pj,.own 55 g⟩))∧st.heap 55 g=some (.row 23 1 L.length (bJ L)))∧(∀y∈L,Rg y)∧L.length=(ol v.B).length) (ol v.B).length ?step ?start ?rest
  case step =>
   rintro m st ⟨j,X,L,hI,hX,hL,hj,hjB,hm⟩
   by_cases bA:(j:Int)<(ol v.B).length
   ·have q0:(0:Int)≤j:=by omega
    have hw:IntKind.i64.wrap ((j:Int)+1)=((j+1:Nat):Int):=by rw[mZ _ (by omega) (by omega)];omega
    have nL:(L.length:Int)<1000000:=by omega
    obtain⟨y,hy9⟩:∃y,IntKind.u64.wrap ((k.fdiv (2 ^ min (IntKind.u64.wrap (j:Int)).toNat IntKind.i64.bits)).tmod 50)=y:=⟨_,rfl⟩
    have ry:Rg y:=by rw[← hy9];exact iK _
    have Sx:∀z∈L++[y],Rg z:=fun z hz=>(List.mem_append.1 hz).elim (hL z) fun e=>by rw[List.mem_singleton] at e;rw[e];exact ry
    have yC:(L++[y]).length=j+1:=by rw[List.length_append,List.length_cons,List.length_nil];omega
    rcases hX with ⟨rfl,rfl⟩|⟨g,rfl,hg,hh⟩
    ·apply oN ((ol v.B).length-(j+1))
     ·simp only[Z8,seval,hI,bA,q0,h.sd.iP,xQ,hy9,hw];rfl
     ·exact⟨j+1,_,[]++[y],⟨by simp only[E8,seval,hI],by simp only[E8,seval,hI],by simp only[E8,seval,hI],by simp only[E8,seval,hI],by simp only[E8,seval,hI],by simp only[E8,seval,hI],by simp only[E8,seval,hI]<;>rfl,by simp only[E8,seval]⟩,.inr ⟨_,rfl,by simp only[E8,seval]<;>omega,by simp only[E8,seval]<;>rfl⟩,Sx,yC,by omega,rfl⟩
    ·have uV:(g=st.aQ 55)=False:=eq_false (by omega)
     apply oN ((ol v.B).length-(j+1))
     ·simp only[Z8,seval,hI,hh,uV,bA,q0,h.sd.iP,xQ,hy9,hw,wF _ _ _ _ nL];rfl
     ·exact⟨j+1,_,L++[y],⟨by simp only[E8,seval,hI],by simp only[E8,seval,hI],by simp only[E8,seval,hI],by simp only[E8,seval,hI],by simp only[E8,seval,hI],by simp only[E8,seval,hI],by simp only[E8,seval,hI]<;>rfl,by simp only[E8,seval]⟩,.inr ⟨_,rfl,by simp only[E8,seval]<;>omega,by simp only[E8,seval]<;>rfl⟩,Sx,yC,by omega,rfl⟩
   ·rcases hX with ⟨rfl,rfl⟩|⟨g,rfl,hg,hh⟩
    ·simp at hj;omega
    ·apply oT (.exit 0)
     ·simp only[Z8,seval,hI,bA,h.sd.iP];rfl
     ·exact⟨rfl,g,L,by simp only[E8,seval,hI,hh],hL,by omega⟩
  case start=>exact⟨0,_,[],by and_intros<;>(simp only[E8,seval]<;>rfl),.inl ⟨rfl,rfl⟩,by simp,rfl,by omega,by omega⟩
  case rest =>
   rintro e st ⟨rfl,g,L,hI,hL,hlL⟩
   have nL:(L.length:Int)<1000000:=by omega
   by_cases d0:((((k).fdiv (2 ^ min 12 IntKind.i64.bits))).tmod 16)=0
   ·have Sx:∀z∈L++[(1:Int)],Rg z:=fun z hz=>(List.mem_append.1 hz).elim (hL z) fun e=>by rw[List.mem_singleton] at e;rw[e];exact⟨by omega,by omega⟩
    simp only[Z8,seval,hI,bt d0,wF _ _ _ _ nL];exact⟨_,by apply eG;rfl;all_goals simp only[aH,Z8,seval,hI,bQ,tH,bP,uH,dV]<;>rfl,⟨(nd v.ns i).block.dW.pj,_⟩,L++[1],rfl,rfl,by rw[List.length_append,List.length_cons,List.length_nil];omega,Sx,rc1⟩
   by_cases d1:((((k).fdiv (2 ^ min 12 IntKind.i64.bits))).tmod 16)=1
   ·have z0:(0:Int)≤0:=by omega
    have z1:(0:Int)<(L.length:Int):=by omega
    have z2:0<L.length:=by omega
    have z3:1≤L.length:=z2
    have Sx:∀z∈L.set 0 4611686018427387904,Rg z:=fun z hz=>(List.mem_or_eq_of_mem_set hz).elim (hL z) fun e=>by rw[e];exact⟨by omega,by omega⟩
    have yB:dQ (bJ L) 0 [.v (.int .u64 4611686018427387904)] 1=bJ (L.set 0 4611686018427387904):=by
     cases L with
     | nil=>simp at z2
     | cons a L=>simp[dQ,bJ,lI]
    simp only[Z8,seval,hI,bf d0,bt d1,z0,z1,z3,yB,Int.toNat_zero,Nat.zero_mul];exact⟨_,by apply eG;rfl;all_goals simp only[aH,Z8,seval,hI,bQ,tH,bP,uH,dV]<;>rfl,⟨(nd v.ns i).block.dW.pj,_⟩,L.set 0 4611686018427387904,rfl,by simp only[ov,List.length_set],by rw[List.length_set];omega,Sx,rc1⟩
   simp only[Z8,seval,hI,bf d0,bf d1];exact⟨_,by apply eG;rfl;all_goals simp only[aH,Z8,seval,hI,bQ,tH,bP,uH,dV]<;>rfl,⟨(nd v.ns i).block.dW.pj,_⟩,L,rfl,rfl,by omega,hL,rc1⟩
 simp only[Z8,seval,h.sd.tree,gR,hi,m1,m2,bt c0,Mq,Qx];refine cF (fun m st=>∃(j:Nat) (X:AV) (L:List Int),(st.env 1=.v (.int .i64 k)∧st.env 2=.ptr 2 0 0∧st.heap 2 0=some (.cells (aA s))∧st.env 4=.ptr 4 0 0∧st.heap 4 0=some (.cells (cA dX))∧st.env 6=.ptr 6 0 0∧st.heap 6 0=some (.cells (cA ⟨c2,X⟩))∧st.env 7=.v (.int .i64 j))∧((X=.v (.slice none 0 0)∧L=[])∨∃g,X=.own 55 g∧g<st.aQ 55∧st.heap 55 g=some (.row 23 1 L.length (bJ L)))∧(∀y∈L,Rg y)∧L.length=j∧j≤(ol v.B).length∧m=(ol v.B).length-j)
  (fun e st=>e=.exit 0∧∃(g:Nat) (L:List Int),(st.env 1=.v (.int .i64 k)∧st.env 2=.ptr 2 0 0∧st.heap 2 0=some (.cells (aA s))∧st.env 4=.ptr 4 0 0∧st.heap 4 0=some (.cells (cA dX))∧st.env 6=.ptr 6 0 0∧st.heap 6 0=some (.cells (cA ⟨c2,.own 55 g⟩))∧st.heap 55 g=some (.row 23 1 L.length (bJ L)))∧(∀y∈L,Rg y)∧L.length=(ol v.B).length) (ol v.B).length ?step ?start ?rest
 case step =>
  rintro m st ⟨j,X,L,hI,hX,hL,hj,hjB,hm⟩
  by_cases bA:(j:Int)<(ol v.B).length
  ·have q0:(0:Int)≤j:=by omega
   have hw:IntKind.i64.wrap ((j:Int)+1)=((j+1:Nat):Int):=by rw[mZ _ (by omega) (by omega)];omega
   have nL:(L.length:Int)<1000000:=by omega
   obtain⟨y,hy9⟩:∃y,IntKind.u64.wrap ((k.fdiv (2 ^ min (IntKind.u64.wrap (j:Int)).toNat IntKind.i64.bits)).tmod 50)=y:=⟨_,rfl⟩
   have ry:Rg y:=by rw[← hy9];exact iK _
   have Sx:∀z∈L++[y],Rg z:=fun z hz=>(List.mem_append.1 hz).elim (hL z) fun e=>by rw[List.mem_singleton] at e;rw[e];exact ry
   have yC:(L++[y]).length=j+1:=by rw[List.length_append,List.length_cons,List.length_nil];omega
   rcases hX with ⟨rfl,rfl⟩|⟨g,rfl,hg,hh⟩
   ·apply oN ((ol v.B).length-(j+1))
    ·simp only[Z8,seval,hI,bA,q0,h.sd.iP,xQ,hy9,hw];rfl
    ·exact⟨j+1,_,[]++[y],⟨by simp only[E8,seval,hI],by simp only[E8,seval,hI],by simp only[E8,seval,hI],by simp only[E8,seval,hI],by simp only[E8,seval,hI],by simp only[E8,seval,hI],by simp only[E8,seval,hI]<;>rfl,by simp only[E8,seval]⟩,.inr ⟨_,rfl,by simp only[E8,seval]<;>omega,by simp only[E8,seval]<;>rfl⟩,Sx,yC,by omega,rfl⟩
   ·have uV:(g=st.aQ 55)=False:=eq_false (by omega)
    apply oN ((ol v.B).length-(j+1))
    ·simp only[Z8,seval,hI,hh,uV,bA,q0,h.sd.iP,xQ,hy9,hw,wF _ _ _ _ nL];rfl
    ·exact⟨j+1,_,L++[y],⟨by simp only[E8,seval,hI],by simp only[E8,seval,hI],by simp only[E8,seval,hI],by simp only[E8,seval,hI],by simp only[E8,seval,hI],by simp only[E8,seval,hI],by simp only[E8,seval,hI]<;>rfl,by simp only[E8,seval]⟩,.inr ⟨_,rfl,by simp only[E8,seval]<;>omega,by simp only[E8,seval]<;>rfl⟩,Sx,yC,by omega,rfl⟩
  ·rcases hX with ⟨rfl,rfl⟩|⟨g,rfl,hg,hh⟩
   ·simp at hj;omega
   ·apply oT (.exit 0)
    ·simp only[Z8,seval,hI,bA,h.sd.iP];rfl
    ·exact⟨rfl,g,L,by simp only[E8,seval,hI,hh],hL,by omega⟩
 case start=>exact⟨0,_,[],by and_intros<;>(simp only[E8,seval]<;>rfl),.inl ⟨rfl,rfl⟩,by simp,rfl,by omega,by omega⟩
 case rest =>
  rintro e st ⟨rfl,g,L,hI,hL,hlL⟩
  have nL:(L.length:Int)<1000000:=by omega
  by_cases d0:((((k).fdiv (2 ^ min 12 IntKind.i64.bits))).tmod 16)=0
  ·have Sx:∀z∈L++[(1:Int)],Rg z:=fun z hz=>(List.mem_append.1 hz).elim (hL z) fun e=>by rw[List.mem_singleton] at e;rw[e];exact⟨by omega,by omega⟩
   simp only[Z8,seval,hI,bt d0,wF _ _ _ _ nL];exact⟨_,by apply eG;rfl;all_goals simp only[aH,Z8,seval,hI,bQ,tH,bP,uH,dV]<;>rfl,⟨c2,_⟩,L++[1],rfl,rfl,by rw[List.length_append,List.length_cons,List.length_nil];omega,Sx,rc2⟩
  by_cases d1:((((k).fdiv (2 ^ min 12 IntKind.i64.bits))).tmod 16)=1
  ·have z0:(0:Int)≤0:=by omega
   have z1:(0:Int)<(L.length:Int):=by omega
   have z2:0<L.length:=by omega
   have z3:1≤L.length:=z2
   have Sx:∀z∈L.set 0 4611686018427387904,Rg z:=fun z hz=>(List.mem_or_eq_of_mem_set hz).elim (hL z) fun e=>by rw[e];exact⟨by omega,by omega⟩
   have yB:dQ (bJ L) 0 [.v (.int .u64 4611686018427387904)] 1=bJ (L.set 0 4611686018427387904):=by
    cases L with
    | nil=>simp at z2
    | cons a L=>simp[dQ,bJ,lI]
   simp only[Z8,seval,hI,bf d0,bt d1,z0,z1,z3,yB,Int.toNat_zero,Nat.zero_mul];exact⟨_,by apply eG;rfl;all_goals simp only[aH,Z8,seval,hI,bQ,tH,bP,uH,dV]<;>rfl,⟨c2,_⟩,L.set 0 4611686018427387904,rfl,by simp only[ov,List.length_set],by rw[List.length_set];omega,Sx,rc2⟩
  simp only[Z8,seval,hI,bf d0,bf d1];exact⟨_,by apply eG;rfl;all_goals simp only[aH,Z8,seval,hI,bQ,tH,bP,uH,dV]<;>rfl,⟨c2,_⟩,L,rfl,rfl,by omega,hL,rc2⟩
structure TD (t:State) (v:SV) (Q R:Option (List Request)):Prop where
 sd:SD t.store v
 Gm:t.iY=ov aE Q
 ret:t.rI=ov aE R
 nQ:((ol Q).length:Int)<900000
 nR:((ol R).length:Int)<900000
theorem TD.fl {t:State} {v:SV} {Q R:Option (List Request)} (h:TD t v Q R):Flat t.store.cFg.iP∧Flat t.store.gH.eA∧Flat t.store.gH.gW∧Flat t.store.cD.early∧Flat t.store.cD.bK∧Flat t.store.tree.nodes∧Flat t.store.tables∧Flat t.iY∧Flat t.rI:=by
 obtain⟨h1,h2,h3,h4,h5,h6,h7⟩:=h.sd.fl
 exact⟨h1,h2,h3,h4,h5,h6,h7,by rw[h.Gm];exact iZ Q,by rw[h.ret];exact iZ R⟩
theorem TD.flat {t:State} {v:SV} {Q R:Option (List Request)} (h:TD t v Q R):Flat (.agg (aP t)):=(tZ t).2 h.fl
def zQ (ns:List Node) (r:cJ):Prop:=0≤aM ns r∧(nd ns (aM ns r)).status=0
theorem c85 {t:State} {v:SV} {Q R:Option (List Request)} (h:TD t v Q R) (r:cJ):aB Tryz.prog 85 [.agg (aP t),.agg (bD r)]=some (.v (.bool (decide (zQ v.ns r)))):=by
 have hr:=eZ v.ns r
 rw[cL Tryz.func85 rfl aRd rfl];refine iN ?_
 by_cases g1:0≤aM v.ns r
 ·by_cases g2:(nd v.ns (aM v.ns r)).status=0
  ·simp only[Z8,seval,h.sd.tree,mQ _ _ h.sd.nn,g1,hr.2,bt g2];exact⟨_,bX rfl (by simp only[E8,seval]<;>rfl) (by first|exact .v _|simp only[dV]),by simp[zQ,g1,g2]⟩
  ·simp only[Z8,seval,h.sd.tree,mQ _ _ h.sd.nn,g1,hr.2,bf g2];exact⟨_,bX rfl (by simp only[E8,seval]<;>rfl) (by first|exact .v _|simp only[dV]),by simp[zQ,g1,g2]⟩
 ·simp only[Z8,seval,h.sd.tree,mQ _ _ h.sd.nn,g1];exact⟨_,bX rfl (by simp only[E8,seval]<;>rfl) (by first|exact .v _|simp only[dV]),by simp[zQ,g1]⟩
theorem k85 {t:State} {v:SV} {Q R:Option (List Request)} (h:TD t v Q R) (r:cJ) (st:St) (d:Option Nat):aN (aB Tryz.prog) 85 [.agg (aP t),.agg (bD r)] st d=some { dst:=d,val:=.v (.bool (decide (zQ v.ns r)))}:=kx (c85 h r) (bE h.flat (qR r)) (.v _) st d
def aGC (t:State) (L:List Request) (r:cJ) (n:Int):State:={ t with iY:=ov aE (some (L++[⟨⟨t.cZ⟩,r,n,0⟩])),cZ:=IntKind.u64.wrap (t.cZ+1)}
theorem c86 {t:State} {v:SV} {Q R:Option (List Request)} (h:TD t v Q R) (r:cJ) (n:Int):aB Tryz.prog 86 [.agg (aP t),.agg (bD r),.v (.int .i64 n)]=some (.agg (aP (aGC t (ol Q) r n))):=by
 have pH:=h.fl
 have nq:((ol Q).length:Int)<1000000:=by have:=h.nQ;omega
 rw[cL Tryz.func86 rfl aRe rfl];refine iN ?_
 simp only[Z8,seval,h.Gm,rA _ nq,tK _ _ _ _ nq];exact⟨_,by apply eG;rfl;all_goals simp only[aH,Z8,seval,pH,bQ,vT,gG,bP,cV,pK,dV]<;>rfl,rfl⟩
noncomputable def pL (ns:List Node) (l:List Request):List Request:=l.filter fun r=>decide (0≤aM ns r.block)
theorem c91 {t:State} {v:SV} {Q R:Option (List Request)} (h:TD t v Q R) (o:Option (List Request)) (hn:((ol o).length:Int)<1000000):aB Tryz.prog 91 [.agg (aP t),ov aE o]=some (Nn 63 35 aE (pL v.ns (ol o))):=by
 rw[cL Tryz.func91 rfl aRf (by cases o<;>rfl)]
 refine iN ?_
 simp only[Z8,seval];refine cF (fun m st=>∃k:Nat,(st.env 2=.ptr 2 0 0∧st.heap 2 0=some (.cells (aP t))∧st.env 1=ov aE o∧st.env 6=.v (.int .i64 k))∧(((((ol o).take k).filter (fun r=>decide (0≤aM v.ns r.block)))=[]∧st.env 5=.v (.slice none 0 0))∨((((ol o).take k).filter (fun r=>decide (0≤aM v.ns r.block)))≠[]∧∃g,st.env 5=.own 29 g∧g<st.aQ 29∧st.heap 29 g=some (.row 63 35 (((ol o).take k).filter (fun r=>decide (0≤aM v.ns r.block))).length (aE (((ol o).take k).filter (fun r=>decide (0≤aM v.ns r.block)))))))∧k≤(ol o).length∧m=(ol o).length-k)
  (fun e st=>e=.exit 0∧(((((ol o).take (ol o).length).filter (fun r=>decide (0≤aM v.ns r.block)))=[]∧st.env 5=.v (.slice none 0 0))∨((((ol o).take (ol o).length).filter (fun r=>decide (0≤aM v.ns r.block)))≠[]∧∃g,st.env 5=.own 29 g∧g<st.aQ 29∧st.heap 29 g=some (.row 63 35 (((ol o).take (ol o).length).filter (fun r=>decide (0≤aM v.ns r.block))).length (aE (((ol o).take (ol o).length).filter (fun r=>decide (0≤aM v.ns r.block)))))))∧st.env 2=.ptr 2 0 0∧st.heap 2 0=some (.cells (aP t))∧st.env 1=ov aE o) ((ol o).length) ?step ?start ?rest
 case step =>
  rintro m st ⟨k,hI,h5,hk,hm⟩
  have Gk:(((((ol o).take k).filter (fun r=>decide (0≤aM v.ns r.block))).length:Nat):Int)<1000000:=by have:=List.length_filter_le (fun r=>decide (0≤aM v.ns r.block)) ((ol o).take k);have h2:=List.length_take_le' k (ol o);omega
  by_cases bA:(k:Int)<(ol o).length
  ·have q0:(0:Int)≤k:=by omega
   have hw:IntKind.i64.wrap ((k:Int)+1)=((k+1:Nat):Int):=by rw[mZ _ (by omega) (by omega)];omega
   have hs:=yP cX (fun r=>decide (0≤aM v.ns r.block)) (ol o) k (by omega)
   by_cases hh:0≤aM v.ns (gx cX (ol o) (k:Int)).block
   ·rw[if_pos (decide_eq_true hh)] at hs;rcases h5 with ⟨hy,h5⟩|⟨hy,g,h5⟩
    ·rw[hy] at hs;apply oN ((ol o).length-(k+1))
     ·simp only[Z8,seval,hI,h5,bA,hw,q0,h.sd.tree,mQ _ _ h.sd.nn,hh];rfl
     ·exact⟨k+1,by simp only[E8,seval,hI],.inr ⟨by rw[hs];simp,_,by simp only[E8,seval]<;>rfl,(by simp only[E8,seval]<;>omega),(by rw[hs];simp only[E8,seval]<;>rfl)⟩,by omega,rfl⟩
    ·apply oN ((ol o).length-(k+1))
     ·simp only[Z8,seval,hI,h5,Gk,bA,hw,q0,h.sd.tree,mQ _ _ h.sd.nn,hh];rfl
     ·exact⟨k+1,by simp only[E8,seval,hI],.inr ⟨by rw[hs];simp,_,by simp only[E8,seval]<;>rfl,(by simp only[E8,seval]<;>omega),(by rw[hs];simp only[E8,seval]<;>rfl)⟩,by omega,rfl⟩
   ·rw[if_neg (by simpa using hh),List.append_nil] at hs
    apply oN ((ol o).length-(k+1))
    ·simp only[Z8,seval,hI,bA,hw,q0,h.sd.tree,mQ _ _ h.sd.nn,hh];rfl
    ·exact⟨k+1,by simp only[E8,seval,hI],by rw[hs];simpa only[E8,seval] using h5,by omega,rfl⟩
  ·have Az:k=(ol o).length:=by omega
   rw[Az] at h5;apply oT (.exit 0)
   ·simp only[Z8,seval,hI,bA];rfl
   ·exact⟨rfl,by simpa only[E8,seval] using h5,by simp only[E8,seval,hI]⟩
 case start=>exact⟨0,by simp only[E8,seval]<;>rfl,.inl ⟨rfl,by simp only[E8,seval]⟩,by omega,by omega⟩
 case rest =>
  rintro e st ⟨rfl,⟨hy,h5⟩|⟨hy,g,h5,hg,Ak⟩,hI⟩
  ·rw[List.take_length] at hy;rw[show Nn 63 35 aE (pL v.ns (ol o))=.v (.slice none 0 0) from if_pos hy];simp only[Z8,seval,h5];exact⟨_,bX rfl (by simp only[E8,seval,h5]<;>rfl) (by first|exact .v _|simp only[dV,h5]),rfl⟩
  ·rw[List.take_length] at hy Ak;rw[show Nn 63 35 aE (pL v.ns (ol o))=.uniq 63 35 (pL v.ns (ol o)).length (aE (pL v.ns (ol o))) from if_neg hy];simp only[Z8,seval,h5];exact⟨_,tO rfl (by simp only[E8,seval,h5]<;>rfl) (by simp only[E8,seval,Ak]<;>rfl) (uD _),rfl⟩
noncomputable def US (t:State) (v:SV) (Q R:Option (List Request)):State:={ t with iY:=ov aE (nz (pL v.ns (ol Q))),rI:=ov aE (nz (pL v.ns (ol R)))}
theorem c36 {t:State} {v:SV} {Q R:Option (List Request)} (h:TD t v Q R):aB Tryz.prog 36 [.agg (aP t)]=some (.agg (aP (US t v Q R))):=by
 have pH:=h.fl
 have hf:=h.flat
 have cQ:=c91 h Q (by have:=h.nQ;omega)
 have cR:=c91 h R (by have:=h.nR;omega)
 rw[cL Tryz.func36 rfl aRg rfl];refine iN ?_
 by_cases e1:pL v.ns (ol Q)=[]
 ·rw[show Nn 63 35 aE (pL v.ns (ol Q))=.v (.slice none 0 0) from if_pos e1] at cQ;have z1:nz (pL v.ns (ol Q))=none:=if_pos e1
  have kQ:=kx cQ (bE hf (iZ Q)) (.v _)
  by_cases e2:pL v.ns (ol R)=[]
  ·rw[show Nn 63 35 aE (pL v.ns (ol R))=.v (.slice none 0 0) from if_pos e2] at cR;have z2:nz (pL v.ns (ol R))=none:=if_pos e2
   have kR:=kx cR (bE hf (iZ R)) (.v _)
   simp only[Z8,seval,h.Gm,h.ret,kQ,kR];exact⟨_,fK rfl (by simp only[E8,seval,pH]<;>rfl) (by simp only[Z8,seval,pH]<;>rfl) (by simp only[dV,and_self,pH]),by unfold US;rw[z1,z2];rfl⟩
  ·rw[show Nn 63 35 aE (pL v.ns (ol R))=.uniq 63 35 (pL v.ns (ol R)).length (aE (pL v.ns (ol R))) from if_neg e2] at cR;have z2:nz (pL v.ns (ol R))=some (pL v.ns (ol R)):=if_neg e2
   have kR:∀(st:St) (d:Nat),aN (aB Tryz.prog) 91 [.agg (aP t),ov aE R] st (some d)=_:=fun st d=>jF (st:=st) (d:=d) (bE hf (iZ R)) cR
   simp only[Z8,seval,h.Gm,h.ret,kQ,kR];exact⟨_,by apply eG;rfl;all_goals simp only[aH,Z8,seval,pH,bQ,vT,gG,bP,cV,pK,dV]<;>rfl,by unfold US;rw[z1,z2];rfl⟩
 ·rw[show Nn 63 35 aE (pL v.ns (ol Q))=.uniq 63 35 (pL v.ns (ol Q)).length (aE (pL v.ns (ol Q))) from if_neg e1] at cQ;have z1:nz (pL v.ns (ol Q))=some (pL v.ns (ol Q)):=if_neg e1
  have kQ:∀(st:St) (d:Nat),aN (aB Tryz.prog) 91 [.agg (aP t),ov aE Q] st (some d)=_:=fun st d=>jF (st:=st) (d:=d) (bE hf (iZ Q)) cQ
  by_cases e2:pL v.ns (ol R)=[]
  ·rw[show Nn 63 35 aE (pL v.ns (ol R))=.v (.slice none 0 0) from if_pos e2] at cR;have z2:nz (pL v.ns (ol R))=none:=if_pos e2
   have kR:=kx cR (bE hf (iZ R)) (.v _)
   simp only[Z8,seval,h.Gm,h.ret,kQ,kR];exact⟨_,by apply eG;rfl;all_goals simp only[aH,Z8,seval,pH,bQ,vT,gG,bP,cV,pK,dV]<;>rfl,by unfold US;rw[z1,z2];rfl⟩
  ·rw[show Nn 63 35 aE (pL v.ns (ol R))=.uniq 63 35 (pL v.ns (ol R)).length (aE (pL v.ns (ol R))) from if_neg e2] at cR;have z2:nz (pL v.ns (ol R))=some (pL v.ns (ol R)):=if_neg e2
   have kR:∀(st:St) (d:Nat),aN (aB Tryz.prog) 91 [.agg (aP t),ov aE R] st (some d)=_:=fun st d=>jF (st:=st) (d:=d) (bE hf (iZ R)) cR
   simp only[Z8,seval,h.Gm,h.ret,kQ,kR];exact⟨_,by apply eG;rfl;all_goals simp only[aH,Z8,seval,pH,bQ,vT,gG,bP,cV,pK,dV]<;>rfl,by unfold US;rw[z1,z2];rfl⟩
theorem TD.drp {t:State} {v:SV} {Q R:Option (List Request)} (h:TD t v Q R):TD (US t v Q R) v (nz (pL v.ns (ol Q))) (nz (pL v.ns (ol R))):=by
 have h1:=List.length_filter_le (fun r:Request=>decide (0≤aM v.ns r.block)) (ol Q)
 have h2:=List.length_filter_le (fun r:Request=>decide (0≤aM v.ns r.block)) (ol R)
 refine⟨h.sd,rfl,rfl, ?_, ?_⟩
 ·rw[nA];have:=h.nQ;unfold pL;omega
 ·rw[nA];have:=h.nR;unfold pL;omega
noncomputable def ZP (ns:List Node) (p:Option (List Request) × Int) (r:cJ):Option (List Request) × Int:=if zQ ns r then (some (ol p.1++[⟨⟨p.2⟩,r,0,0⟩]),IntKind.u64.wrap (p.2+1)) else p
noncomputable def Mr (ns:List Node) (p:Option (List Request) × Int) (l:List cJ):Option (List Request) × Int:=l.foldl (ZP ns) p
theorem S8 (ns:List Node) (a:Option (List Request) × Int) (l:List cJ) (k:Nat) (h:k<l.length):Mr ns a (l.take (k+1))=ZP ns (Mr ns a (l.take k)) (gx dR l k):=by
 unfold Mr;rw[List.take_succ_eq_append_getElem h,List.foldl_append];simp[gx,h]
def UT (t:State) (p:Option (List Request) × Int):State:={ t with iY:=ov aE p.1,cZ:=p.2 }
theorem TD.UT {t:State} {v:SV} {Q R:Option (List Request)} (h:TD t v Q R) (p:Option (List Request) × Int) (hn:((ol p.1).length:Int)<900000):TD (UT t p) v p.1 R:=⟨h.sd,rfl,h.ret,hn,h.nR⟩
theorem aGD {t:State} {v:SV} {Q R:Option (List Request)} (h:TD t v Q R):Tryz.UT t (Q,t.cZ)=t:=by unfold Tryz.UT;simp only;rw[← h.Gm]
theorem aCy (ns:List Node) (p:Option (List Request) × Int) (r:cJ):(ol (ZP ns p r).1).length≤(ol p.1).length+1:=by
 unfold ZP;split
 ·show (ol p.1++[_]).length≤_;rw[List.length_append,List.length_cons,List.length_nil];omega
 ·omega
theorem ZQ (ns:List Node) (p:Option (List Request) × Int) (l:List cJ):(ol (Mr ns p l).1).length≤(ol p.1).length+l.length:=by
 induction l generalizing p with
 | nil=>exact Nat.le_refl _
 | cons r l ih=>have h1:=ih (ZP ns p r);have h2:=aCy ns p r;rw[List.length_cons];show (ol (Mr ns (ZP ns p r) l).1).length≤_;omega
theorem c32 {t:State} {v:SV} {Q R:Option (List Request)} (h:TD t v Q R) (L:Option (List cJ)) (hn:((ol Q).length:Int)+(ol L).length<800000):aB Tryz.prog 32 [.agg (aP t),ov gY L]=some (.agg (aP (Tryz.UT t (Mr v.ns (Q,t.cZ) (ol L))))):=by
 have hT:∀k:Nat,k≤(ol L).length→TD (Tryz.UT t (Mr v.ns (Q,t.cZ) ((ol L).take k))) v (Mr v.ns (Q,t.cZ) ((ol L).take k)).1 R:=fun k hk=>h.UT _ (by
  have:=ZQ v.ns (Q,t.cZ) ((ol L).take k);rw[List.length_take] at this;have e:ol (Q,t.cZ).1=ol Q:=rfl;rw[e] at this;omega)
 rw[cL Tryz.func32 rfl aRh (by cases L<;>rfl)]
 refine iN ?_
 simp only[Z8,seval];refine cF (fun m st=>∃k:Nat,(st.env 1=ov gY L∧st.env 2=.ptr 2 0 0∧st.heap 2 0=some (.cells (aP (Tryz.UT t (Mr v.ns (Q,t.cZ) ((ol L).take k)))))∧st.env 4=.ptr 4 0 0∧st.heap 4 0=some (.cells (aP lW))∧st.env 5=.v (.int .i64 k))∧k≤(ol L).length∧m=(ol L).length-k)
  (fun e st=>e=.exit 0∧(st.env 2=.ptr 2 0 0∧st.heap 2 0=some (.cells (aP (Tryz.UT t (Mr v.ns (Q,t.cZ) (ol L)))))∧st.env 4=.ptr 4 0 0∧st.heap 4 0=some (.cells (aP lW)))) (ol L).length ?step ?start ?rest
 case step =>
  rintro m st ⟨k,hI,hk,hm⟩
  by_cases bA:(k:Int)<(ol L).length
  ·have q0:(0:Int)≤k:=by omega
   have hw:IntKind.i64.wrap ((k:Int)+1)=((k+1:Nat):Int):=by rw[mZ _ (by omega) (by omega)];omega
   have hs:=S8 v.ns (Q,t.cZ) (ol L) k (by omega)
   have hTk:=hT k hk
   have D3:=k85 hTk (gx dR (ol L) (k:Int))
   by_cases g1:zQ v.ns (gx dR (ol L) (k:Int))
   ·have hT1:=hT (k+1) (by omega)
    have k86':=kx (c86 hTk (gx dR (ol L) (k:Int)) 0) (mD hTk.flat (qR _) (.v _)) (by
     have:aGC (Tryz.UT t (Mr v.ns (Q,t.cZ) ((ol L).take k))) (ol (Mr v.ns (Q,t.cZ) ((ol L).take k)).1) (gx dR (ol L) (k:Int)) 0=Tryz.UT t (Mr v.ns (Q,t.cZ) ((ol L).take (k+1))):=by rw[hs,ZP,if_pos g1];rfl
     rw[this];exact hT1.flat)
    have he:aGC (Tryz.UT t (Mr v.ns (Q,t.cZ) ((ol L).take k))) (ol (Mr v.ns (Q,t.cZ) ((ol L).take k)).1) (gx dR (ol L) (k:Int)) 0=Tryz.UT t (Mr v.ns (Q,t.cZ) ((ol L).take (k+1))):=by rw[hs,ZP,if_pos g1];rfl
    rw[he] at k86'
    apply oN ((ol L).length-(k+1))
    ·simp only[Z8,seval,hI,bA,q0,D3,g1,k86',hw];rfl
    ·exact⟨k+1,by simp only[E8,seval,hI],by omega,rfl⟩
   ·rw[ZP,if_neg g1] at hs;apply oN ((ol L).length-(k+1))
    ·simp only[Z8,seval,hI,bA,q0,D3,g1,hw];rfl
    ·exact⟨k+1,by simp only[E8,seval,hI,hs],by omega,rfl⟩
  ·have Az:k=(ol L).length:=by omega
   rw[Az,List.take_length] at hI;apply oT (.exit 0)
   ·simp only[Z8,seval,hI,Int.lt_irrefl];rfl
   ·exact⟨rfl,by simp only[E8,seval,hI]⟩
 case start=>exact⟨0,by rw[List.take_zero,show Mr v.ns (Q,t.cZ) []=(Q,t.cZ) from rfl,aGD h];simp only[E8,seval]<;>rfl,by omega,by omega⟩
 case rest =>
  rintro e st ⟨rfl,hI⟩
  have hT1:=(hT (ol L).length (Nat.le_refl _)).fl
  rw[List.take_length] at hT1;simp only[Z8,seval,hI];exact⟨_,fK rfl (by simp only[E8,seval,hI,hT1]<;>rfl) (by simp only[Z8,seval,hI,hT1]<;>rfl) (by simp only[dV,and_self,hI,hT1]),rfl⟩
noncomputable def MV (b:Int):Nat→Int→Int
 | 0,d=>d
 | n+1,d=>if IntKind.u64.wrap (b-d)≤d then b else MV b n (IntKind.u64.wrap (2 * d))
noncomputable def UU (n b:Int):Int:=if b=0 then 0 else MV b (n-1).toNat 1
theorem aRj (n b:Int) (hn:n≤9223372036854775807):aB Tryz.prog 143 [.v (.int .i64 n),.v (.int .u64 b)]=some (.v (.int .u64 (UU n b))):=by
 rw[cL Tryz.func143 rfl aMk rfl];refine iN ?_
 by_cases g0:b=0
 ·simp only[Z8,seval,bt g0];exact⟨_,bX rfl (by simp only[E8,seval]<;>rfl) (by first|exact .v _|simp only[dV]),by rw[UU,if_pos g0]⟩
 simp only[Z8,seval,bf g0];refine cF (fun m st=>∃(k:Nat) (d i:Int),(st.env 0=.v (.int .i64 n)∧st.env 1=.v (.int .u64 b)∧st.env 5=.v (.int .u64 d)∧st.env 6=.v (.int .i64 i))∧i=k+1∧MV b ((n-1).toNat-k) d=MV b (n-1).toNat 1∧k≤(n-1).toNat∧m=(n-1).toNat-k)
  (fun e st=>(e=.ret∧st.env 4=.v (.int .u64 (MV b (n-1).toNat 1)))∨(e=.exit 0∧st.env 5=.v (.int .u64 (MV b (n-1).toNat 1)))) (n-1).toNat ?step ?start ?rest
 case step =>
  rintro m st ⟨k,d,i,hI,hi,hd,hk,hm⟩
  by_cases bA:i<n
  ·have hw:IntKind.i64.wrap (i+1)=i+1:=mZ _ (by omega) (by omega)
   have e1:(n-1).toNat-k=((n-1).toNat-(k+1))+1:=by omega
   rw[e1,MV] at hd;by_cases g1:IntKind.u64.wrap (b-d)≤d
   ·rw[if_pos g1] at hd;apply oT (.ret)
    ·simp only[Z8,seval,hI,bA,g1];rfl
    ·exact .inl ⟨rfl,by rw[← hd];simp only[E8,seval]⟩
   ·rw[if_neg g1] at hd;apply oN ((n-1).toNat-(k+1))
    ·simp only[Z8,seval,hI,bA,g1,hw];rfl
    ·exact⟨k+1,_,i+1,by and_intros<;>(simp only[E8,seval,hI]<;>rfl),by omega,hd,by omega,rfl⟩
  ·have e1:(n-1).toNat-k=0:=by omega
   rw[e1,MV] at hd;apply oT (.exit 0)
   ·simp only[Z8,seval,hI,bA];rfl
   ·exact .inr ⟨rfl,by rw[← hd];simp only[E8,seval,hI]⟩
 case start=>exact⟨0,1,1,by and_intros<;>(simp only[E8,seval]<;>rfl),rfl,rfl,by omega,by omega⟩
 case rest =>
  rintro e st (⟨rfl,h⟩|⟨rfl,h⟩)
  ·simp only[Z8,seval,h];exact⟨_,bX rfl (by simp only[E8,seval,h]<;>rfl) (by first|exact .v _|simp only[dV,h]),by rw[UU,if_neg g0]⟩
  ·simp only[Z8,seval,h];exact⟨_,bX rfl (by simp only[E8,seval,h]<;>rfl) (by first|exact .v _|simp only[dV,h]),by rw[UU,if_neg g0]⟩
theorem aRk (n b:Int) (hn:n≤9223372036854775807) (st:St) (d:Option Nat):aN (aB Tryz.prog) 143 [.v (.int .i64 n),.v (.int .u64 b)] st d=some { dst:=d,val:=.v (.int .u64 (UU n b))}:=kx (aRj n b hn) (bE (.v _) (.v _)) (.v _) st d
theorem x37 {s:aL} {v:SV} {q:Int} (h:GI s v q) (r:RG s v) (hB:0<(ol v.B).length∧(ol v.B).length≤64) (k:Int) (hk:0≤k):∃x,aB Tryz.prog 37 [.agg (aA s),.v (.int .i64 k)]=some x∧∃(a:sC) (V:List Int),x=.agg (iB a)∧a.eU=ov aK (some V)∧(V.length:Int)≤1000∧Rg a.slot∧Rg a.target.aG:=by
 have hn:=h.sd.nn
 have hp:(0:Int)<(v.ns.length:Int):=by have:=h.pos;omega
 have gR:¬((v.ns.length:Int)=0):=by omega
 obtain⟨m1,m2⟩:=cP (n:=(v.ns.length:Int)) hk hp
 obtain⟨i,hi⟩:∃i,k.tmod (v.ns.length:Int)=i:=⟨_,rfl⟩
 rw[hi] at m1 m2;obtain⟨m3,m4⟩:=cP (n:=(v.ns.length:Int)) (Ay hk (min 4 IntKind.i64.bits)) hp
 have Mq:=h.sp
 obtain⟨l,kl,hl⟩:=k45 (ol v.B).length ((k).fdiv (2 ^ min 3 IntKind.i64.bits)) (by omega) (by omega)
 have nl:(l.length:Int)<1000000:=by omega
 have rn:Rg s.now:=⟨r.now.1,by have:=r.now.2;omega⟩
 rw[cL Tryz.func37 rfl aRl rfl];by_cases g1:0<((((k).fdiv (2 ^ min 9 IntKind.i64.bits))).tmod 4)
 case neg =>
  obtain⟨y,hy,c,rfl,rc⟩:=x92 h r i (IntKind.u64.wrap ((s.now).tdiv s.cFg.kE)) (iK _)
  have Qx:=kx hy (mD h.sd.flat (.v _) (.v _)) (.agg _ (bM _))
  by_cases d0:((((k).fdiv (2 ^ min 12 IntKind.i64.bits))).tmod 20)=0
  ·simp only[Z8,seval,h.sd.tree,h.sd.iP,gR,hi,m1,m2,kl,g1,Mq,Qx,bt d0];exact⟨_,by apply eG;rfl;all_goals simp only[aH,Z8,seval,bQ,lX,bP,cV,jX,dV]<;>rfl,_,l,rfl,rfl,by omega,rn,iK _⟩
  by_cases d1:((((k).fdiv (2 ^ min 12 IntKind.i64.bits))).tmod 20)=1
  ·simp only[Z8,seval,h.sd.tree,h.sd.iP,gR,hi,m1,m2,kl,g1,Mq,Qx,bf d0,bt d1,Qg];exact⟨_,by apply eG;rfl;all_goals simp only[aH,Z8,seval,bQ,lX,bP,cV,jX,dV]<;>rfl,_,l,rfl,rfl,by omega,rn,rc⟩
  by_cases d2:((((k).fdiv (2 ^ min 12 IntKind.i64.bits))).tmod 20)=2
  ·simp only[Z8,seval,h.sd.tree,h.sd.iP,gR,hi,m1,m2,kl,g1,Mq,Qx,bf d0,bf d1,bt d2,m3,m4];exact⟨_,by apply eG;rfl;all_goals simp only[aH,Z8,seval,bQ,lX,bP,cV,jX,dV]<;>rfl,_,l,rfl,rfl,by omega,rn,rc⟩
  by_cases d3:((((k).fdiv (2 ^ min 12 IntKind.i64.bits))).tmod 20)=3
  ·simp only[Z8,seval,h.sd.tree,h.sd.iP,gR,hi,m1,m2,kl,g1,Mq,Qx,bf d0,bf d1,bf d2,bt d3];exact⟨_,by apply eG;rfl;all_goals simp only[aH,Z8,seval,bQ,lX,bP,cV,jX,dV]<;>rfl,_,l,rfl,rfl,by omega,iK _,rc⟩
  by_cases d4:((((k).fdiv (2 ^ min 12 IntKind.i64.bits))).tmod 20)=4
  ·simp only[Z8,seval,h.sd.tree,h.sd.iP,gR,hi,m1,m2,kl,g1,Mq,Qx,bf d0,bf d1,bf d2,bf d3,bt d4,Em _ _ _ _ nl];exact⟨_,by apply eG;rfl;all_goals simp only[aH,Z8,seval,bQ,lX,bP,cV,jX,dV]<;>rfl,_,l++[((((k).fdiv (2 ^ min 17 IntKind.i64.bits))).tmod 9)],rfl,rfl,by rw[List.length_append,List.length_cons,List.length_nil];omega,rn,rc⟩
  simp only[Z8,seval,h.sd.tree,h.sd.iP,gR,hi,m1,m2,kl,g1,Mq,Qx,bf d0,bf d1,bf d2,bf d3,bf d4];exact⟨_,by apply eG;rfl;all_goals simp only[aH,Z8,seval,bQ,lX,bP,cV,jX,dV]<;>rfl,_,l,rfl,rfl,by omega,rn,rc⟩
 by_cases g2:0<s.now
 case neg =>
  obtain⟨y,hy,c,rfl,rc⟩:=x92 h r i (IntKind.u64.wrap ((s.now).tdiv s.cFg.kE)) (iK _)
  have Qx:=kx hy (mD h.sd.flat (.v _) (.v _)) (.agg _ (bM _))
  by_cases d0:((((k).fdiv (2 ^ min 12 IntKind.i64.bits))).tmod 20)=0
  ·simp only[Z8,seval,h.sd.tree,h.sd.iP,gR,hi,m1,m2,kl,g1,g2,Mq,Qx,bt d0];exact⟨_,by apply eG;rfl;all_goals simp only[aH,Z8,seval,bQ,lX,bP,cV,jX,dV]<;>rfl,_,l,rfl,rfl,by omega,rn,iK _⟩
  by_cases d1:((((k).fdiv (2 ^ min 12 IntKind.i64.bits))).tmod 20)=1
  ·simp only[Z8,seval,h.sd.tree,h.sd.iP,gR,hi,m1,m2,kl,g1,g2,Mq,Qx,bf d0,bt d1,Qg];exact⟨_,by apply eG;rfl;all_goals simp only[aH,Z8,seval,bQ,lX,bP,cV,jX,dV]<;>rfl,_,l,rfl,rfl,by omega,rn,rc⟩
  by_cases d2:((((k).fdiv (2 ^ min 12 IntKind.i64.bits))).tmod 20)=2
  ·simp only[Z8,seval,h.sd.tree,h.sd.iP,gR,hi,m1,m2,kl,g1,g2,Mq,Qx,bf d0,bf d1,bt d2,m3,m4];exact⟨_,by apply eG;rfl;all_goals simp only[aH,Z8,seval,bQ,lX,bP,cV,jX,dV]<;>rfl,_,l,rfl,rfl,by omega,rn,rc⟩
  by_cases d3:((((k).fdiv (2 ^ min 12 IntKind.i64.bits))).tmod 20)=3
  ·simp only[Z8,seval,h.sd.tree,h.sd.iP,gR,hi,m1,m2,kl,g1,g2,Mq,Qx,bf d0,bf d1,bf d2,bt d3];exact⟨_,by apply eG;rfl;all_goals simp only[aH,Z8,seval,bQ,lX,bP,cV,jX,dV]<;>rfl,_,l,rfl,rfl,by omega,iK _,rc⟩
  by_cases d4:((((k).fdiv (2 ^ min 12 IntKind.i64.bits))).tmod 20)=4
  ·simp only[Z8,seval,h.sd.tree,h.sd.iP,gR,hi,m1,m2,kl,g1,g2,Mq,Qx,bf d0,bf d1,bf d2,bf d3,bt d4,Em _ _ _ _ nl];exact⟨_,by apply eG;rfl;all_goals simp only[aH,Z8,seval,bQ,lX,bP,cV,jX,dV]<;>rfl,_,l++[((((k).fdiv (2 ^ min 17 IntKind.i64.bits))).tmod 9)],rfl,rfl,by rw[List.length_append,List.length_cons,List.length_nil];omega,rn,rc⟩
  simp only[Z8,seval,h.sd.tree,h.sd.iP,gR,hi,m1,m2,kl,g1,g2,Mq,Qx,bf d0,bf d1,bf d2,bf d3,bf d4];exact⟨_,by apply eG;rfl;all_goals simp only[aH,Z8,seval,bQ,lX,bP,cV,jX,dV]<;>rfl,_,l,rfl,rfl,by omega,rn,rc⟩
 obtain⟨y,hy,c,rfl,rc⟩:=x92 h r i (IntKind.u64.wrap ((IntKind.u64.wrap (s.now-1)).tdiv s.cFg.kE)) (iK _)
 have Qx:=kx hy (mD h.sd.flat (.v _) (.v _)) (.agg _ (bM _))
 by_cases d0:((((k).fdiv (2 ^ min 12 IntKind.i64.bits))).tmod 20)=0
 ·simp only[Z8,seval,h.sd.tree,h.sd.iP,gR,hi,m1,m2,kl,g1,g2,Mq,Qx,bt d0];exact⟨_,by apply eG;rfl;all_goals simp only[aH,Z8,seval,bQ,lX,bP,cV,jX,dV]<;>rfl,_,l,rfl,rfl,by omega,iK _,iK _⟩
 by_cases d1:((((k).fdiv (2 ^ min 12 IntKind.i64.bits))).tmod 20)=1
 ·simp only[Z8,seval,h.sd.tree,h.sd.iP,gR,hi,m1,m2,kl,g1,g2,Mq,Qx,bf d0,bt d1,Qg];exact⟨_,by apply eG;rfl;all_goals simp only[aH,Z8,seval,bQ,lX,bP,cV,jX,dV]<;>rfl,_,l,rfl,rfl,by omega,iK _,rc⟩
 by_cases d2:((((k).fdiv (2 ^ min 12 IntKind.i64.bits))).tmod 20)=2
 ·simp only[Z8,seval,h.sd.tree,h.sd.iP,gR,hi,m1,m2,kl,g1,g2,Mq,Qx,bf d0,bf d1,bt d2,m3,m4];exact⟨_,by apply eG;rfl;all_goals simp only[aH,Z8,seval,bQ,lX,bP,cV,jX,dV]<;>rfl,_,l,rfl,rfl,by omega,iK _,rc⟩
 by_cases d3:((((k).fdiv (2 ^ min 12 IntKind.i64.bits))).tmod 20)=3
 ·simp only[Z8,seval,h.sd.tree,h.sd.iP,gR,hi,m1,m2,kl,g1,g2,Mq,Qx,bf d0,bf d1,bf d2,bt d3];exact⟨_,by apply eG;rfl;all_goals simp only[aH,Z8,seval,bQ,lX,bP,cV,jX,dV]<;>rfl,_,l,rfl,rfl,by omega,iK _,rc⟩
 by_cases d4:((((k).fdiv (2 ^ min 12 IntKind.i64.bits))).tmod 20)=4
 ·simp only[Z8,seval,h.sd.tree,h.sd.iP,gR,hi,m1,m2,kl,g1,g2,Mq,Qx,bf d0,bf d1,bf d2,bf d3,bt d4,Em _ _ _ _ nl];exact⟨_,by apply eG;rfl;all_goals simp only[aH,Z8,seval,bQ,lX,bP,cV,jX,dV]<;>rfl,_,l++[((((k).fdiv (2 ^ min 17 IntKind.i64.bits))).tmod 9)],rfl,rfl,by rw[List.length_append,List.length_cons,List.length_nil];omega,iK _,rc⟩
 simp only[Z8,seval,h.sd.tree,h.sd.iP,gR,hi,m1,m2,kl,g1,g2,Mq,Qx,bf d0,bf d1,bf d2,bf d3,bf d4];exact⟨_,by apply eG;rfl;all_goals simp only[aH,Z8,seval,bQ,lX,bP,cV,jX,dV]<;>rfl,_,l,rfl,rfl,by omega,iK _,rc⟩
theorem iU {call:Nat→List AV→Option AV} {ops:Array Oper} {st:St} {T:Nat} {pos:String} {eQ:Array Edge} (d:Nat):cH Tryz.prog call ops ⟨some d,.buildSlice 22 6 #[(0,.const (.int .i64 1)),(1,.const (.int .i64 1)),(2,.const (.int .i64 2)),(3,.const (.int .i64 2)),(4,.const (.int .i64 3)),(5,.const (.int .i64 4))],T,pos,eQ,none⟩ st =
 some ((st.new d (.row 3 1 6 (aK [1,1,2,2,3,4]))).put (some d) (.own d (st.aQ d))):=by
 rw[kY];simp[Ky,ze3,cS,St.ev,AV.jD,Value.oneCell',gS,AV.cells,List.range,List.range.loop,aK,qS]
theorem x25 {t:State} {v:SV} {Q R:Option (List Request)} {q:Int} (hT:TD t v Q R) (h:GI t.store v q) (hq:∀r∈ol Q,Rg r.tagged.tag) (k:Int) (hk:0≤k):∃x,aB Tryz.prog 25 [.agg (aP t),.v (.int .i64 k)]=some x∧∃w:gV,x=.agg (dJ w)∧Rg w.tagged.tag:=by
 have hn:=h.sd.nn
 have hp:(0:Int)<(v.ns.length:Int):=by have:=h.pos;omega
 have gR:¬((v.ns.length:Int)=0):=by omega
 obtain⟨m1,m2⟩:=cP (n:=(v.ns.length:Int)) hk hp
 obtain⟨j0,j1⟩:=cP (n:=6) (Ay hk (min 4 IntKind.i64.bits)) (by omega)
 obtain⟨j,hj⟩:∃j,((((k).fdiv (2 ^ min 4 IntKind.i64.bits))).tmod 6)=j:=⟨_,rfl⟩
 rw[hj] at j0 j1;have g6:=nM (l:=[1,1,2,2,3,4]) j0 (by show j<((6:Nat):Int);omega)
 have fv:∀w:gV,Flat (.agg (dJ w))=True:=fun w=>eq_true (.agg _ (jP w))
 have L9:=iK (k.tmod 9)
 rw[cG Tryz.func25 rfl aRm (by kernel_rfl) rfl]
 by_cases g1:(0:Int)<((ol Q).length:Int)
 case neg =>
  by_cases p0:0≤aM v.ns ((nd v.ns (k.tmod (v.ns.length:Int))).block.root)
  case neg =>
   have kp:=fun st d=>y8 v.ns (aM v.ns ((nd v.ns (k.tmod (v.ns.length:Int))).block.root)) (fun hh=>p0 hh.1) st d
   by_cases e2:((((k).fdiv (2 ^ min 14 IntKind.i64.bits))).tmod 16)=0
   ·simp only[ZG,seval,Bool.false_and,Prod.mk.injEq,Gb,iU,hj,j0,j1,g6,hT.Gm,h.sd.tree,gR,m1,m2,mQ _ _ hn,g1,kp,bt e2,Qg];exact⟨_,fK rfl (by simp only[E8,seval,fv]<;>rfl) (by simp only[Z8,seval,fv]<;>rfl) (by simp only[dV,and_self,fv]),_,rfl,L9⟩
   simp only[ZG,seval,Bool.false_and,Prod.mk.injEq,Gb,iU,hj,j0,j1,g6,hT.Gm,h.sd.tree,gR,m1,m2,mQ _ _ hn,g1,kp,bf e2];exact⟨_,fK rfl (by simp only[E8,seval,fv]<;>rfl) (by simp only[Z8,seval,fv]<;>rfl) (by simp only[dV,and_self,fv]),_,rfl,L9⟩
  have pr:=eZ v.ns ((nd v.ns (k.tmod (v.ns.length:Int))).block.root)
  have kp:=fun st d=>k76 v.ns h.up hn (aM v.ns ((nd v.ns (k.tmod (v.ns.length:Int))).block.root)) p0 pr.2 st d
  have pm:=vG h.up p0 pr.2
  have prg:∀x∈path v.ns (aM v.ns ((nd v.ns (k.tmod (v.ns.length:Int))).block.root)),0≤x∧x<v.ns.length:=fun x hx=>vH h.up hx
  have pl:=Ax h.up (aM v.ns ((nd v.ns (k.tmod (v.ns.length:Int))).block.root))
  obtain⟨p,ep⟩:∃p,path v.ns (aM v.ns ((nd v.ns (k.tmod (v.ns.length:Int))).block.root))=p:=⟨_,rfl⟩
  rw[ep] at kp pm prg pl;have l0:(0:Int)<(p.length:Int):=by have:=List.length_pos_of_mem pm;omega
  have lne:¬((p.length:Int)=0):=by omega
  by_cases e1:0<((((k).fdiv (2 ^ min 14 IntKind.i64.bits))).tmod 4)
  case neg =>
   by_cases e2:((((k).fdiv (2 ^ min 14 IntKind.i64.bits))).tmod 16)=0
   ·simp only[ZG,seval,Bool.false_and,Prod.mk.injEq,Gb,iU,hj,j0,j1,g6,hT.Gm,h.sd.tree,gR,m1,m2,mQ _ _ hn,g1,kp,l0,e1,bt e2,Qg];exact⟨_,fK rfl (by simp only[E8,seval,fv]<;>rfl) (by simp only[Z8,seval,fv]<;>rfl) (by simp only[dV,and_self,fv]),_,rfl,L9⟩
   simp only[ZG,seval,Bool.false_and,Prod.mk.injEq,Gb,iU,hj,j0,j1,g6,hT.Gm,h.sd.tree,gR,m1,m2,mQ _ _ hn,g1,kp,l0,e1,bf e2];exact⟨_,fK rfl (by simp only[E8,seval,fv]<;>rfl) (by simp only[Z8,seval,fv]<;>rfl) (by simp only[dV,and_self,fv]),_,rfl,L9⟩
  obtain⟨x1,x2⟩:=cP (n:=(p.length:Int)) (Ay hk (min 16 IntKind.i64.bits)) l0
  obtain⟨y,hy⟩:∃y,((((k).fdiv (2 ^ min 16 IntKind.i64.bits))).tmod (p.length:Int))=y:=⟨_,rfl⟩
  rw[hy] at x1 x2;have gp:=nM x1 x2
  obtain⟨z1,z2⟩:=prg (it p y) (by obtain⟨h1,h2⟩:=xJ x1 x2;rw[h2];exact List.getElem_mem h1)
  by_cases e2:((((k).fdiv (2 ^ min 14 IntKind.i64.bits))).tmod 16)=0
  ·simp only[ZG,seval,Bool.false_and,Prod.mk.injEq,Gb,iU,hj,j0,j1,g6,hT.Gm,h.sd.tree,gR,m1,m2,mQ _ _ hn,g1,kp,l0,lne,e1,hy,x1,x2,gp,z1,z2,bt e2,Qg];exact⟨_,fK rfl (by simp only[E8,seval,fv]<;>rfl) (by simp only[Z8,seval,fv]<;>rfl) (by simp only[dV,and_self,fv]),_,rfl,L9⟩
  simp only[ZG,seval,Bool.false_and,Prod.mk.injEq,Gb,iU,hj,j0,j1,g6,hT.Gm,h.sd.tree,gR,m1,m2,mQ _ _ hn,g1,kp,l0,lne,e1,hy,x1,x2,gp,z1,z2,bf e2];exact⟨_,fK rfl (by simp only[E8,seval,fv]<;>rfl) (by simp only[Z8,seval,fv]<;>rfl) (by simp only[dV,and_self,fv]),_,rfl,L9⟩
 by_cases g2:0<((((k).fdiv (2 ^ min 8 IntKind.i64.bits))).tmod 8)
 case neg =>
  by_cases p0:0≤aM v.ns ((nd v.ns (k.tmod (v.ns.length:Int))).block.root)
  case neg =>
   have kp:=fun st d=>y8 v.ns (aM v.ns ((nd v.ns (k.tmod (v.ns.length:Int))).block.root)) (fun hh=>p0 hh.1) st d
   by_cases e2:((((k).fdiv (2 ^ min 14 IntKind.i64.bits))).tmod 16)=0
   ·simp only[ZG,seval,Bool.false_and,Prod.mk.injEq,Gb,iU,hj,j0,j1,g6,hT.Gm,h.sd.tree,gR,m1,m2,mQ _ _ hn,g1,g2,kp,bt e2,Qg];exact⟨_,fK rfl (by simp only[E8,seval,fv]<;>rfl) (by simp only[Z8,seval,fv]<;>rfl) (by simp only[dV,and_self,fv]),_,rfl,L9⟩
   simp only[ZG,seval,Bool.false_and,Prod.mk.injEq,Gb,iU,hj,j0,j1,g6,hT.Gm,h.sd.tree,gR,m1,m2,mQ _ _ hn,g1,g2,kp,bf e2];exact⟨_,fK rfl (by simp only[E8,seval,fv]<;>rfl) (by simp only[Z8,seval,fv]<;>rfl) (by simp only[dV,and_self,fv]),_,rfl,L9⟩
  have pr:=eZ v.ns ((nd v.ns (k.tmod (v.ns.length:Int))).block.root)
  have kp:=fun st d=>k76 v.ns h.up hn (aM v.ns ((nd v.ns (k.tmod (v.ns.length:Int))).block.root)) p0 pr.2 st d
  have pm:=vG h.up p0 pr.2
  have prg:∀x∈path v.ns (aM v.ns ((nd v.ns (k.tmod (v.ns.length:Int))).block.root)),0≤x∧x<v.ns.length:=fun x hx=>vH h.up hx
  have pl:=Ax h.up (aM v.ns ((nd v.ns (k.tmod (v.ns.length:Int))).block.root))
  obtain⟨p,ep⟩:∃p,path v.ns (aM v.ns ((nd v.ns (k.tmod (v.ns.length:Int))).block.root))=p:=⟨_,rfl⟩
  rw[ep] at kp pm prg pl;have l0:(0:Int)<(p.length:Int):=by have:=List.length_pos_of_mem pm;omega
  have lne:¬((p.length:Int)=0):=by omega
  by_cases e1:0<((((k).fdiv (2 ^ min 14 IntKind.i64.bits))).tmod 4)
  case neg =>
   by_cases e2:((((k).fdiv (2 ^ min 14 IntKind.i64.bits))).tmod 16)=0
   ·simp only[ZG,seval,Bool.false_and,Prod.mk.injEq,Gb,iU,hj,j0,j1,g6,hT.Gm,h.sd.tree,gR,m1,m2,mQ _ _ hn,g1,g2,kp,l0,e1,bt e2,Qg];exact⟨_,fK rfl (by simp only[E8,seval,fv]<;>rfl) (by simp only[Z8,seval,fv]<;>rfl) (by simp only[dV,and_self,fv]),_,rfl,L9⟩
   simp only[ZG,seval,Bool.false_and,Prod.mk.injEq,Gb,iU,hj,j0,j1,g6,hT.Gm,h.sd.tree,gR,m1,m2,mQ _ _ hn,g1,g2,kp,l0,e1,bf e2];exact⟨_,fK rfl (by simp only[E8,seval,fv]<;>rfl) (by simp only[Z8,seval,fv]<;>rfl) (by simp only[dV,and_self,fv]),_,rfl,L9⟩
  obtain⟨x1,x2⟩:=cP (n:=(p.length:Int)) (Ay hk (min 16 IntKind.i64.bits)) l0
  obtain⟨y,hy⟩:∃y,((((k).fdiv (2 ^ min 16 IntKind.i64.bits))).tmod (p.length:Int))=y:=⟨_,rfl⟩
  rw[hy] at x1 x2;have gp:=nM x1 x2
  obtain⟨z1,z2⟩:=prg (it p y) (by obtain⟨h1,h2⟩:=xJ x1 x2;rw[h2];exact List.getElem_mem h1)
  by_cases e2:((((k).fdiv (2 ^ min 14 IntKind.i64.bits))).tmod 16)=0
  ·simp only[ZG,seval,Bool.false_and,Prod.mk.injEq,Gb,iU,hj,j0,j1,g6,hT.Gm,h.sd.tree,gR,m1,m2,mQ _ _ hn,g1,g2,kp,l0,lne,e1,hy,x1,x2,gp,z1,z2,bt e2,Qg];exact⟨_,fK rfl (by simp only[E8,seval,fv]<;>rfl) (by simp only[Z8,seval,fv]<;>rfl) (by simp only[dV,and_self,fv]),_,rfl,L9⟩
  simp only[ZG,seval,Bool.false_and,Prod.mk.injEq,Gb,iU,hj,j0,j1,g6,hT.Gm,h.sd.tree,gR,m1,m2,mQ _ _ hn,g1,g2,kp,l0,lne,e1,hy,x1,x2,gp,z1,z2,bf e2];exact⟨_,fK rfl (by simp only[E8,seval,fv]<;>rfl) (by simp only[Z8,seval,fv]<;>rfl) (by simp only[dV,and_self,fv]),_,rfl,L9⟩
 have qne:¬(((ol Q).length:Int)=0):=by omega
 obtain⟨c1,c2⟩:=cP (n:=((ol Q).length:Int)) (Ay hk (min 11 IntKind.i64.bits)) g1
 obtain⟨c,hc⟩:∃c,((((k).fdiv (2 ^ min 11 IntKind.i64.bits))).tmod ((ol Q).length:Int))=c:=⟨_,rfl⟩
 rw[hc] at c1 c2;have rTB:Rg (gx cX (ol Q) c).tagged.tag:=hq _ (pF c1 c2)
 by_cases p0:0≤aM v.ns ((gx cX (ol Q) c).block)
 case neg =>
  have kp:=fun st d=>y8 v.ns (aM v.ns ((gx cX (ol Q) c).block)) (fun hh=>p0 hh.1) st d
  by_cases e2:((((k).fdiv (2 ^ min 14 IntKind.i64.bits))).tmod 16)=0
  ·simp only[ZG,seval,Bool.false_and,Prod.mk.injEq,Gb,iU,hj,j0,j1,g6,hT.Gm,h.sd.tree,gR,m1,m2,mQ _ _ hn,g1,g2,qne,hc,c1,c2,kp,bt e2,Qg];exact⟨_,fK rfl (by simp only[E8,seval,fv]<;>rfl) (by simp only[Z8,seval,fv]<;>rfl) (by simp only[dV,and_self,fv]),_,rfl,rTB⟩
  simp only[ZG,seval,Bool.false_and,Prod.mk.injEq,Gb,iU,hj,j0,j1,g6,hT.Gm,h.sd.tree,gR,m1,m2,mQ _ _ hn,g1,g2,qne,hc,c1,c2,kp,bf e2];exact⟨_,fK rfl (by simp only[E8,seval,fv]<;>rfl) (by simp only[Z8,seval,fv]<;>rfl) (by simp only[dV,and_self,fv]),_,rfl,rTB⟩
 have pr:=eZ v.ns ((gx cX (ol Q) c).block)
 have kp:=fun st d=>k76 v.ns h.up hn (aM v.ns ((gx cX (ol Q) c).block)) p0 pr.2 st d
 have pm:=vG h.up p0 pr.2
 have prg:∀x∈path v.ns (aM v.ns ((gx cX (ol Q) c).block)),0≤x∧x<v.ns.length:=fun x hx=>vH h.up hx
 have pl:=Ax h.up (aM v.ns ((gx cX (ol Q) c).block))
 obtain⟨p,ep⟩:∃p,path v.ns (aM v.ns ((gx cX (ol Q) c).block))=p:=⟨_,rfl⟩
 rw[ep] at kp pm prg pl;have l0:(0:Int)<(p.length:Int):=by have:=List.length_pos_of_mem pm;omega
 have lne:¬((p.length:Int)=0):=by omega
 by_cases e1:0<((((k).fdiv (2 ^ min 14 IntKind.i64.bits))).tmod 4)
 case neg =>
  by_cases e2:((((k).fdiv (2 ^ min 14 IntKind.i64.bits))).tmod 16)=0
  ·simp only[ZG,seval,Bool.false_and,Prod.mk.injEq,Gb,iU,hj,j0,j1,g6,hT.Gm,h.sd.tree,gR,m1,m2,mQ _ _ hn,g1,g2,qne,hc,c1,c2,kp,l0,e1,bt e2,Qg];exact⟨_,fK rfl (by simp only[E8,seval,fv]<;>rfl) (by simp only[Z8,seval,fv]<;>rfl) (by simp only[dV,and_self,fv]),_,rfl,rTB⟩
  simp only[ZG,seval,Bool.false_and,Prod.mk.injEq,Gb,iU,hj,j0,j1,g6,hT.Gm,h.sd.tree,gR,m1,m2,mQ _ _ hn,g1,g2,qne,hc,c1,c2,kp,l0,e1,bf e2];exact⟨_,fK rfl (by simp only[E8,seval,fv]<;>rfl) (by simp only[Z8,seval,fv]<;>rfl) (by simp only[dV,and_self,fv]),_,rfl,rTB⟩
 obtain⟨x1,x2⟩:=cP (n:=(p.length:Int)) (Ay hk (min 16 IntKind.i64.bits)) l0
 obtain⟨y,hy⟩:∃y,((((k).fdiv (2 ^ min 16 IntKind.i64.bits))).tmod (p.length:Int))=y:=⟨_,rfl⟩
 rw[hy] at x1 x2;have gp:=nM x1 x2
 obtain⟨z1,z2⟩:=prg (it p y) (by obtain⟨h1,h2⟩:=xJ x1 x2;rw[h2];exact List.getElem_mem h1)
 by_cases e2:((((k).fdiv (2 ^ min 14 IntKind.i64.bits))).tmod 16)=0
 ·simp only[ZG,seval,Bool.false_and,Prod.mk.injEq,Gb,iU,hj,j0,j1,g6,hT.Gm,h.sd.tree,gR,m1,m2,mQ _ _ hn,g1,g2,qne,hc,c1,c2,kp,l0,lne,e1,hy,x1,x2,gp,z1,z2,bt e2,Qg];exact⟨_,fK rfl (by simp only[E8,seval,fv]<;>rfl) (by simp only[Z8,seval,fv]<;>rfl) (by simp only[dV,and_self,fv]),_,rfl,rTB⟩
 simp only[ZG,seval,Bool.false_and,Prod.mk.injEq,Gb,iU,hj,j0,j1,g6,hT.Gm,h.sd.tree,gR,m1,m2,mQ _ _ hn,g1,g2,qne,hc,c1,c2,kp,l0,lne,e1,hy,x1,x2,gp,z1,z2,bf e2];exact⟨_,fK rfl (by simp only[E8,seval,fv]<;>rfl) (by simp only[Z8,seval,fv]<;>rfl) (by simp only[dV,and_self,fv]),_,rfl,rTB⟩
end Go.Ab.Tryz
section
namespace Go.Ab
open Classical
theorem pQ [Ext] {P:Program} {bi:Bool} {a b:Code} {st:St} {β:Type} {K:Ex × St→Option β} {R:β→Prop} (Q:St→Prop) (h:∃st',wT P bi a st=some (.normal,st')∧Q st')
 (rest:∀st',Q st'→∃r,cS (wT P bi b st') K=some r∧R r):∃r,cS (wT P bi (.seq a b) st) K=some r∧R r:=by
 obtain⟨s1,h1,h2⟩:=h
 rw[GY,h1];exact rest s1 h2
end Go.Ab
namespace Go.Ab.Tryz
open Classical Go.Proofs Go.Ab
structure BQ (n:Int) (v:SV) (b:Block):Prop extends RB b where
 rt:b.root=mkRoot n∨∃m∈v.ns,b.root=m.block.root
theorem x50 {s:aL} {v:SV} {q:Int} (h:GI s v q) (r:RG s v) (n k:Int) (hk:0≤k):∃x,aB Tryz.prog 50 [.agg (aA s),.v (.int .i64 n),.v (.int .i64 k)]=some x∧∃b:Block,x=.agg (aV b)∧BQ n v b:=by
 have hn:=h.sd.nn
 have hp:(0:Int)<(v.ns.length:Int):=by have:=h.pos;omega
 have gR:¬((v.ns.length:Int)=0):=by omega
 have Mq:=h.sp
 have rn:Rg s.now:=⟨r.now.1,by have:=r.now.2;omega⟩
 have rnd:∀p:Int,0≤p→p<v.ns.length→RB (nd v.ns p).block:=fun p h0 h1=>(r.nd _ (Qt h0 h1)).1
 obtain⟨m1,m2⟩:=cP (n:=(v.ns.length:Int)) hk hp
 obtain⟨m3,m4⟩:=cP (n:=(v.ns.length:Int)) (Ay hk (min 3 IntKind.i64.bits)) hp
 rw[cG Tryz.func50 rfl aRn (by kernel_rfl) rfl]
 refine pQ (fun st=>st.aQ 8=0∧st.aQ 9=0∧st.aQ 11=0∧st.env 1=.v (.int .i64 n)∧st.env 2=.v (.int .i64 k)∧st.env 3=.ptr 3 0 0∧st.heap 3 0=some (.cells (aA s))∧st.env 6=.ptr 6 0 0∧st.heap 6 0=some (.cells (aV dY))) ?h0 ?r0
 case h0 =>
  refine⟨?s1, ?h1, ?q1⟩
  case h1 =>
   simp only[ZG,seval,Bool.false_and,Prod.mk.injEq,sH];rfl
  case q1=>exact⟨by simp only[E8,seval]<;>rfl,by simp only[E8,seval]<;>rfl,by simp only[E8,seval]<;>rfl,by simp only[E8,seval]<;>rfl,by simp only[E8,seval]<;>rfl,by simp only[E8,seval]<;>rfl,by simp only[E8,seval]<;>rfl,by simp only[E8,seval]<;>rfl,by simp only[E8,seval]<;>rfl⟩
 case r0 =>
 intro st hI;refine pQ (fun st=>∃p:Int,(st.aQ 8=0∧st.aQ 9=0∧st.aQ 11=0∧st.env 1=.v (.int .i64 n)∧st.env 2=.v (.int .i64 k)∧st.env 3=.ptr 3 0 0∧st.heap 3 0=some (.cells (aA s))∧st.env 6=.ptr 6 0 0∧st.heap 6 0=some (.cells (aV dY))∧st.env 7=.v (.int .i64 p))∧0≤p∧p<v.ns.length) ?h1 ?r1
 case h1 =>
  refine⟨?s2, ?h2, ?q2⟩
  case h2 =>
   simp only[ZG,seval,Bool.false_and,Prod.mk.injEq,sH,hI,h.sd.tree,gR];rfl
  case q2=>exact⟨_,by and_intros<;>(simp only[E8,seval,hI]<;>rfl),m1,m2⟩
 case r1 =>
 rintro st ⟨p,hI,p0,p1⟩
 refine pQ (fun st=>∃p:Int,(st.aQ 8=0∧st.aQ 9=0∧st.aQ 11=0∧st.env 1=.v (.int .i64 n)∧st.env 2=.v (.int .i64 k)∧st.env 3=.ptr 3 0 0∧st.heap 3 0=some (.cells (aA s))∧st.env 6=.ptr 6 0 0∧st.heap 6 0=some (.cells (aV dY))∧st.env 7=.v (.int .i64 p))∧0≤p∧p<v.ns.length) ?h2 ?r2
 case h2 =>
  by_cases g:0<((((k).fdiv (2 ^ min 6 IntKind.i64.bits))).tmod 3)
  ·obtain⟨M,hM⟩:∃M,(if (v.ns.length:Int)<3 then (v.ns.length:Int) else 3)=M:=⟨_,rfl⟩
   have hM1:1≤M∧M≤v.ns.length:=by rw[← hM];split<;>omega
   have hM0:¬M=0:=by omega
   obtain⟨x0,x1⟩:=cP (n:=M) p0 (by omega)
   have w1:IntKind.i64.wrap ((v.ns.length:Int)-1)=(v.ns.length:Int)-1:=mZ _ (by omega) (by omega)
   have w2:IntKind.i64.wrap ((v.ns.length:Int)-1-p.tmod M)=(v.ns.length:Int)-1-p.tmod M:=mZ _ (by omega) (by omega)
   refine⟨?s3, ?h3, ?q3⟩
   case h3 =>
    simp only[ZG,seval,Bool.false_and,Prod.mk.injEq,sH,hI,h.sd.tree,g,hM,hM0,w1,w2];rfl
   case q3=>exact⟨(v.ns.length:Int)-1-p.tmod M,by and_intros<;>(simp only[E8,seval,hI]<;>rfl),by omega,by omega⟩
  ·skip
   refine⟨?s4, ?h4, ?q4⟩
   case h4 =>
    simp only[ZG,seval,Bool.false_and,Prod.mk.injEq,sH,hI,g];rfl
   case q4=>exact⟨p,by and_intros<;>(simp only[E8,seval,hI]<;>rfl),p0,p1⟩
 case r2 =>
 clear hI p0 p1
 clear p
 rintro st ⟨p,hI,p0,p1⟩
 have rN:=rnd p p0 p1
 refine pQ (fun st=>st.aQ 9=0∧st.aQ 11=0∧st.env 1=.v (.int .i64 n)∧st.env 2=.v (.int .i64 k)∧st.env 3=.ptr 3 0 0∧st.heap 3 0=some (.cells (aA s))∧st.env 6=.ptr 6 0 0∧st.heap 6 0=some (.cells (aV dY))∧st.env 7=.v (.int .i64 p)∧st.env 8=.ptr 8 0 0∧st.heap 8 0=some (.cells (fG (nd v.ns p)))) ?h4 ?r4
 case h4 =>
  refine⟨?s5, ?h5, ?q5⟩
  case h5 =>
   simp only[ZG,seval,Bool.false_and,Prod.mk.injEq,sH,hI,h.sd.tree,p0,p1];rfl
  case q5=>exact⟨by simp only[E8,seval,hI]<;>rfl,by simp only[E8,seval,hI]<;>rfl,by simp only[E8,seval,hI]<;>rfl,by simp only[E8,seval,hI]<;>rfl,by simp only[E8,seval,hI]<;>rfl,by simp only[E8,seval,hI]<;>rfl,by simp only[E8,seval,hI]<;>rfl,by simp only[E8,seval,hI]<;>rfl,by simp only[E8,seval,hI]<;>rfl,by simp only[E8,seval,hI]<;>rfl,by simp only[E8,seval,hI]<;>rfl⟩
 case r4 =>
 clear hI
 intro st hI;refine pQ (fun st=>∃b:Block,(st.aQ 11=0∧st.env 1=.v (.int .i64 n)∧st.env 2=.v (.int .i64 k)∧st.env 3=.ptr 3 0 0∧st.heap 3 0=some (.cells (aA s))∧st.env 6=.ptr 6 0 0∧st.heap 6 0=some (.cells (aV dY))∧st.env 7=.v (.int .i64 p)∧st.env 8=.ptr 8 0 0∧st.heap 8 0=some (.cells (fG (nd v.ns p)))∧st.env 9=.ptr 9 0 0∧st.heap 9 0=some (.cells (aV b)))∧BQ n v b) ?h5 ?r5
 case h5 =>
  refine⟨?s6, ?h6, ?q6⟩
  case h6 =>
   simp only[ZG,seval,Bool.false_and,Prod.mk.injEq,sH,hI,Qg];rfl
  case q6=>exact⟨_,by and_intros<;>(simp only[E8,seval,hI]<;>rfl),by exact⟨⟨rn,rN.j,rN.f,rN.pj,rN.pf⟩,.inl rfl⟩⟩
 case r5 =>
 clear hI
 rintro st ⟨b,hI,rb⟩
 refine pQ (fun st=>∃b:Block,(st.aQ 11=0∧st.env 1=.v (.int .i64 n)∧st.env 2=.v (.int .i64 k)∧st.env 3=.ptr 3 0 0∧st.heap 3 0=some (.cells (aA s))∧st.env 6=.ptr 6 0 0∧st.heap 6 0=some (.cells (aV dY))∧st.env 7=.v (.int .i64 p)∧st.env 8=.ptr 8 0 0∧st.heap 8 0=some (.cells (fG (nd v.ns p)))∧st.env 9=.ptr 9 0 0∧st.heap 9 0=some (.cells (aV b)))∧BQ n v b) ?h6 ?r6
 case h6 =>
  by_cases g:((((k).fdiv (2 ^ min 10 IntKind.i64.bits))).tmod 5)=0
  case neg =>
   refine⟨?s7, ?h7, ?q7⟩
   case h7 =>
    simp only[ZG,seval,Bool.false_and,Prod.mk.injEq,sH,hI,bf g];rfl
   case q7=>exact⟨b,by and_intros<;>(simp only[E8,seval,hI]<;>rfl),rb⟩
  by_cases g2:0<s.now
  case neg =>
   refine⟨?s8, ?h8, ?q8⟩
   case h8 =>
    simp only[ZG,seval,Bool.false_and,Prod.mk.injEq,sH,hI,bt g,g2];rfl
   case q8=>exact⟨b,by and_intros<;>(simp only[E8,seval,hI]<;>rfl),rb⟩
  refine⟨?s9, ?h9, ?q9⟩
  case h9 =>
   simp only[ZG,seval,Bool.false_and,Prod.mk.injEq,sH,hI,bt g,g2];rfl
  case q9=>exact⟨_,by and_intros<;>(simp only[E8,seval,hI]<;>rfl),by exact⟨⟨iK _,rb.j,rb.f,rb.pj,rb.pf⟩,rb.rt⟩⟩
 case r6 =>
 clear hI rb
 clear b
 rintro st ⟨b,hI,rb⟩
 refine pQ (fun st=>∃b:Block,(st.aQ 11=0∧st.env 1=.v (.int .i64 n)∧st.env 2=.v (.int .i64 k)∧st.env 3=.ptr 3 0 0∧st.heap 3 0=some (.cells (aA s))∧st.env 6=.ptr 6 0 0∧st.heap 6 0=some (.cells (aV dY))∧st.env 7=.v (.int .i64 p)∧st.env 8=.ptr 8 0 0∧st.heap 8 0=some (.cells (fG (nd v.ns p)))∧st.env 9=.ptr 9 0 0∧st.heap 9 0=some (.cells (aV b)))∧BQ n v b) ?h8 ?r8
 case h8 =>
  by_cases g:((((k).fdiv (2 ^ min 12 IntKind.i64.bits))).tmod 16)=0
  case neg =>
   refine⟨?s10, ?h10, ?q10⟩
   case h10 =>
    simp only[ZG,seval,Bool.false_and,Prod.mk.injEq,sH,hI,bf g];rfl
   case q10=>exact⟨b,by and_intros<;>(simp only[E8,seval,hI]<;>rfl),rb⟩
  refine⟨?s11, ?h11, ?q11⟩
  case h11 =>
   simp only[ZG,seval,Bool.false_and,Prod.mk.injEq,sH,hI,bt g,Qg];rfl
  case q11=>exact⟨_,by and_intros<;>(simp only[E8,seval,hI]<;>rfl),by exact⟨⟨rb.sl,rb.j,rb.f,rb.pj,rb.pf⟩,rb.rt⟩⟩
 case r8 =>
 clear hI rb
 clear b
 rintro st ⟨b,hI,rb⟩
 refine pQ (fun st=>∃e:Int,(st.aQ 11=0∧st.env 1=.v (.int .i64 n)∧st.env 2=.v (.int .i64 k)∧st.env 3=.ptr 3 0 0∧st.heap 3 0=some (.cells (aA s))∧st.env 6=.ptr 6 0 0∧st.heap 6 0=some (.cells (aV dY))∧st.env 7=.v (.int .i64 p)∧st.env 8=.ptr 8 0 0∧st.heap 8 0=some (.cells (fG (nd v.ns p)))∧st.env 9=.ptr 9 0 0∧st.heap 9 0=some (.cells (aV b))∧st.env 10=.v (.int .u64 e))∧Rg e) ?h10 ?r10
 case h10 =>
  refine⟨?s12, ?h12, ?q12⟩
  case h12 =>
   simp only[ZG,seval,Bool.false_and,Prod.mk.injEq,sH,hI,Mq];rfl
  case q12=>exact⟨_,by and_intros<;>(simp only[E8,seval,hI]<;>rfl),iK _⟩
 case r10 =>
 clear hI
 rintro st ⟨e,hI,re⟩
 obtain⟨y,hy,c,rfl,rc⟩:=x92 h r p e re
 have Qx:=kx hy (mD h.sd.flat (.v _) (.v _)) (.agg _ (bM _))
 refine pQ (fun st=>∃b:Block,(st.env 1=.v (.int .i64 n)∧st.env 2=.v (.int .i64 k)∧st.env 3=.ptr 3 0 0∧st.heap 3 0=some (.cells (aA s))∧st.env 6=.ptr 6 0 0∧st.heap 6 0=some (.cells (aV dY))∧st.env 7=.v (.int .i64 p)∧st.env 8=.ptr 8 0 0∧st.heap 8 0=some (.cells (fG (nd v.ns p)))∧st.env 9=.ptr 9 0 0∧st.heap 9 0=some (.cells (aV b))∧st.env 10=.v (.int .u64 e))∧BQ n v b) ?h11 ?r11
 case h11 =>
  by_cases g:b.dW.pj.aG<c.aG
  case neg =>
   refine⟨?s13, ?h13, ?q13⟩
   case h13 =>
    simp only[ZG,seval,Bool.false_and,Prod.mk.injEq,sH,hI,Qx,g];rfl
   case q13=>exact⟨b,by and_intros<;>(simp only[E8,seval,hI]<;>rfl),rb⟩
  by_cases g2:((((k).fdiv (2 ^ min 13 IntKind.i64.bits))).tmod 2)=0
  case neg =>
   refine⟨?s14, ?h14, ?q14⟩
   case h14 =>
    simp only[ZG,seval,Bool.false_and,Prod.mk.injEq,sH,hI,Qx,g,bf g2];rfl
   case q14=>exact⟨b,by and_intros<;>(simp only[E8,seval,hI]<;>rfl),rb⟩
  by_cases g3:((((k).fdiv (2 ^ min 14 IntKind.i64.bits))).tmod 2)=0
  case neg =>
   refine⟨?s15, ?h15, ?q15⟩
   case h15 =>
    simp only[ZG,seval,Bool.false_and,Prod.mk.injEq,sH,hI,Qx,g,bt g2,bf g3];rfl
   case q15=>exact⟨_,by and_intros<;>(simp only[E8,seval,hI]<;>rfl),by exact⟨⟨rb.sl,rb.j,rb.f,rc,rb.pf⟩,rb.rt⟩⟩
  refine⟨?s16, ?h16, ?q16⟩
  case h16 =>
   simp only[ZG,seval,Bool.false_and,Prod.mk.injEq,sH,hI,Qx,g,bt g2,bt g3];rfl
  case q16=>exact⟨_,by and_intros<;>(simp only[E8,seval,hI]<;>rfl),by exact⟨⟨rb.sl,rb.j,rb.f,rc,rb.pj⟩,rb.rt⟩⟩
 case r11 =>
 clear hI rb
 clear b
 rintro st ⟨b,hI,rb⟩
 refine pQ (fun st=>∃b:Block,(st.env 1=.v (.int .i64 n)∧st.env 2=.v (.int .i64 k)∧st.env 3=.ptr 3 0 0∧st.heap 3 0=some (.cells (aA s))∧st.env 6=.ptr 6 0 0∧st.heap 6 0=some (.cells (aV dY))∧st.env 7=.v (.int .i64 p)∧st.env 8=.ptr 8 0 0∧st.heap 8 0=some (.cells (fG (nd v.ns p)))∧st.env 9=.ptr 9 0 0∧st.heap 9 0=some (.cells (aV b))∧st.env 10=.v (.int .u64 e))∧BQ n v b) ?h16 ?r16
 case h16 =>
  by_cases g:((((k).fdiv (2 ^ min 15 IntKind.i64.bits))).tmod 3)=0
  case neg =>
   refine⟨?s17, ?h17, ?q17⟩
   case h17 =>
    simp only[ZG,seval,Bool.false_and,Prod.mk.injEq,sH,hI,bf g];rfl
   case q17=>exact⟨b,by and_intros<;>(simp only[E8,seval,hI]<;>rfl),rb⟩
  by_cases g2:IntKind.u64.wrap ((nd v.ns p).block.slot.tdiv s.cFg.kE)<e
  case neg =>
   refine⟨?s18, ?h18, ?q18⟩
   case h18 =>
    simp only[ZG,seval,Bool.false_and,Prod.mk.injEq,sH,hI,bt g,Mq,g2];rfl
   case q18=>exact⟨b,by and_intros<;>(simp only[E8,seval,hI]<;>rfl),rb⟩
  refine⟨?s19, ?h19, ?q19⟩
  case h19 =>
   simp only[ZG,seval,Bool.false_and,Prod.mk.injEq,sH,hI,bt g,Mq,g2];rfl
  case q19=>exact⟨_,by and_intros<;>(simp only[E8,seval,hI]<;>rfl),by exact⟨⟨rb.sl,rN.pj,rN.pf,rb.pj,rb.pf⟩,rb.rt⟩⟩
 case r16 =>
 clear hI rb
 clear b
 rintro st ⟨b,hI,rb⟩
 refine pQ (fun st=>∃b:Block,(st.env 1=.v (.int .i64 n)∧st.env 2=.v (.int .i64 k)∧st.env 3=.ptr 3 0 0∧st.heap 3 0=some (.cells (aA s))∧st.env 6=.ptr 6 0 0∧st.heap 6 0=some (.cells (aV dY))∧st.env 7=.v (.int .i64 p)∧st.env 8=.ptr 8 0 0∧st.heap 8 0=some (.cells (fG (nd v.ns p)))∧st.env 9=.ptr 9 0 0∧st.heap 9 0=some (.cells (aV b))∧st.env 10=.v (.int .u64 e))∧BQ n v b) ?h18 ?r18
 case h18 =>
  by_cases g:(nd v.ns p).block.jK=dR
  case neg =>
   refine⟨?s20, ?h20, ?q20⟩
   case h20 =>
    simp only[ZG,seval,Bool.false_and,Prod.mk.injEq,sH,hI,g,Qg,pJ,Nat.reduceLT];rfl
   case q20=>exact⟨_,by and_intros<;>(simp only[E8,seval,hI]<;>rfl),by exact⟨⟨rb.sl,rb.j,rb.f,rb.pj,rb.pf⟩,rb.rt⟩⟩
  by_cases g2:((((k).fdiv (2 ^ min 16 IntKind.i64.bits))).tmod 3)=0
  case neg =>
   refine⟨?s21, ?Aj, ?q21⟩
   case Aj =>
    simp only[ZG,seval,Bool.false_and,Prod.mk.injEq,sH,hI,g,bf g2];rfl
   case q21=>exact⟨b,by and_intros<;>(simp only[E8,seval,hI]<;>rfl),rb⟩
  refine⟨?s22, ?Ca, ?q22⟩
  case Ca =>
   simp only[ZG,seval,Bool.false_and,Prod.mk.injEq,sH,hI,g,bt g2,Qg,pJ,Nat.reduceLT];rfl
  case q22=>exact⟨_,by and_intros<;>(simp only[E8,seval,hI]<;>rfl),by exact⟨⟨rb.sl,rb.j,rb.f,rb.pj,rb.pf⟩,rb.rt⟩⟩
 case r18 =>
 clear hI rb
 clear b
 rintro st ⟨b,hI,rb⟩
 obtain⟨w0,hw0,W,rfl⟩:=aQ7 ((k).fdiv (2 ^ min 3 IntKind.i64.bits))
 have k111:=kx hw0 (cU (.v _)) (.agg _ (iQ W))
 refine pQ (fun st=>∃b:Block,(st.env 1=.v (.int .i64 n)∧st.env 2=.v (.int .i64 k)∧st.env 3=.ptr 3 0 0∧st.heap 3 0=some (.cells (aA s))∧st.env 6=.ptr 6 0 0∧st.heap 6 0=some (.cells (aV dY))∧st.env 7=.v (.int .i64 p)∧st.env 8=.ptr 8 0 0∧st.heap 8 0=some (.cells (fG (nd v.ns p)))∧st.env 9=.ptr 9 0 0∧st.heap 9 0=some (.cells (aV b))∧st.env 10=.v (.int .u64 e))∧BQ n v b) ?Aj ?r21
 case Aj =>
  by_cases c0:((((k).fdiv (2 ^ min 18 IntKind.i64.bits))).tmod 24)=0
  ·skip
   refine⟨?s23, ?Wg, ?q23⟩
   case Wg =>
    simp only[ZG,seval,Bool.false_and,Prod.mk.injEq,sH,hI,bt c0,Qg];rfl
   case q23=>exact⟨_,by and_intros<;>(simp only[E8,seval,hI]<;>rfl),by exact⟨⟨rb.sl,rb.j,rb.f,rb.pj,rb.pf⟩,rb.rt⟩⟩
  by_cases c1:((((k).fdiv (2 ^ min 18 IntKind.i64.bits))).tmod 24)=1
  ·skip
   refine⟨?s24, ?h24, ?q24⟩
   case h24 =>
    simp only[ZG,seval,Bool.false_and,Prod.mk.injEq,sH,hI,bf c0,bt c1,k111];rfl
   case q24=>exact⟨_,by and_intros<;>(simp only[E8,seval,hI]<;>rfl),by exact⟨⟨rb.sl,rb.j,rb.f,rb.pj,rb.pf⟩,rb.rt⟩⟩
  by_cases c2:((((k).fdiv (2 ^ min 18 IntKind.i64.bits))).tmod 24)=2
  ·skip
   refine⟨?s25, ?h25, ?q25⟩
   case h25 =>
    simp only[ZG,seval,Bool.false_and,Prod.mk.injEq,sH,hI,bf c0,bf c1,bt c2,k111];rfl
   case q25=>exact⟨_,by and_intros<;>(simp only[E8,seval,hI]<;>rfl),by exact⟨⟨rb.sl,rb.j,rb.f,rb.pj,rb.pf⟩,rb.rt⟩⟩
  by_cases c3:((((k).fdiv (2 ^ min 18 IntKind.i64.bits))).tmod 24)=3
  ·skip
   refine⟨?s26, ?h26, ?q26⟩
   case h26 =>
    simp only[ZG,seval,Bool.false_and,Prod.mk.injEq,sH,hI,bf c0,bf c1,bf c2,bt c3];rfl
   case q26=>exact⟨_,by and_intros<;>(simp only[E8,seval,hI]<;>rfl),by exact⟨⟨rb.sl,rb.j,rb.f,iK _,rb.pf⟩,rb.rt⟩⟩
  by_cases c4:((((k).fdiv (2 ^ min 18 IntKind.i64.bits))).tmod 24)=4
  ·skip
   refine⟨?s27, ?h27, ?q27⟩
   case h27 =>
    simp only[ZG,seval,Bool.false_and,Prod.mk.injEq,sH,hI,bf c0,bf c1,bf c2,bf c3,bt c4];rfl
   case q27=>exact⟨_,by and_intros<;>(simp only[E8,seval,hI]<;>rfl),by exact⟨⟨iK _,rb.j,rb.f,rb.pj,rb.pf⟩,rb.rt⟩⟩
  by_cases c5:((((k).fdiv (2 ^ min 18 IntKind.i64.bits))).tmod 24)=5
  ·skip
   refine⟨?s28, ?h28, ?q28⟩
   case h28 =>
    simp only[ZG,seval,Bool.false_and,Prod.mk.injEq,sH,hI,bf c0,bf c1,bf c2,bf c3,bf c4,bt c5,h.sd.tree,gR,m3,m4];rfl
   case q28=>exact⟨_,by and_intros<;>(simp only[E8,seval,hI]<;>rfl),by exact⟨⟨rb.sl,rb.j,rb.f,rb.pj,rb.pf⟩,.inr ⟨_,Qt m3 m4,rfl⟩⟩⟩
  by_cases c6:((((k).fdiv (2 ^ min 18 IntKind.i64.bits))).tmod 24)=6
  ·skip
   refine⟨?s29, ?h29, ?q29⟩
   case h29 =>
    simp only[ZG,seval,Bool.false_and,Prod.mk.injEq,sH,hI,bf c0,bf c1,bf c2,bf c3,bf c4,bf c5,bt c6,Qg];rfl
   case q29=>exact⟨_,by and_intros<;>(simp only[E8,seval,hI]<;>rfl),by exact⟨⟨rb.sl,rb.j,rb.f,rb.pj,rb.pf⟩,rb.rt⟩⟩
  by_cases c7:((((k).fdiv (2 ^ min 18 IntKind.i64.bits))).tmod 24)=7
  ·skip
   refine⟨?s30, ?h30, ?q30⟩
   case h30 =>
    simp only[ZG,seval,Bool.false_and,Prod.mk.injEq,sH,hI,bf c0,bf c1,bf c2,bf c3,bf c4,bf c5,bf c6,bt c7];rfl
   case q30=>exact⟨_,by and_intros<;>(simp only[E8,seval,hI]<;>rfl),by exact⟨⟨rb.sl,rb.j,rb.f,rb.pj,rb.pf⟩,rb.rt⟩⟩
  refine⟨?s31, ?h31, ?q31⟩
  case h31 =>
   simp only[ZG,seval,Bool.false_and,Prod.mk.injEq,sH,hI,bf c0,bf c1,bf c2,bf c3,bf c4,bf c5,bf c6,bf c7];rfl
  case q31=>exact⟨b,by and_intros<;>(simp only[E8,seval,hI]<;>rfl),rb⟩
 case r21 =>
 clear hI rb
 clear b
 rintro st ⟨b,hI,rb⟩
 simp only[ZG,seval,Bool.false_and,Prod.mk.injEq,sH,hI];exact⟨_,fK rfl (by simp only[E8,seval,hI]<;>rfl) (by simp only[Z8,seval,hI]<;>rfl) (by simp only[dV,and_self,hI]),b,rfl,rb⟩
end Go.Ab.Tryz
end
namespace Go.Ab.Tryz
open Classical Go.Proofs Go.Ab
def Fi (st st':St):Prop:=(∀s g,g<st.aQ s→st'.heap s g=st.heap s g)∧∀s,st.aQ s≤st'.aQ s
theorem aRq:aC 0 3 (some 2)=[]∧aC 1 17 (some 6)=[]∧aC 2 2 (some 21)=[]:=⟨rfl,rfl,rfl⟩
theorem aFj {s:aL} {v:SV} (hs:SD s v) (X:AV) (a:sC) (V:Option (List Int)) (ha:a.eU=ov aK V) (hV:((ol V).length:Int)<1000000) (hr:∀x∈ol V,0≤x∧x<(ol v.L).length) :
 ∃G:St→St,∀st,pR Tryz.prog 44 [.agg (aA (wS s X)),.agg (iB a)] st=some (.agg (aA (wS (Qq s v a (ol V)) X)),G st)∧Fi st (G st):=by
 have one:∀st,∃st',pR Tryz.prog 44 [.agg (aA (wS s X)),.agg (iB a)] st=some (.agg (aA (wS (Qq s v a (ol V)) X)),st')∧Fi st st':=by
  intro st;have hl:(wS s X).gH.eA=ov dC v.L:=hs.eA
  rw[Bj Tryz.prog Tryz.func44 rfl (by kernel_rfl)]
  simp only[ZG,seval,Bool.false_and,Prod.mk.injEq,aRq,hl,ha,aK4 v.L hs.nL _ _ V hV hr,dM];refine⟨_,wV (P:=Tryz.prog) (fn:=Tryz.f44) (r:=.cell 4 53) (x:=.agg (aA (wS (Qq s v a (ol V)) X))) (.inl rfl) rfl ?h1, ?h2⟩
  case h1 =>
   rw[rH];simp only[bY,Z8,seval];unfold wS Qq;simp only[ov,Qp]
  case h2 =>
   refine⟨fun x g hg=>?_,fun x=>?_⟩
   ·have n2:(x=2∧g=st.aQ 2)=False:=eq_false (by rintro⟨rfl,rfl⟩;omega)
    have n3:(x=3∧g=st.aQ 3)=False:=eq_false (by rintro⟨rfl,rfl⟩;omega)
    have n4:(x=4∧g=st.aQ 4)=False:=eq_false (by rintro⟨rfl,rfl⟩;omega)
    simp only[E8,seval,aT,aX,n2,n3,n4,if_false]
   ·simp only[E8,seval,aT,aX];split<;>(try split)<;>(try split)<;>subst_vars<;>omega
 exact⟨fun st=>Classical.choose (one st),fun st=>Classical.choose_spec (one st)⟩
theorem EO {cs:List AV} (h:∀c∈cs,Flat c):cs.flatMap hU=[]:=List.flatMap_eq_nil_iff.2 fun c hc=>by have:=h c hc;cases this<;>rfl
theorem aFk {c:AV} (h:Flat c):hU c=[]:=by cases h<;>rfl
theorem S9 {s:aL} {v:SV} (h:SD s v) (a g:Nat):jE (.agg (aA (mR s (.own a g))))=[(a,g)]:=by
 obtain⟨h1,h2,h3,h4,h5,h6,h7⟩:=h.fl
 show (aA (mR s (.own a g))).flatMap hU=[(a,g)]
 unfold mR aA jU;simp only[List.flatMap_append,List.flatMap_cons,List.flatMap_nil,List.append_nil];rw[EO (tY _ h1),EO (qT _ h2 h3),EO (lC _),EO (wO _ h6),EO (eC _),EO (dT _)];have e4:hU s.cD.early=[]:=aFk h4
 have e7:hU s.tables=[]:=aFk h7
 simp only[e4,e7,List.nil_append,List.append_nil];rfl
theorem aCz {s:aL} {v:SV} (h:SD s v) (a g:Nat):YK (.agg (aA (mR s (.own a g)))):=by
 obtain⟨h1,h2,h3,h4,h5,h6,h7⟩:=h.fl
 refine .inr (.inr ⟨_,rfl,fun c hc=>?_⟩)
 unfold mR aA jU at hc;simp only[List.mem_append,List.mem_singleton] at hc;rcases hc with hc|hc|hc|(hc|hc)|hc|hc|hc|hc
 ·exact .inl (tY _ h1 _ hc)
 ·exact .inl (qT _ h2 h3 _ hc)
 ·exact .inl (lC _ _ hc)
 ·exact .inl (hc ▸ h4)
 ·exact .inr ⟨a,g,hc⟩
 ·exact .inl (wO _ h6 _ hc)
 ·exact .inl (eC _ _ hc)
 ·exact .inl (dT _ _ hc)
 ·exact .inl (hc ▸ h7)
theorem aMl {s:aL} {v:SV} {q:Int} (h:GI s v q) {b:Block} (hb:Kg s v b=0) (st:St) (d:Option Nat):fF (aB Tryz.prog) 217 [.agg (aA s),.agg (aV b)] st d=some { dst:=d,val:=.agg (aA (sV s v b))}:=Hg (bE h.sd.flat (tF b)) (aK5 h hb) (h.ins hb).sd.flat
theorem aFl {s:aL} {v:SV} {q:Int} (h0:SD s v) {O:List Block} (h:GI (mR s (ov aF (some O))) { v with O:=some O } q) {b:Block} (hb:Kg (mR s (ov aF (some O))) { v with O:=some O } b=0) (a g:Nat) (st:St) (d:Option Nat) (hh:st.heap a g=some (.row 74 238 O.length (aF O))) :
 fF (aB Tryz.prog) 217 [.agg (aA (mR s (.own a g))),.agg (aV b)] st d=some { dst:=d,val:=.agg (aA (sV (mR s (ov aF (some O))) { v with O:=some O } b)),dQ:=some (a,g,none)}:=by
 rw[Nw (s:=a) (k:=g) (by rw[List.flatMap_cons,List.flatMap_cons,List.flatMap_nil,S9 h0,vQ (tF b)];rfl) (by intro x hx;simp only[List.mem_cons,List.not_mem_nil,or_false] at hx;rcases hx with rfl|rfl;exact aCz h0 a g;exact .inl (tF b)),
  List.map_cons,List.map_cons,List.map_nil,zM h0 st hh,Lk,bN,bN,fR]
 exact MN (aK5 h hb) (h.ins hb).sd.flat
theorem aRr {s:aL} {v:SV} {q:Int} (h0:SD s v) {O:List Block} (h:GI (mR s (ov aF (some O))) { v with O:=some O } q) (b:Block) (a g:Nat) (st:St) (d:Option Nat) (hh:st.heap a g=some (.row 74 238 O.length (aF O))) :
 aN (aB Tryz.prog) 52 [.agg (aA (mR s (.own a g))),.agg (aV b)] st d=some { dst:=d,val:=.v (.int .i64 (Kg (mR s (ov aF (some O))) { v with O:=some O } b))}:=by
 rw[jS,List.map_cons,List.map_cons,List.map_nil,zM h0 st hh,Lk,bN,bN,fR];exact Su (c52 h.sd h.up h.sp b)
theorem aMm {s:aL} {v:SV} {q:Int} (h0:SD s v) {O:List Block} (h:GI (mR s (ov aF (some O))) { v with O:=some O } q) (a g:Nat) (st:St) (d:Option Nat) (hh:st.heap a g=some (.row 74 238 O.length (aF O))) :
 aN (aB Tryz.prog) 218 [.agg (aA (mR s (.own a g)))] st d=some { dst:=d,val:=.v (.int .i64 (BH { v with O:=some O }))}:=by
 rw[jS,List.map_cons,List.map_nil,zM h0 st hh,bN,fR];exact Su (aK1 h.sd)
theorem sX {s:aL} {v:SV} (h:SD s v):mR s (ov aF v.O)=s:=by unfold mR;rw[← h.bK]
def kO:Code→Code
 | .loop b=>.loop b
 | .seq a b=>match kO a with
   | .skip=>kO b
   | c=>c
 | .cond _ a b=>match kO a with
   | .skip=>kO b
   | c=>c
 | .block _ b=>kO b
 | _=>.skip
noncomputable def Bk:Code:=kO (Tryz.f203.body.getD .skip)
def aRs (s:aL) (v:SV) (q:Int) (m:Nat) (st:St):Prop:=∃(S0:aL) (w:SV) (X:AV) (R:List cJ) (a g:Nat),((st).env 2=.ptr 2 0 0∧(st).heap 2 0=some (.cells (aA (mR S0 X)))∧(st).env 4=.ptr 4 0 0∧(st).heap 4 0=some (.cells (aA fZ))∧(st).env 9=.own a g∧(st).heap a g=some (.row 27 32 R.length (gY R))∧(st).env 10=.v (.int .i64 (BH w)))∧((a=66∧g=0)∨(a=105∧g<st.aQ 105))∧(X=ov aF w.O∨∃g' L,w.O=some L∧X=.own 91 g'∧g'<st.aQ 91∧st.heap 91 g'=some (.row 74 238 L.length (aF L)))∧GI S0 w q∧RG S0 w∧S0.cFg=s.cFg∧R.length+(ol w.O).length≤1+(ol v.O).length∧m=(ol w.O).length
def D4 (s:aL) (v:SV) (q:Int) (e:Ex) (st:St):Prop:=e=.exit 0∧∃(S0:aL) (w:SV) (X:AV) (R:List cJ) (a g:Nat),(st.env 2=.ptr 2 0 0∧st.heap 2 0=some (.cells (aA (mR S0 X)))∧st.env 4=.ptr 4 0 0∧st.heap 4 0=some (.cells (aA fZ))∧st.env 9=.own a g∧st.heap a g=some (.row 27 32 R.length (gY R)))∧a≠4∧(X=ov aF w.O∨∃g' L,w.O=some L∧X=.own 91 g'∧st.heap 91 g'=some (.row 74 238 L.length (aF L)))∧GI S0 w q∧RG S0 w∧S0.cFg=s.cFg∧R.length≤1+(ol v.O).length
theorem GZ {s:aL} {v:SV} {q:Int} (nb:((ol v.O).length:Int)≤64) {m:Nat} {st:St} (hs:aRs s v q m st):∃e st',zC Tryz.prog Bk st=some (e,st')∧D4 s v q e st':=by
 have key:∃r,cS (zC Tryz.prog Bk st) some=some r∧D4 s v q r.1 r.2:=by
  unfold Bk;simp only[Tryz.f203,Option.getD_some,kO];refine cF (fun m st=>∃(S0:aL) (w:SV) (X:AV) (R:List cJ) (a g:Nat),((st).env 2=.ptr 2 0 0∧(st).heap 2 0=some (.cells (aA (mR S0 X)))∧(st).env 4=.ptr 4 0 0∧(st).heap 4 0=some (.cells (aA fZ))∧(st).env 9=.own a g∧(st).heap a g=some (.row 27 32 R.length (gY R))∧(st).env 10=.v (.int .i64 (BH w)))∧((a=66∧g=0)∨(a=105∧g<st.aQ 105))∧(X=ov aF w.O∨∃g' L,w.O=some L∧X=.own 91 g'∧g'<st.aQ 91∧st.heap 91 g'=some (.row 74 238 L.length (aF L)))∧GI S0 w q∧RG S0 w∧S0.cFg=s.cFg∧R.length+(ol w.O).length≤1+(ol v.O).length∧m=(ol w.O).length) (fun e st=>e=.exit 0∧∃(S0:aL) (w:SV) (X:AV) (R:List cJ) (a g:Nat),(st.env 2=.ptr 2 0 0∧st.heap 2 0=some (.cells (aA (mR S0 X)))∧st.env 4=.ptr 4 0 0∧st.heap 4 0=some (.cells (aA fZ))∧st.env 9=.own a g∧st.heap a g=some (.row 27 32 R.length (gY R)))∧a≠4∧(X=ov aF w.O∨∃g' L,w.O=some L∧X=.own 91 g'∧st.heap 91 g'=some (.row 74 238 L.length (aF L)))∧GI S0 w q∧RG S0 w∧S0.cFg=s.cFg∧R.length≤1+(ol v.O).length) m ?step ?start ?rest
  case start=>exact hs
  case rest=>exact fun e st h=>⟨_,rfl,h⟩
  case step =>
   clear hs
   rintro m st ⟨S0,w,X,R,a,g,hI,GW,hX,hG,oL,hC,hR,hm⟩
   have hlO:=hG.nO
   have hlB:=hG.MI
   by_cases bA:0≤BH w
   case neg =>
    have hI':=hI
    have hX':X=ov aF w.O∨∃g' L,w.O=some L∧X=.own 91 g'∧st.heap 91 g'=some (.row 74 238 L.length (aF L)):=hX.imp id fun ⟨g',L,h1,h2,_,h4⟩=>⟨g',L,h1,h2,h4⟩
    apply oT (.exit 0)
    ·simp only[Z8,seval,hI,bA];rfl
    ·exact⟨rfl,S0,w,X,R,a,g,by simp only[E8,seval,hI],by omega,by simpa only[E8,seval] using hX',hG,oL,hC,by omega⟩
   obtain⟨k,hk,hkp,hkw⟩:∃k:Nat,k<(ol w.O).length∧0≤aM w.ns (gx dY (ol w.O) k).parent∧BH w=k:=by
    rcases qZ (fun k=>0≤aM w.ns (gx dY (ol w.O) k).parent) (ol w.O).length with ⟨e,_⟩|⟨k,h1,h2,_,h3⟩
    ·have:BH w=-1:=e;omega
    ·exact⟨k,h1,h2,h3⟩
   rw[hkw] at hI bA;have q0:(0:Int)≤k:=by omega
   have q1:(k:Int)<((ol w.O).length:Int):=by omega
   have q2:(k:Int)≤((ol w.O).length:Int):=by omega
   have q3:(0:Int)≤((k+1:Nat):Int):=by omega
   have q4:((k+1:Nat):Int)≤((ol w.O).length:Int):=by omega
   have hw:IntKind.i64.wrap ((k:Int)+1)=((k+1:Nat):Int):=by rw[mZ _ (by omega) (by omega)];omega
   obtain⟨bb,xH⟩:∃bb,gx dY (ol w.O) (k:Int)=bb:=⟨_,rfl⟩
   have n1:((((ol w.O).take k).length:Nat):Int)<1000000:=by rw[List.length_take];omega
   have n2:((((ol w.O).drop (k+1)).length:Nat):Int)<1000000:=by rw[List.length_drop];omega
   obtain⟨LL,AZ⟩:∃LL,(ol w.O).take k++(ol w.O).drop (k+1)=LL:=⟨_,rfl⟩
   have nl:LL.length+1=(ol w.O).length:=by rw[← AZ,List.length_append,List.length_take,List.length_drop];omega
   have hmem:∀b∈LL,b∈ol w.O:=fun b hb=>by rw[← AZ] at hb;exact (List.mem_append.1 hb).elim List.mem_of_mem_take List.mem_of_mem_drop
   have nR:(R.length:Int)<1000000:=by omega
   have hbm:bb∈ol w.O:=by rw[← xH];exact pF q0 q1
   have e1:ol (w.O.map (·.take k))=(ol w.O).take k:=by cases w.O<;>simp[ol]
   have e2:ol (w.O.map (·.drop (k+1)))=(ol w.O).drop (k+1):=by cases w.O<;>simp[ol]
   by_cases hz:LL=[]
   ·skip
    have hT:((ol w.O).take k).length=0:=by have:=congrArg List.length AZ;rw[hz,List.length_append] at this;simp only[List.length_nil] at this;omega
    have hD:((ol w.O).drop (k+1)).length=0:=by have:=congrArg List.length AZ;rw[hz,List.length_append] at this;simp only[List.length_nil] at this;omega
    have yC:(ol w.O).length=1:=by rw[hz] at nl;simpa using nl.symm
    have Ny:=hG.UG none (by show ((0:Nat):Int)≤_;omega)
    have Dd:RG (mR S0 (ov aF none)) { w with O:=none }:=oL.UG none (ov aF none) (fun b hb=>by cases hb) nofun
    have Xl:∀(st:St) (d:Option Nat),aN (aB Tryz.prog) 52 [.agg (aA (mR S0 (.v (.slice none 0 0)))),.agg (aV bb)] st d=_:=k52 Ny.sd Ny.up Ny.sp bb
    have Ki:∀(st:St) (d:Option Nat),aN (aB Tryz.prog) 218 [.agg (aA (mR S0 (.v (.slice none 0 0))))] st d=_:=MF Ny.sd
    have hO2:(ol (lH (mR S0 (ov aF none)) { w with O:=none } bb).O).length≤0:=UI _ _ _
    obtain⟨c,hc⟩:∃c,Kg (mR S0 (ov aF none)) { w with O:=none } bb=c:=⟨_,rfl⟩
    rw[hc] at Xl;by_cases qQ:c=0
    ·rw[qQ] at hc;have Ll:=Ny.ins hc
     have De:=Dd.ins (oL.or bb hbm) hc
     have MW:=(Bh (mR S0 (ov aF none)) { w with O:=none } bb).1
     have EP:∀(st:St) (d:Option Nat),fF (aB Tryz.prog) 217 [.agg (aA (mR S0 (.v (.slice none 0 0)))),.agg (aV bb)] st d=_:=aMl Ny hc
     have pS:=MF Ll.sd
     obtain⟨S2,hS2⟩:∃S2,sV (mR S0 (ov aF none)) { w with O:=none } bb=S2:=⟨_,rfl⟩
     rw[hS2] at EP Ll De pS MW
     have Lm:=sX Ll.sd
     simp only[mR] at Xl Ki EP hI;rcases hX with rfl|⟨g',L,hL,rfl,hg1,MX⟩
     ·rcases GW with ⟨rfl,rfl⟩|⟨rfl,hg⟩
      ·refine oX (st':=?_) ?_ ((ol (lH (mR S0 (ov aF none)) { w with O:=none } bb).O).length) (by omega) ?_
       rotate_left
       ·simp only[Z8,seval,hI,bA,q0,q1,q2,q3,q4,hw,xH,Int.toNat_natCast,iL,iM,nK,Option.isSome_some,Option.map_some,Option.some.injEq,hT,hD,Xl,Ki,e1,e2,bt qQ,EP,pS,oM _ _ _ _ nR];rfl
       ·refine⟨S2,lH (mR S0 (ov aF none)) { w with O:=none } bb,_,R++[bb.root],105,st.aQ 105, ?_,.inr ⟨rfl,by simp only[E8,seval]<;>omega⟩,.inl rfl,Ll,De,MW.trans hC, ?_,rfl⟩
        ·rw[Lm];simp only[E8,seval,hI]<;>rfl
        ·rw[List.length_append,List.length_cons,List.length_nil];omega
      ·have uV:(g=st.aQ 105)=False:=eq_false (by omega)
       refine oX (st':=?_) ?_ ((ol (lH (mR S0 (ov aF none)) { w with O:=none } bb).O).length) (by omega) ?_
       rotate_left
       ·simp only[Z8,seval,hI,bA,q0,q1,q2,q3,q4,hw,xH,Int.toNat_natCast,iL,iM,nK,Option.isSome_some,Option.map_some,Option.some.injEq,hT,hD,Xl,Ki,e1,e2,uV,bt qQ,EP,pS,oM _ _ _ _ nR];rfl
       ·refine⟨S2,lH (mR S0 (ov aF none)) { w with O:=none } bb,_,R++[bb.root],105,st.aQ 105, ?_,.inr ⟨rfl,by simp only[E8,seval]<;>omega⟩,.inl rfl,Ll,De,MW.trans hC, ?_,rfl⟩
        ·rw[Lm];simp only[E8,seval,hI]<;>rfl
        ·rw[List.length_append,List.length_cons,List.length_nil];omega
     ·have eL:ol w.O=L:=by rw[hL];rfl
      have MY:(g'=st.aQ 91)=False:=eq_false (by omega)
      obtain⟨X1,MZ,Hi⟩:=Qs (L:=L) (k:=k) (by rw[← eL];omega) 91 g'
      obtain⟨X2,NA,Hj⟩:=Da (L:=L) (k:=k+1) (by rw[← eL];omega) 91 g'
      have Xm:(k:Int)<(L.length:Int):=by rw[← eL];omega
      have Xn:=wW (T:=74) (n:=L.length) (k:=238) q0 Xm NB (by decide) (by decide)
      simp only[Int.toNat_natCast] at Xn;subst eL;rcases GW with ⟨rfl,rfl⟩|⟨rfl,hg⟩
      ·refine oX (st':=?_) ?_ ((ol (lH (mR S0 (ov aF none)) { w with O:=none } bb).O).length) (by omega) ?_
       rotate_left
       ·simp only[Z8,seval,hI,bA,q0,q1,q2,q3,q4,hw,xH,Int.toNat_natCast,iL,iM,nK,Option.isSome_some,Option.map_some,Option.some.injEq,hT,hD,Xl,Ki,MX,MY,MZ _ _,Hi,NA _ _,Hj,Xm,Xn,bt qQ,EP,pS,oM _ _ _ _ nR];rfl
       ·refine⟨S2,lH (mR S0 (ov aF none)) { w with O:=none } bb,_,R++[bb.root],105,st.aQ 105, ?_,.inr ⟨rfl,by simp only[E8,seval]<;>omega⟩,.inl rfl,Ll,De,MW.trans hC, ?_,rfl⟩
        ·rw[Lm];simp only[E8,seval,hI]<;>rfl
        ·rw[List.length_append,List.length_cons,List.length_nil];omega
      ·have uV:(g=st.aQ 105)=False:=eq_false (by omega)
       refine oX (st':=?_) ?_ ((ol (lH (mR S0 (ov aF none)) { w with O:=none } bb).O).length) (by omega) ?_
       rotate_left
       ·simp only[Z8,seval,hI,bA,q0,q1,q2,q3,q4,hw,xH,Int.toNat_natCast,iL,iM,nK,Option.isSome_some,Option.map_some,Option.some.injEq,hT,hD,Xl,Ki,MX,MY,MZ _ _,Hi,NA _ _,Hj,Xm,Xn,uV,bt qQ,EP,pS,oM _ _ _ _ nR];rfl
       ·refine⟨S2,lH (mR S0 (ov aF none)) { w with O:=none } bb,_,R++[bb.root],105,st.aQ 105, ?_,.inr ⟨rfl,by simp only[E8,seval]<;>omega⟩,.inl rfl,Ll,De,MW.trans hC, ?_,rfl⟩
        ·rw[Lm];simp only[E8,seval,hI]<;>rfl
        ·rw[List.length_append,List.length_cons,List.length_nil];omega
    ·simp only[mR] at Xl Ki hI;rcases hX with rfl|⟨g',L,hL,rfl,hg1,MX⟩
     ·rcases GW with ⟨rfl,rfl⟩|⟨rfl,hg⟩
      ·refine oX (st':=?_) ?_ 0 (by omega) ?_
       rotate_left
       ·simp only[Z8,seval,hI,bA,q0,q1,q2,q3,q4,hw,xH,Int.toNat_natCast,iL,iM,nK,Option.isSome_some,Option.map_some,Option.some.injEq,hT,hD,Xl,Ki,e1,e2,bf qQ];rfl
       ·refine⟨(mR S0 (ov aF none)),{ w with O:=none },ov aF none,R,_,_, ?_,.inl ⟨rfl,rfl⟩,.inl rfl,Ny,Dd,hC,by show R.length+0≤_;omega,rfl⟩
        simp only[E8,seval,hI]<;>rfl
      ·have uV:(g=st.aQ 105)=False:=eq_false (by omega)
       refine oX (st':=?_) ?_ 0 (by omega) ?_
       rotate_left
       ·simp only[Z8,seval,hI,bA,q0,q1,q2,q3,q4,hw,xH,Int.toNat_natCast,iL,iM,nK,Option.isSome_some,Option.map_some,Option.some.injEq,hT,hD,Xl,Ki,e1,e2,uV,bf qQ];rfl
       ·refine⟨(mR S0 (ov aF none)),{ w with O:=none },ov aF none,R,_,_, ?_,.inr ⟨rfl,by simp only[E8,seval]<;>omega⟩,.inl rfl,Ny,Dd,hC,by show R.length+0≤_;omega,rfl⟩
        simp only[E8,seval,hI]<;>rfl
     ·have eL:ol w.O=L:=by rw[hL];rfl
      have MY:(g'=st.aQ 91)=False:=eq_false (by omega)
      obtain⟨X1,MZ,Hi⟩:=Qs (L:=L) (k:=k) (by rw[← eL];omega) 91 g'
      obtain⟨X2,NA,Hj⟩:=Da (L:=L) (k:=k+1) (by rw[← eL];omega) 91 g'
      have Xm:(k:Int)<(L.length:Int):=by rw[← eL];omega
      have Xn:=wW (T:=74) (n:=L.length) (k:=238) q0 Xm NB (by decide) (by decide)
      simp only[Int.toNat_natCast] at Xn;subst eL;rcases GW with ⟨rfl,rfl⟩|⟨rfl,hg⟩
      ·refine oX (st':=?_) ?_ 0 (by omega) ?_
       rotate_left
       ·simp only[Z8,seval,hI,bA,q0,q1,q2,q3,q4,hw,xH,Int.toNat_natCast,iL,iM,nK,Option.isSome_some,Option.map_some,Option.some.injEq,hT,hD,Xl,Ki,MX,MY,MZ _ _,Hi,NA _ _,Hj,Xm,Xn,bf qQ];rfl
       ·refine⟨(mR S0 (ov aF none)),{ w with O:=none },ov aF none,R,_,_, ?_,.inl ⟨rfl,rfl⟩,.inl rfl,Ny,Dd,hC,by show R.length+0≤_;omega,rfl⟩
        simp only[E8,seval,hI]<;>rfl
      ·have uV:(g=st.aQ 105)=False:=eq_false (by omega)
       refine oX (st':=?_) ?_ 0 (by omega) ?_
       rotate_left
       ·simp only[Z8,seval,hI,bA,q0,q1,q2,q3,q4,hw,xH,Int.toNat_natCast,iL,iM,nK,Option.isSome_some,Option.map_some,Option.some.injEq,hT,hD,Xl,Ki,MX,MY,MZ _ _,Hi,NA _ _,Hj,Xm,Xn,uV,bf qQ];rfl
       ·refine⟨(mR S0 (ov aF none)),{ w with O:=none },ov aF none,R,_,_, ?_,.inr ⟨rfl,by simp only[E8,seval]<;>omega⟩,.inl rfl,Ny,Dd,hC,by show R.length+0≤_;omega,rfl⟩
        simp only[E8,seval,hI]<;>rfl
   have BK:(LL.length=0)=False:=eq_false fun h=>hz (List.length_eq_zero_iff.1 h)
   have Ny:=hG.UG (some LL) (by show ((LL.length:Nat):Int)≤_;omega)
   have sI:=aRr hG.sd Ny bb 91
   have oO:=aMm hG.sd Ny 91
   have hO2:(ol (lH (mR S0 (ov aF (some LL))) { w with O:=some LL } bb).O).length≤LL.length:=UI _ _ _
   obtain⟨c,hc⟩:∃c,Kg (mR S0 (ov aF (some LL))) { w with O:=some LL } bb=c:=⟨_,rfl⟩
   rw[hc] at sI
   have Dd:=oL.UG (some LL) (ov aF (some LL)) (fun b hb=>oL.or b (hmem b hb)) (fun e=>hz (by injection e))
   have eO:∀x,mR (mR S0 (ov aF (some LL))) x=mR S0 x:=fun x=>rfl
   by_cases qA:k=0
   ·have hT:((ol w.O).take k).length=0:=by rw[qA];rfl
    have hD:(ol w.O).drop (k+1)=LL:=by rw[← AZ,qA];rfl
    have n3:((LL.length:Nat):Int)<1000000:=by omega
    by_cases qQ:c=0
    · -- taken in
     rw[qQ] at hc;have Ll:=Ny.ins hc
     have De:=Dd.ins (oL.or bb hbm) hc
     have MW:=(Bh (mR S0 (ov aF (some LL))) { w with O:=some LL } bb).1
     have vU:=aFl hG.sd Ny hc 91
     have pS:=MF Ll.sd
     obtain⟨S2,hS2⟩:∃S2,sV (mR S0 (ov aF (some LL))) { w with O:=some LL } bb=S2:=⟨_,rfl⟩
     rw[hS2] at vU Ll De pS MW
     have Lm:=sX Ll.sd
     have HA:(ol (lH (mR S0 (ov aF (some LL))) { w with O:=some LL } bb).O).length<m:=by omega
     have HB:(R++[bb.root]).length+(ol (lH (mR S0 (ov aF (some LL))) { w with O:=some LL } bb).O).length≤1+(ol v.O).length:=by rw[List.length_append,List.length_cons,List.length_nil];omega
     simp only[mR] at sI oO vU hI
     rcases hX with rfl|⟨g',L,hL,rfl,hg1,MX⟩
     · -- a list
      rcases GW with ⟨rfl,rfl⟩|⟨rfl,hg⟩
      · -- 66
       refine oX (st':=?_) ?_ ((ol (lH (mR S0 (ov aF (some LL))) { w with O:=some LL } bb).O).length) HA ?_
       rotate_left
       ·simp only[Z8,seval,hI,bA,q0,q1,q2,q3,q4,hw,xH,Int.toNat_natCast,iV _ n3,iL,iM,nK,Option.isSome_some,Option.map_some,Option.some.injEq,hT,BK,hD,sI,oO,e1,e2,bt qQ,vU,pS,oM _ _ _ _ nR];rfl
       ·refine⟨S2,lH (mR S0 (ov aF (some LL))) { w with O:=some LL } bb,_,R++[bb.root],105,st.aQ 105, ?_,.inr ⟨rfl,by simp only[E8,seval]<;>omega⟩,.inl rfl,Ll,De,MW.trans hC, ?_,rfl⟩
        ·rw[Lm];simp only[E8,seval,hI]<;>rfl
        ·exact HB
      · -- 105
       have uV:(g=st.aQ 105)=False:=eq_false (by omega)
       refine oX (st':=?_) ?_ ((ol (lH (mR S0 (ov aF (some LL))) { w with O:=some LL } bb).O).length) HA ?_
       rotate_left
       ·simp only[Z8,seval,hI,bA,q0,q1,q2,q3,q4,hw,xH,Int.toNat_natCast,iV _ n3,iL,iM,nK,Option.isSome_some,Option.map_some,Option.some.injEq,hT,BK,hD,sI,oO,e1,e2,uV,bt qQ,vU,pS,oM _ _ _ _ nR];rfl
       ·refine⟨S2,lH (mR S0 (ov aF (some LL))) { w with O:=some LL } bb,_,R++[bb.root],105,st.aQ 105, ?_,.inr ⟨rfl,by simp only[E8,seval]<;>omega⟩,.inl rfl,Ll,De,MW.trans hC, ?_,rfl⟩
        ·rw[Lm];simp only[E8,seval,hI]<;>rfl
        ·exact HB
     · -- a row of its own
      have eL:ol w.O=L:=by rw[hL];rfl
      have MY:(g'=st.aQ 91)=False:=eq_false (by omega)
      obtain⟨X1,MZ,Hi⟩:=Qs (L:=L) (k:=k) (by rw[← eL];omega) 91 g'
      obtain⟨X2,NA,Hj⟩:=Da (L:=L) (k:=k+1) (by rw[← eL];omega) 91 g'
      have Xm:(k:Int)<(L.length:Int):=by rw[← eL];omega
      have Xn:=wW (T:=74) (n:=L.length) (k:=238) q0 Xm NB (by decide) (by decide)
      simp only[Int.toNat_natCast] at Xn;subst eL;rcases GW with ⟨rfl,rfl⟩|⟨rfl,hg⟩
      · -- 66
       refine oX (st':=?_) ?_ ((ol (lH (mR S0 (ov aF (some LL))) { w with O:=some LL } bb).O).length) HA ?_
       rotate_left
       ·simp only[Z8,seval,hI,bA,q0,q1,q2,q3,q4,hw,xH,Int.toNat_natCast,iV _ n3,iL,iM,nK,Option.isSome_some,Option.map_some,Option.some.injEq,hT,BK,hD,sI,oO,MX,MY,MZ _ _,Hi,NA _ _,Hj,Xm,Xn,bt qQ,vU,pS,oM _ _ _ _ nR];rfl
       ·refine⟨S2,lH (mR S0 (ov aF (some LL))) { w with O:=some LL } bb,_,R++[bb.root],105,st.aQ 105, ?_,.inr ⟨rfl,by simp only[E8,seval]<;>omega⟩,.inl rfl,Ll,De,MW.trans hC, ?_,rfl⟩
        ·rw[Lm];simp only[E8,seval,hI]<;>rfl
        ·exact HB
      · -- 105
       have uV:(g=st.aQ 105)=False:=eq_false (by omega)
       refine oX (st':=?_) ?_ ((ol (lH (mR S0 (ov aF (some LL))) { w with O:=some LL } bb).O).length) HA ?_
       rotate_left
       ·simp only[Z8,seval,hI,bA,q0,q1,q2,q3,q4,hw,xH,Int.toNat_natCast,iV _ n3,iL,iM,nK,Option.isSome_some,Option.map_some,Option.some.injEq,hT,BK,hD,sI,oO,MX,MY,MZ _ _,Hi,NA _ _,Hj,Xm,Xn,uV,bt qQ,vU,pS,oM _ _ _ _ nR];rfl
       ·refine⟨S2,lH (mR S0 (ov aF (some LL))) { w with O:=some LL } bb,_,R++[bb.root],105,st.aQ 105, ?_,.inr ⟨rfl,by simp only[E8,seval]<;>omega⟩,.inl rfl,Ll,De,MW.trans hC, ?_,rfl⟩
        ·rw[Lm];simp only[E8,seval,hI]<;>rfl
        ·exact HB
    · -- left out
     have HA:LL.length<m:=by omega
     have HB:R.length+LL.length≤1+(ol v.O).length:=by omega
     simp only[mR] at sI oO hI
     rcases hX with rfl|⟨g',L,hL,rfl,hg1,MX⟩
     · -- a list
      rcases GW with ⟨rfl,rfl⟩|⟨rfl,hg⟩
      · -- 66
       refine oX (st':=?_) ?_ (LL.length) HA ?_
       rotate_left
       ·simp only[Z8,seval,hI,bA,q0,q1,q2,q3,q4,hw,xH,Int.toNat_natCast,iV _ n3,iL,iM,nK,Option.isSome_some,Option.map_some,Option.some.injEq,hT,BK,hD,sI,oO,e1,e2,bf qQ];rfl
       ·refine⟨(mR S0 (ov aF (some LL))),{ w with O:=some LL },_,R,_,_, ?_,.inl ⟨rfl,rfl⟩,.inr ⟨st.aQ 91,_,rfl,rfl,by simp only[E8,seval]<;>omega,by simp only[E8,seval]<;>rfl⟩,Ny,Dd,hC,HB,rfl⟩
        simp only[E8,seval,hI]<;>rfl
      · -- 105
       have uV:(g=st.aQ 105)=False:=eq_false (by omega)
       refine oX (st':=?_) ?_ (LL.length) HA ?_
       rotate_left
       ·simp only[Z8,seval,hI,bA,q0,q1,q2,q3,q4,hw,xH,Int.toNat_natCast,iV _ n3,iL,iM,nK,Option.isSome_some,Option.map_some,Option.some.injEq,hT,BK,hD,sI,oO,e1,e2,uV,bf qQ];rfl
       ·refine⟨(mR S0 (ov aF (some LL))),{ w with O:=some LL },_,R,_,_, ?_,.inr ⟨rfl,by simp only[E8,seval]<;>omega⟩,.inr ⟨st.aQ 91,_,rfl,rfl,by simp only[E8,seval]<;>omega,by simp only[E8,seval]<;>rfl⟩,Ny,Dd,hC,HB,rfl⟩
        simp only[E8,seval,hI]<;>rfl
     · -- a row of its own
      have eL:ol w.O=L:=by rw[hL];rfl
      have MY:(g'=st.aQ 91)=False:=eq_false (by omega)
      obtain⟨X1,MZ,Hi⟩:=Qs (L:=L) (k:=k) (by rw[← eL];omega) 91 g'
      obtain⟨X2,NA,Hj⟩:=Da (L:=L) (k:=k+1) (by rw[← eL];omega) 91 g'
      have Xm:(k:Int)<(L.length:Int):=by rw[← eL];omega
      have Xn:=wW (T:=74) (n:=L.length) (k:=238) q0 Xm NB (by decide) (by decide)
      simp only[Int.toNat_natCast] at Xn;subst eL;rcases GW with ⟨rfl,rfl⟩|⟨rfl,hg⟩
      · -- 66
       refine oX (st':=?_) ?_ (LL.length) HA ?_
       rotate_left
       ·simp only[Z8,seval,hI,bA,q0,q1,q2,q3,q4,hw,xH,Int.toNat_natCast,iV _ n3,iL,iM,nK,Option.isSome_some,Option.map_some,Option.some.injEq,hT,BK,hD,sI,oO,MX,MY,MZ _ _,Hi,NA _ _,Hj,Xm,Xn,bf qQ];rfl
       ·refine⟨(mR S0 (ov aF (some LL))),{ w with O:=some LL },_,R,_,_, ?_,.inl ⟨rfl,rfl⟩,.inr ⟨st.aQ 91,_,rfl,rfl,by simp only[E8,seval]<;>omega,by simp only[E8,seval]<;>rfl⟩,Ny,Dd,hC,HB,rfl⟩
        simp only[E8,seval,hI]<;>rfl
      · -- 105
       have uV:(g=st.aQ 105)=False:=eq_false (by omega)
       refine oX (st':=?_) ?_ (LL.length) HA ?_
       rotate_left
       ·simp only[Z8,seval,hI,bA,q0,q1,q2,q3,q4,hw,xH,Int.toNat_natCast,iV _ n3,iL,iM,nK,Option.isSome_some,Option.map_some,Option.some.injEq,hT,BK,hD,sI,oO,MX,MY,MZ _ _,Hi,NA _ _,Hj,Xm,Xn,uV,bf qQ];rfl
       ·refine⟨(mR S0 (ov aF (some LL))),{ w with O:=some LL },_,R,_,_, ?_,.inr ⟨rfl,by simp only[E8,seval]<;>omega⟩,.inr ⟨st.aQ 91,_,rfl,rfl,by simp only[E8,seval]<;>omega,by simp only[E8,seval]<;>rfl⟩,Ny,Dd,hC,HB,rfl⟩
        simp only[E8,seval,hI]<;>rfl
   have hT:(((ol w.O).take k).length=0)=False:=eq_false (by rw[List.length_take];omega)
   by_cases qQ:c=0
   · -- taken in
    rw[qQ] at hc;have Ll:=Ny.ins hc
    have De:=Dd.ins (oL.or bb hbm) hc
    have MW:=(Bh (mR S0 (ov aF (some LL))) { w with O:=some LL } bb).1
    have vU:=aFl hG.sd Ny hc 91
    have pS:=MF Ll.sd
    obtain⟨S2,hS2⟩:∃S2,sV (mR S0 (ov aF (some LL))) { w with O:=some LL } bb=S2:=⟨_,rfl⟩
    rw[hS2] at vU Ll De pS MW
    have Lm:=sX Ll.sd
    have HA:(ol (lH (mR S0 (ov aF (some LL))) { w with O:=some LL } bb).O).length<m:=by omega
    have HB:(R++[bb.root]).length+(ol (lH (mR S0 (ov aF (some LL))) { w with O:=some LL } bb).O).length≤1+(ol v.O).length:=by rw[List.length_append,List.length_cons,List.length_nil];omega
    simp only[mR] at sI oO vU hI
    rcases hX with rfl|⟨g',L,hL,rfl,hg1,MX⟩
    · -- a list
     rcases GW with ⟨rfl,rfl⟩|⟨rfl,hg⟩
     · -- 66
      refine oX (st':=?_) ?_ ((ol (lH (mR S0 (ov aF (some LL))) { w with O:=some LL } bb).O).length) HA ?_
      rotate_left
      ·simp only[Z8,seval,hI,bA,q0,q1,q2,q3,q4,hw,xH,Int.toNat_natCast,iV _ n1,rP _ _ _ _ n1 n2,iL,iM,nK,Option.isSome_some,Option.map_some,Option.some.injEq,hT,BK,AZ,sI,oO,e1,e2,bt qQ,vU,pS,oM _ _ _ _ nR];rfl
      ·refine⟨S2,lH (mR S0 (ov aF (some LL))) { w with O:=some LL } bb,_,R++[bb.root],105,st.aQ 105, ?_,.inr ⟨rfl,by simp only[E8,seval]<;>omega⟩,.inl rfl,Ll,De,MW.trans hC, ?_,rfl⟩
       ·rw[Lm];simp only[E8,seval,hI]<;>rfl
       ·exact HB
     · -- 105
      have uV:(g=st.aQ 105)=False:=eq_false (by omega)
      refine oX (st':=?_) ?_ ((ol (lH (mR S0 (ov aF (some LL))) { w with O:=some LL } bb).O).length) HA ?_
      rotate_left
      ·simp only[Z8,seval,hI,bA,q0,q1,q2,q3,q4,hw,xH,Int.toNat_natCast,iV _ n1,rP _ _ _ _ n1 n2,iL,iM,nK,Option.isSome_some,Option.map_some,Option.some.injEq,hT,BK,AZ,sI,oO,e1,e2,uV,bt qQ,vU,pS,oM _ _ _ _ nR];rfl
      ·refine⟨S2,lH (mR S0 (ov aF (some LL))) { w with O:=some LL } bb,_,R++[bb.root],105,st.aQ 105, ?_,.inr ⟨rfl,by simp only[E8,seval]<;>omega⟩,.inl rfl,Ll,De,MW.trans hC, ?_,rfl⟩
       ·rw[Lm];simp only[E8,seval,hI]<;>rfl
       ·exact HB
    · -- a row of its own
     have eL:ol w.O=L:=by rw[hL];rfl
     have MY:(g'=st.aQ 91)=False:=eq_false (by omega)
     obtain⟨X1,MZ,Hi⟩:=Qs (L:=L) (k:=k) (by rw[← eL];omega) 91 g'
     obtain⟨X2,NA,Hj⟩:=Da (L:=L) (k:=k+1) (by rw[← eL];omega) 91 g'
     have Xm:(k:Int)<(L.length:Int):=by rw[← eL];omega
     have Xn:=wW (T:=74) (n:=L.length) (k:=238) q0 Xm NB (by decide) (by decide)
     simp only[Int.toNat_natCast] at Xn;subst eL;rcases GW with ⟨rfl,rfl⟩|⟨rfl,hg⟩
     · -- 66
      refine oX (st':=?_) ?_ ((ol (lH (mR S0 (ov aF (some LL))) { w with O:=some LL } bb).O).length) HA ?_
      rotate_left
      ·simp only[Z8,seval,hI,bA,q0,q1,q2,q3,q4,hw,xH,Int.toNat_natCast,iV _ n1,rP _ _ _ _ n1 n2,iL,iM,nK,Option.isSome_some,Option.map_some,Option.some.injEq,hT,BK,AZ,sI,oO,MX,MY,MZ _ _,Hi,NA _ _,Hj,Xm,Xn,bt qQ,vU,pS,oM _ _ _ _ nR];rfl
      ·refine⟨S2,lH (mR S0 (ov aF (some LL))) { w with O:=some LL } bb,_,R++[bb.root],105,st.aQ 105, ?_,.inr ⟨rfl,by simp only[E8,seval]<;>omega⟩,.inl rfl,Ll,De,MW.trans hC, ?_,rfl⟩
       ·rw[Lm];simp only[E8,seval,hI]<;>rfl
       ·exact HB
     · -- 105
      have uV:(g=st.aQ 105)=False:=eq_false (by omega)
      refine oX (st':=?_) ?_ ((ol (lH (mR S0 (ov aF (some LL))) { w with O:=some LL } bb).O).length) HA ?_
      rotate_left
      ·simp only[Z8,seval,hI,bA,q0,q1,q2,q3,q4,hw,xH,Int.toNat_natCast,iV _ n1,rP _ _ _ _ n1 n2,iL,iM,nK,Option.isSome_some,Option.map_some,Option.some.injEq,hT,BK,AZ,sI,oO,MX,MY,MZ _ _,Hi,NA _ _,Hj,Xm,Xn,uV,bt qQ,vU,pS,oM _ _ _ _ nR];rfl
      ·refine⟨S2,lH (mR S0 (ov aF (some LL))) { w with O:=some LL } bb,_,R++[bb.root],105,st.aQ 105, ?_,.inr ⟨rfl,by simp only[E8,seval]<;>omega⟩,.inl rfl,Ll,De,MW.trans hC, ?_,rfl⟩
       ·rw[Lm];simp only[E8,seval,hI]<;>rfl
       ·exact HB
   · -- left out
    have HA:LL.length<m:=by omega
    have HB:R.length+LL.length≤1+(ol v.O).length:=by omega
    simp only[mR] at sI oO hI
    rcases hX with rfl|⟨g',L,hL,rfl,hg1,MX⟩
    · -- a list
     rcases GW with ⟨rfl,rfl⟩|⟨rfl,hg⟩
     · -- 66
      refine oX (st':=?_) ?_ (LL.length) HA ?_
      rotate_left
      ·simp only[Z8,seval,hI,bA,q0,q1,q2,q3,q4,hw,xH,Int.toNat_natCast,iV _ n1,rP _ _ _ _ n1 n2,iL,iM,nK,Option.isSome_some,Option.map_some,Option.some.injEq,hT,BK,AZ,sI,oO,e1,e2,bf qQ];rfl
      ·refine⟨(mR S0 (ov aF (some LL))),{ w with O:=some LL },_,R,_,_, ?_,.inl ⟨rfl,rfl⟩,.inr ⟨st.aQ 91,_,rfl,rfl,by simp only[E8,seval]<;>omega,by simp only[E8,seval]<;>rfl⟩,Ny,Dd,hC,HB,rfl⟩
       simp only[E8,seval,hI]<;>rfl
     · -- 105
      have uV:(g=st.aQ 105)=False:=eq_false (by omega)
      refine oX (st':=?_) ?_ (LL.length) HA ?_
      rotate_left
      ·simp only[Z8,seval,hI,bA,q0,q1,q2,q3,q4,hw,xH,Int.toNat_natCast,iV _ n1,rP _ _ _ _ n1 n2,iL,iM,nK,Option.isSome_some,Option.map_some,Option.some.injEq,hT,BK,AZ,sI,oO,e1,e2,uV,bf qQ];rfl
      ·refine⟨(mR S0 (ov aF (some LL))),{ w with O:=some LL },_,R,_,_, ?_,.inr ⟨rfl,by simp only[E8,seval]<;>omega⟩,.inr ⟨st.aQ 91,_,rfl,rfl,by simp only[E8,seval]<;>omega,by simp only[E8,seval]<;>rfl⟩,Ny,Dd,hC,HB,rfl⟩
       simp only[E8,seval,hI]<;>rfl
    · -- a row of its own
     have eL:ol w.O=L:=by rw[hL];rfl
     have MY:(g'=st.aQ 91)=False:=eq_false (by omega)
     obtain⟨X1,MZ,Hi⟩:=Qs (L:=L) (k:=k) (by rw[← eL];omega) 91 g'
     obtain⟨X2,NA,Hj⟩:=Da (L:=L) (k:=k+1) (by rw[← eL];omega) 91 g'
     have Xm:(k:Int)<(L.length:Int):=by rw[← eL];omega
     have Xn:=wW (T:=74) (n:=L.length) (k:=238) q0 Xm NB (by decide) (by decide)
     simp only[Int.toNat_natCast] at Xn;subst eL;rcases GW with ⟨rfl,rfl⟩|⟨rfl,hg⟩
     · -- 66
      refine oX (st':=?_) ?_ (LL.length) HA ?_
      rotate_left
      ·simp only[Z8,seval,hI,bA,q0,q1,q2,q3,q4,hw,xH,Int.toNat_natCast,iV _ n1,rP _ _ _ _ n1 n2,iL,iM,nK,Option.isSome_some,Option.map_some,Option.some.injEq,hT,BK,AZ,sI,oO,MX,MY,MZ _ _,Hi,NA _ _,Hj,Xm,Xn,bf qQ];rfl
      ·refine⟨(mR S0 (ov aF (some LL))),{ w with O:=some LL },_,R,_,_, ?_,.inl ⟨rfl,rfl⟩,.inr ⟨st.aQ 91,_,rfl,rfl,by simp only[E8,seval]<;>omega,by simp only[E8,seval]<;>rfl⟩,Ny,Dd,hC,HB,rfl⟩
       simp only[E8,seval,hI]<;>rfl
     · -- 105
      have uV:(g=st.aQ 105)=False:=eq_false (by omega)
      refine oX (st':=?_) ?_ (LL.length) HA ?_
      rotate_left
      ·simp only[Z8,seval,hI,bA,q0,q1,q2,q3,q4,hw,xH,Int.toNat_natCast,iV _ n1,rP _ _ _ _ n1 n2,iL,iM,nK,Option.isSome_some,Option.map_some,Option.some.injEq,hT,BK,AZ,sI,oO,MX,MY,MZ _ _,Hi,NA _ _,Hj,Xm,Xn,uV,bf qQ];rfl
      ·refine⟨(mR S0 (ov aF (some LL))),{ w with O:=some LL },_,R,_,_, ?_,.inr ⟨rfl,by simp only[E8,seval]<;>omega⟩,.inr ⟨st.aQ 91,_,rfl,rfl,by simp only[E8,seval]<;>omega,by simp only[E8,seval]<;>rfl⟩,Ny,Dd,hC,HB,rfl⟩
       simp only[E8,seval,hI]<;>rfl
 obtain⟨r,h,hq⟩:=key
 cases hx:zC Tryz.prog Bk st with
 | none=>rw[hx] at h;cases h
 | some y=>rw[hx] at h;simp only[cK,Option.some.injEq] at h;subst h;exact⟨y.1,y.2,rfl,hq⟩
end Go.Ab.Tryz
