/-
  Part 14 of the proof: an evaluator of programs, its soundness, and what functions of this program compute.
-/
import Derived.Test.YtmcjkemalibacaaGreatK13
import Derived.Test.YtmcjkemalibacaaGreatK12
import Derived.Test.YtmcjkemalibacaaGreatK10
set_option linter.all false
set_option maxRecDepth 20000
set_option maxHeartbeats 40000000
namespace Go.Ab.Tryz
open Classical Go.Proofs Go.Ab
theorem o9:Rg 0:=⟨by omega,by omega⟩
theorem zOk:pK zX:=⟨⟨none,rfl,by simp[ol]⟩,⟨none,rfl,by simp[ol]⟩,⟨none,rfl,by simp[ol]⟩,⟨none,rfl,by simp[ol],by simp[ol]⟩,⟨o9,o9,o9,o9,o9⟩,⟨o9,o9⟩,⟨o9,o9,o9,o9⟩,o9,o9⟩
theorem aRG (x:xM) (h:pK x):∃r,aB Tryz.prog 184 [.agg (lA x)]=some r∧∃e:Int,r=.v (.int .i64 e):=by
 have z:=zOk
 have hf:=h.flat
 obtain⟨r1,e1,o1,e,rfl⟩:=aRF x h
 have NS:=kx e1 (cU hf) (.eG _ (bE (yW _) (.v _)))
 rw[cG Tryz.func184 rfl aMM (by kernel_rfl) rfl]
 by_cases g1:x.kind<1
 ·simp only[ZG,seval,Bool.false_and,Prod.mk.injEq,Kv,g1];exact⟨_,bQ rfl (by simp only[E8,seval]<;>rfl) (by first|exact .v _|simp only[dU]),_,rfl⟩
 by_cases g9:8<x.kind
 ·simp only[ZG,seval,Bool.false_and,Prod.mk.injEq,Kv,g1,g9];exact⟨_,bQ rfl (by simp only[E8,seval]<;>rfl) (by first|exact .v _|simp only[dU]),_,rfl⟩
 by_cases g0:e=0
 case neg =>
  simp only[ZG,seval,Bool.false_and,Prod.mk.injEq,Kv,g1,g9,NS,dE,bf g0];exact⟨_,bQ rfl (by simp only[E8,seval]<;>rfl) (by first|exact .v _|simp only[dU]),_,rfl⟩
 by_cases k2:x.kind=2
 ·have hy:pK { zX with kind:=x.kind,block:=x.block }:=⟨z.Gp,z.c1,z.c2,z.VK,h.rb,z.ra,z.rs,z.rt,z.rv⟩
  obtain⟨r2,e2,B,rfl⟩:=VL x { zX with kind:=x.kind,block:=x.block } h hy
  have Rt:=kx e2 (bE hf hy.flat) (.v _)
  have TK:=h.fl
  cases B
  all_goals
   simp only[ZG,seval,Bool.false_and,Prod.mk.injEq,Kv,g1,g9,NS,dE,bt g0,bt k2,Rt,Bm,Bn,Ho,Hp];exact⟨_,bQ rfl (by simp only[E8,seval]<;>rfl) (by first|exact .v _|simp only[dU]),_,rfl⟩
 by_cases k3:x.kind=3
 ·have hy:pK { zX with kind:=x.kind,Gp:=x.Gp }:=⟨h.Gp,z.c1,z.c2,z.VK,z.rb,h.ra,z.rs,z.rt,z.rv⟩
  obtain⟨r2,e2,B,rfl⟩:=VL x { zX with kind:=x.kind,Gp:=x.Gp } h hy
  have Rt:=kx e2 (bE hf hy.flat) (.v _)
  have TK:=h.fl
  cases B
  all_goals
   simp only[ZG,seval,Bool.false_and,Prod.mk.injEq,Kv,g1,g9,NS,dE,bt g0,bf k2,bt k3,Rt,Bm,Bn,Ho,Hp];exact⟨_,bQ rfl (by simp only[E8,seval]<;>rfl) (by first|exact .v _|simp only[dU]),_,rfl⟩
 by_cases k4:x.kind=4
 ·have hy:pK { zX with kind:=x.kind,pB:=x.pB }:=⟨z.Gp,h.c1,h.c2,z.VK,z.rb,z.ra,h.rs,z.rt,z.rv⟩
  obtain⟨r2,e2,B,rfl⟩:=VL x { zX with kind:=x.kind,pB:=x.pB } h hy
  have Rt:=kx e2 (bE hf hy.flat) (.v _)
  have TK:=h.fl
  cases B
  all_goals
   simp only[ZG,seval,Bool.false_and,Prod.mk.injEq,Kv,g1,g9,NS,dE,bt g0,bf k2,bf k3,bt k4,Rt,Bm,Bn,Ho,Hp];exact⟨_,bQ rfl (by simp only[E8,seval]<;>rfl) (by first|exact .v _|simp only[dU]),_,rfl⟩
 by_cases k5:x.kind=5
 ·have hy:pK { zX with kind:=x.kind,table:=x.table }:=⟨z.Gp,z.c1,z.c2,h.VK,z.rb,z.ra,z.rs,h.rt,z.rv⟩
  obtain⟨r2,e2,B,rfl⟩:=VL x { zX with kind:=x.kind,table:=x.table } h hy
  have Rt:=kx e2 (bE hf hy.flat) (.v _)
  have TK:=h.fl
  cases B
  all_goals
   simp only[ZG,seval,Bool.false_and,Prod.mk.injEq,Kv,g1,g9,NS,dE,bt g0,bf k2,bf k3,bf k4,bt k5,Rt,Bm,Bn,Ho,Hp];exact⟨_,bQ rfl (by simp only[E8,seval]<;>rfl) (by first|exact .v _|simp only[dU]),_,rfl⟩
 by_cases k6:x.kind=6
 ·have hy:pK { zX with kind:=x.kind,verdict:=x.verdict }:=⟨z.Gp,z.c1,z.c2,z.VK,z.rb,z.ra,z.rs,z.rt,h.rv⟩
  obtain⟨r2,e2,B,rfl⟩:=VL x { zX with kind:=x.kind,verdict:=x.verdict } h hy
  have Rt:=kx e2 (bE hf hy.flat) (.v _)
  have TK:=h.fl
  cases B
  all_goals
   simp only[ZG,seval,Bool.false_and,Prod.mk.injEq,Kv,g1,g9,NS,dE,bt g0,bf k2,bf k3,bf k4,bf k5,bt k6,Rt,Bm,Bn,Ho,Hp];exact⟨_,bQ rfl (by simp only[E8,seval]<;>rfl) (by first|exact .v _|simp only[dU]),_,rfl⟩
 by_cases k8:x.kind=8
 ·have hy:pK { zX with kind:=x.kind,write:=x.write,qR:=x.qR }:=⟨z.Gp,z.c1,z.c2,z.VK,z.rb,z.ra,z.rs,z.rt,z.rv⟩
  obtain⟨r2,e2,B,rfl⟩:=VL x { zX with kind:=x.kind,write:=x.write,qR:=x.qR } h hy
  have Rt:=kx e2 (bE hf hy.flat) (.v _)
  have TK:=h.fl
  cases B
  all_goals
   simp only[ZG,seval,Bool.false_and,Prod.mk.injEq,Kv,g1,g9,NS,dE,bt g0,bf k2,bf k3,bf k4,bf k5,bf k6,bt k8,Rt,Bm,Bn,Ho,Hp];exact⟨_,bQ rfl (by simp only[E8,seval]<;>rfl) (by first|exact .v _|simp only[dU]),_,rfl⟩
 have hy:pK { zX with kind:=x.kind }:=⟨z.Gp,z.c1,z.c2,z.VK,z.rb,z.ra,z.rs,z.rt,z.rv⟩
 obtain⟨r2,e2,B,rfl⟩:=VL x { zX with kind:=x.kind } h hy
 have Rt:=kx e2 (bE hf hy.flat) (.v _)
 have TK:=h.fl
 cases B
 all_goals
  simp only[ZG,seval,Bool.false_and,Prod.mk.injEq,Kv,g1,g9,NS,dE,bt g0,bf k2,bf k3,bf k4,bf k5,bf k6,bf k8,Rt,Bm,Bn,Ho,Hp];exact⟨_,bQ rfl (by simp only[E8,seval]<;>rfl) (by first|exact .v _|simp only[dU]),_,rfl⟩
theorem x45 (n bits:Int) (h0:0<n) (h1:n≤1000):∃r,aB Tryz.prog 45 [.v (.int .i64 n),.v (.int .i64 bits)]=some r∧∃l:List Int,r=.uniq 3 1 l.length (aK l)∧(l.length:Int)≤n:=by
 rw[cL Tryz.func45 rfl aRH rfl];simp only[Z8,seval];refine cC (fun m st=>∃k:Nat,(st.env 0=.v (.int .i64 n)∧st.env 1=.v (.int .i64 bits)∧st.env 6=.v (.int .i64 k))∧(st.env 5=.v (.slice none 0 0)∨∃(l:List Int) (g:Nat),(st.env 5=.own 21 g∧st.heap 21 g=some (.row 3 1 l.length (aK l)))∧g<st.aT 21∧0<l.length∧l.length≤k)∧(k:Int)≤n∧m=(n-k).toNat)
  (fun e st=>e=.exit 0∧st.env 0=.v (.int .i64 n)∧(st.env 5=.v (.slice none 0 0)∨∃(l:List Int) (g:Nat),(st.env 5=.own 21 g∧st.heap 21 g=some (.row 3 1 l.length (aK l)))∧0<l.length∧(l.length:Int)≤n)) n.toNat ?step ?start ?rest
 case step =>
  rintro m st ⟨k,hI,h5,hk,hm⟩
  by_cases aY:(k:Int)<n
  ·have q0:(0:Int)≤k:=by omega
   have hw:IntKind.i64.wrap ((k:Int)+1)=((k+1:Nat):Int):=by rw[mT _ (by omega) (by omega)];omega
   by_cases hh:IntKind.i64.wrap ((BitVec.ofInt IntKind.i64.bits (bits.fdiv (2 ^ min (IntKind.u64.wrap (k:Int)).toNat IntKind.i64.bits)) &&& BitVec.ofInt IntKind.i64.bits 1).toNat:Int)=1
   ·rcases h5 with h5|⟨l,g,h5,hg,hl0,hl⟩
    ·apply oN ((n-((k+1:Nat):Int)).toNat)
     ·simp only[Z8,seval,hI,h5,aY,q0,xT,bt hh,hw];rfl
     ·exact⟨k+1,by simp only[E8,seval,hI],.inr ⟨[(k:Int)],_,⟨by simp only[E8,seval]<;>rfl,by simp only[E8,seval]<;>rfl⟩,by simp only[E8,seval]<;>omega,by simp,by simp⟩,by omega,rfl⟩
    ·have vC:(g=st.aT 21)=False:=eq_false (by omega)
     have nl:(l.length:Int)<1000000:=by omega
     apply oN ((n-((k+1:Nat):Int)).toNat)
     ·simp only[Z8,seval,hI,h5,vC,aY,q0,xT,bt hh,hw,Ez _ _ _ _ nl];rfl
     ·exact⟨k+1,by simp only[E8,seval,hI],.inr ⟨l++[(k:Int)],_,⟨by simp only[E8,seval]<;>rfl,by simp only[E8,seval]<;>rfl⟩,by simp only[E8,seval]<;>omega,by simp,by rw[List.length_append,List.length_cons,List.length_nil];omega⟩,by omega,rfl⟩
   ·have h5':st.env 5=.v (.slice none 0 0)∨∃(l:List Int) (g:Nat),(st.env 5=.own 21 g∧st.heap 21 g=some (.row 3 1 l.length (aK l)))∧g<st.aT 21∧0<l.length∧l.length≤k+1:=h5.imp id fun ⟨l,g,a,b,c,d⟩=>⟨l,g,a,b,c,by omega⟩
    apply oN ((n-((k+1:Nat):Int)).toNat)
    ·simp only[Z8,seval,hI,aY,q0,xT,bf hh,hw];rfl
    ·exact⟨k+1,by simp only[E8,seval,hI],by simpa only[E8,seval] using h5',by omega,rfl⟩
  ·have h5':st.env 5=.v (.slice none 0 0)∨∃(l:List Int) (g:Nat),(st.env 5=.own 21 g∧st.heap 21 g=some (.row 3 1 l.length (aK l)))∧0<l.length∧(l.length:Int)≤n:=h5.imp id fun ⟨l,g,a,b,c,d⟩=>⟨l,g,a,c,by omega⟩
   apply oT (.exit 0)
   ·simp only[Z8,seval,hI,aY];rfl
   ·exact⟨rfl,by simp only[E8,seval,hI],by simpa only[E8,seval] using h5'⟩
 case start=>exact⟨0,by simp only[E8,seval]<;>rfl,.inl (by simp only[E8,seval]),by omega,by simp⟩
 case rest =>
  rintro e st ⟨rfl,h0',h5|⟨l,g,h5,hl0,hl⟩⟩
  ·simp only[Z8,seval,h0',h5,h0];exact⟨_,Ym (n:=([0]:List Int).length) (cs:=aK [0]) (aH (by decide)) (.inl rfl) rfl (by simp only[E8,seval]<;>rfl) (by simp only[E8,seval]<;>rfl) (gI _),_,rfl,by simp;omega⟩
  ·have hn0:¬((l.length:Int)=0):=by omega
   simp only[Z8,seval,h0',h5,bf hn0];exact⟨_,tU rfl (by simp only[E8,seval,h5]<;>rfl) (by simp only[E8,seval,h5]<;>rfl) (gI _),l,rfl,hl⟩
theorem k45 (n bits:Int) (h0:0<n) (h1:n≤1000):∃l:List Int,(∀(st:St) (d:Nat),aM (aB Tryz.prog) 45 [.v (.int .i64 n),.v (.int .i64 bits)] st (some d)=some { dst:=some d,val:=.own d (st.aT d),new:=some (d,[.row 3 1 l.length (aK l)])})∧(l.length:Int)≤n:=by
 obtain⟨r,hr,l,rfl,hl⟩:=x45 n bits h0 h1
 exact⟨l,fun st d=>jF (bE (.v _) (.v _)) hr,hl⟩
theorem x92 {s:aL} {v:SV} {q:Int} (h:GI s v q) (r:RG s v) (i e:Int) (he:Rg e):∃x,aB Tryz.prog 92 [.agg (aA s),.v (.int .i64 i),.v (.int .u64 e)]=some x∧∃c:dP,x=.agg (aW c)∧Rg c.aE:=by
 have W4:=MG v.ns h.up h.sd.nn i (IntKind.u64.wrap (e * s.cFg.jL))
 have hr:=Rh h.up (i:=i) (s:=IntKind.u64.wrap (e * s.cFg.jL))
 obtain⟨k,hk⟩:∃k,Fz v.ns i (IntKind.u64.wrap (e * s.cFg.jL))=k:=⟨_,rfl⟩
 rw[hk] at W4 hr
 rw[cL Tryz.func92 rfl aRK rfl];by_cases g1:k<0
 ·simp only[Z8,seval,h.sd.tree,W4,g1];exact⟨_,fJ rfl (by simp only[E8,seval,Bj]<;>rfl) (by simp only[Z8,seval,Bj]<;>rfl) (by simp only[dU,and_self,Bj]),_,rfl,r.f⟩
 ·have k0:0≤k:=by omega
  have k1:k<v.ns.length:=by omega
  simp only[Z8,seval,h.sd.tree,W4,g1,k0,k1];exact⟨_,fJ rfl (by simp only[E8,seval,Bj]<;>rfl) (by simp only[Z8,seval,Bj]<;>rfl) (by simp only[dU,and_self,Bj]),_,rfl,he⟩
theorem aRL (n:Int):∃x,aB Tryz.prog 111 [.v (.int .i64 n)]=some x∧∃w:qE,x=.agg (gG w):=by
 obtain⟨j,hj⟩:∃j,(IntKind.i64.wrap ((BitVec.ofInt IntKind.i64.bits (((n).fdiv (2 ^ min 9 IntKind.i64.bits))) &&& BitVec.ofInt IntKind.i64.bits 3).toNat:Int))=j:=⟨_,rfl⟩
 have hb:=yS ((n).fdiv (2 ^ min 9 IntKind.i64.bits)) 3 (by decide)
 rw[hj] at hb;have j0:=hb.1
 have j1:j<4:=by omega
 have j3:j.toNat<4:=by omega
 have j4:j.toNat≤3:=by omega
 have Lm:∀(w:qE) (x:Int),dS (gG w) j.toNat [.v (.int .u64 x)] (j.toNat+1)=gG (w.set j.toNat x):=fun w x=>pL w j.toNat _ x j3 rfl
 have fw:∀w:qE,Flat (.agg (gG w))=True:=fun w=>eq_true (.agg _ (iQ w))
 rw[cL Tryz.func111 rfl aMO rfl];by_cases c1:(IntKind.i64.wrap ((BitVec.ofInt IntKind.i64.bits (((n).fdiv (2 ^ min 7 IntKind.i64.bits))) &&& BitVec.ofInt IntKind.i64.bits 3).toNat:Int))=1
 ·simp only[Z8,seval,bt c1,pL,Nat.reduceLT,Hn,hj,j0,j1,j4,Lm,Nat.mul_one,xT];exact⟨_,fJ rfl (by simp only[E8,seval,fw]<;>rfl) (by simp only[Z8,seval,fw]<;>rfl) (by simp only[dU,and_self,fw]),_,rfl⟩
 by_cases c2:(IntKind.i64.wrap ((BitVec.ofInt IntKind.i64.bits (((n).fdiv (2 ^ min 7 IntKind.i64.bits))) &&& BitVec.ofInt IntKind.i64.bits 3).toNat:Int))=2
 ·simp only[Z8,seval,bf c1,bt c2,pL,Nat.reduceLT,Hn,hj,j0,j1,j4,Lm,Nat.mul_one,xT];exact⟨_,fJ rfl (by simp only[E8,seval,fw]<;>rfl) (by simp only[Z8,seval,fw]<;>rfl) (by simp only[dU,and_self,fw]),_,rfl⟩
 by_cases c3:(IntKind.i64.wrap ((BitVec.ofInt IntKind.i64.bits (((n).fdiv (2 ^ min 7 IntKind.i64.bits))) &&& BitVec.ofInt IntKind.i64.bits 3).toNat:Int))=3
 ·simp only[Z8,seval,bf c1,bf c2,bt c3,pL,Nat.reduceLT,Hn,hj,j0,j1,j4,Lm,Nat.mul_one,xT];exact⟨_,fJ rfl (by simp only[E8,seval,fw]<;>rfl) (by simp only[Z8,seval,fw]<;>rfl) (by simp only[dU,and_self,fw]),_,rfl⟩
 simp only[Z8,seval,bf c1,bf c2,bf c3,pL,Nat.reduceLT,Hn,hj,j0,j1,j4,Lm,Nat.mul_one,xT];exact⟨_,fJ rfl (by simp only[E8,seval,fw]<;>rfl) (by simp only[Z8,seval,fw]<;>rfl) (by simp only[dU,and_self,fw]),_,rfl⟩
theorem aRM (n k:Int) (h0:0<n) (h1:n≤1000):∃r,aB Tryz.prog 182 [.v (.int .i64 n),.v (.int .i64 k)]=some r∧∃x:fY,r=.agg (cD x)∧wY x.first∧wY x.second∧Rg x.first.source∧Rg x.first.target∧Rg x.second.source∧Rg x.second.target:=by
 obtain⟨l,kl,hl⟩:=k45 n k h0 h1
 obtain⟨m,km,hm⟩:=k45 n ((k).fdiv (2 ^ min 6 IntKind.i64.bits)) h0 h1
 have cl:wY ⟨1,5,mkRoot 2,ov aK (some l)⟩:=⟨some l,rfl,by show (l.length:Int)≤1000;omega⟩
 have rg:∀x:Int,0≤x∧x≤6→Rg x:=fun x h=>⟨by omega,by omega⟩
 have okl:∀a b r,wY ⟨a,b,r,ov aK (some l)⟩:=fun a b r=>⟨some l,rfl,by show (l.length:Int)≤1000;omega⟩
 have okm:∀a b r,wY ⟨a,b,r,ov aK (some m)⟩:=fun a b r=>⟨some m,rfl,by show (m.length:Int)≤1000;omega⟩
 rw[cL Tryz.func182 rfl aMQ rfl];by_cases c0:((((k).fdiv (2 ^ min 12 IntKind.i64.bits))).tmod 8)=0
 ·simp only[Z8,seval,kl,km,Ra,bt c0];exact⟨_,by apply eH;rfl;all_goals simp only[aH,Z8,seval,bS,rS,vW,bP,cW,kA,dU]<;>rfl,_,rfl,okm _ _ _,okl _ _ _,rg _ (by dsimp only;omega),rg _ (by dsimp only;omega),rg _ (by dsimp only;omega),rg _ (by dsimp only;omega)⟩
 by_cases c1:((((k).fdiv (2 ^ min 12 IntKind.i64.bits))).tmod 8)=1
 ·simp only[Z8,seval,kl,km,Ra,bf c0,bt c1];exact⟨_,by apply eH;rfl;all_goals simp only[aH,Z8,seval,bS,rS,vW,bP,cW,kA,dU]<;>rfl,_,rfl,okl _ _ _,okm _ _ _,rg _ (by dsimp only;omega),rg _ (by dsimp only;omega),rg _ (by dsimp only;omega),rg _ (by dsimp only;omega)⟩
 by_cases c2:((((k).fdiv (2 ^ min 12 IntKind.i64.bits))).tmod 8)=2
 ·simp only[Z8,seval,kl,km,Ra,bf c0,bf c1,bt c2];exact⟨_,by apply eH;rfl;all_goals simp only[aH,Z8,seval,bS,rS,vW,bP,cW,kA,dU]<;>rfl,_,rfl,okl _ _ _,okl _ _ _,rg _ (by dsimp only;omega),rg _ (by dsimp only;omega),rg _ (by dsimp only;omega),rg _ (by dsimp only;omega)⟩
 by_cases c3:((((k).fdiv (2 ^ min 12 IntKind.i64.bits))).tmod 8)=3
 ·simp only[Z8,seval,kl,km,Ra,bf c0,bf c1,bf c2,bt c3];exact⟨_,by apply eH;rfl;all_goals simp only[aH,Z8,seval,bS,rS,vW,bP,cW,kA,dU]<;>rfl,_,rfl,okl _ _ _,okm _ _ _,rg _ (by dsimp only;omega),rg _ (by dsimp only;omega),rg _ (by dsimp only;omega),rg _ (by dsimp only;omega)⟩
 by_cases c4:((((k).fdiv (2 ^ min 12 IntKind.i64.bits))).tmod 8)=4
 ·simp only[Z8,seval,kl,km,Ra,bf c0,bf c1,bf c2,bf c3,bt c4];exact⟨_,by apply eH;rfl;all_goals simp only[aH,Z8,seval,bS,rS,vW,bP,cW,kA,dU]<;>rfl,_,rfl,okl _ _ _,okm _ _ _,rg _ (by dsimp only;omega),rg _ (by dsimp only;omega),rg _ (by dsimp only;omega),rg _ (by dsimp only;omega)⟩
 simp only[Z8,seval,kl,km,Ra,bf c0,bf c1,bf c2,bf c3,bf c4];exact⟨_,by apply eH;rfl;all_goals simp only[aH,Z8,seval,bS,rS,vW,bP,cW,kA,dU]<;>rfl,_,rfl,okl _ _ _,okm _ _ _,rg _ (by dsimp only;omega),rg _ (by dsimp only;omega),rg _ (by dsimp only;omega),rg _ (by dsimp only;omega)⟩
theorem aRN {s:aL} {v:SV} {q:Int} (h:GI s v q) (r:RG s v) (hB:0<(ol v.B).length∧(ol v.B).length≤64) (k:Int) (hk:0≤k):∃x,aB Tryz.prog 183 [.agg (aA s),.v (.int .i64 k)]=some x∧∃(t:Table) (b:List Int),x=.agg (cA t)∧t.iP=ov bK (some b)∧(b.length:Int)≤1000∧(∀y∈b,Rg y)∧Rg t.ck.aE:=by
 have hn:=h.sd.nn
 have hp:(0:Int)<(v.ns.length:Int):=by have:=h.pos;omega
 have gP:¬((v.ns.length:Int)=0):=by omega
 obtain⟨m1,m2⟩:=cK (n:=(v.ns.length:Int)) hk hp
 obtain⟨i,hi⟩:∃i,k.tmod (v.ns.length:Int)=i:=⟨_,rfl⟩
 rw[hi] at m1 m2;have Ng:=h.sp
 obtain⟨y,hy,c2,rfl,rc2⟩:=x92 h r i (wH s s.now) (hU _)
 unfold wH at hy;have Ru:=kx hy (lM h.sd.flat (.v _) (.v _)) (.agg _ (bM _))
 have rc1:Rg (nd v.ns i).block.cV.pj.aE:=(r.nd _ (Rq m1 m2)).1.pj
 rw[cL Tryz.func183 rfl aMR rfl];by_cases c0:((((k).fdiv (2 ^ min 5 IntKind.i64.bits))).tmod 4)=0
 case neg =>
  simp only[Z8,seval,h.sd.tree,gP,hi,m1,m2,bf c0];refine cC (fun m st=>∃(j:Nat) (X:AV) (L:List Int),(st.env 1=.v (.int .i64 k)∧st.env 2=.ptr 2 0 0∧st.heap 2 0=some (.cells (aA s))∧st.env 4=.ptr 4 0 0∧st.heap 4 0=some (.cells (cA dZ))∧st.env 6=.ptr 6 0 0∧st.heap 6 0=some (.cells (cA ⟨(nd v.ns i).block.cV.pj,X⟩))∧st.env 7=.v (.int .i64 j))∧((X=.v (.slice none 0 0)∧L=[])∨∃g,X=.own 55 g∧g<st.aT 55∧st.heap 55 g=some (.row 23 1 L.length (bK L)))∧(∀y∈L,Rg y)∧L.length=j∧j≤(ol v.B).length∧m=(ol v.B).length-j)
   (fun e st=>e=.exit 0∧∃(g:Nat) (L:List Int),(st.env 1=.v (.int .i64 k)∧st.env 2=.ptr 2 0 0∧st.heap 2 0=some (.cells (aA s))∧st.env 4=.ptr 4 0 0∧st.heap 4 0=some (.cells (cA dZ))∧st.env 6=.ptr 6 0 0∧st.heap 6 0=some (.cells (cA ⟨(nd v.ns i).block.cV.pj,.own 55 g⟩))∧st.heap 55 g=some (.row 23 1 L.length (bK L)))∧(∀y∈L,Rg y)∧L.length=(ol v.B).length) (ol v.B).length ?step ?start ?rest
  case step =>
   rintro m st ⟨j,X,L,hI,hX,hL,hj,hjB,hm⟩
   by_cases aY:(j:Int)<(ol v.B).length
   ·have q0:(0:Int)≤j:=by omega
    have hw:IntKind.i64.wrap ((j:Int)+1)=((j+1:Nat):Int):=by rw[mT _ (by omega) (by omega)];omega
    have nL:(L.length:Int)<1000000:=by omega
    obtain⟨y,hy9⟩:∃y,IntKind.u64.wrap ((k.fdiv (2 ^ min (IntKind.u64.wrap (j:Int)).toNat IntKind.i64.bits)).tmod 50)=y:=⟨_,rfl⟩
    have ry:Rg y:=by rw[← hy9];exact hU _
    have Tu:∀z∈L++[y],Rg z:=fun z hz=>(List.mem_append.1 hz).elim (hL z) fun e=>by rw[List.mem_singleton] at e;rw[e];exact ry
    have yF:(L++[y]).length=j+1:=by rw[List.length_append,List.length_cons,List.length_nil];omega
    rcases hX with ⟨rfl,rfl⟩|⟨g,rfl,hg,hh⟩
    ·apply oN ((ol v.B).length-(j+1))
     ·simp only[Z8,seval,hI,aY,q0,h.sd.iP,xT,hy9,hw];rfl
     ·exact⟨j+1,_,[]++[y],⟨by simp only[E8,seval,hI],by simp only[E8,seval,hI],by simp only[E8,seval,hI],by simp only[E8,seval,hI],by simp only[E8,seval,hI],by simp only[E8,seval,hI],by simp only[E8,seval,hI]<;>rfl,by simp only[E8,seval]⟩,.inr ⟨_,rfl,by simp only[E8,seval]<;>omega,by simp only[E8,seval]<;>rfl⟩,Tu,yF,by omega,rfl⟩
    ·have vC:(g=st.aT 55)=False:=eq_false (by omega)
     apply oN ((ol v.B).length-(j+1))
     ·simp only[Z8,seval,hI,hh,vC,aY,q0,h.sd.iP,xT,hy9,hw,wK _ _ _ _ nL];rfl
     ·exact⟨j+1,_,L++[y],⟨by simp only[E8,seval,hI],by simp only[E8,seval,hI],by simp only[E8,seval,hI],by simp only[E8,seval,hI],by simp only[E8,seval,hI],by simp only[E8,seval,hI],by simp only[E8,seval,hI]<;>rfl,by simp only[E8,seval]⟩,.inr ⟨_,rfl,by simp only[E8,seval]<;>omega,by simp only[E8,seval]<;>rfl⟩,Tu,yF,by omega,rfl⟩
   ·rcases hX with ⟨rfl,rfl⟩|⟨g,rfl,hg,hh⟩
    ·simp at hj;omega
    ·apply oT (.exit 0)
     ·simp only[Z8,seval,hI,aY,h.sd.iP];rfl
     ·exact⟨rfl,g,L,by simp only[E8,seval,hI,hh],hL,by omega⟩
  case start=>exact⟨0,_,[],by and_intros<;>(simp only[E8,seval]<;>rfl),.inl ⟨rfl,rfl⟩,by simp,rfl,by omega,by omega⟩
  case rest =>
   rintro e st ⟨rfl,g,L,hI,hL,hlL⟩
   have nL:(L.length:Int)<1000000:=by omega
   by_cases d0:((((k).fdiv (2 ^ min 12 IntKind.i64.bits))).tmod 16)=0
   ·have Tu:∀z∈L++[(1:Int)],Rg z:=fun z hz=>(List.mem_append.1 hz).elim (hL z) fun e=>by rw[List.mem_singleton] at e;rw[e];exact⟨by omega,by omega⟩
    simp only[Z8,seval,hI,bt d0,wK _ _ _ _ nL];exact⟨_,by apply eH;rfl;all_goals simp only[aH,Z8,seval,hI,bS,tM,bP,uN,dU]<;>rfl,⟨(nd v.ns i).block.cV.pj,_⟩,L++[1],rfl,rfl,by rw[List.length_append,List.length_cons,List.length_nil];omega,Tu,rc1⟩
   by_cases d1:((((k).fdiv (2 ^ min 12 IntKind.i64.bits))).tmod 16)=1
   ·have z0:(0:Int)≤0:=by omega
    have z1:(0:Int)<(L.length:Int):=by omega
    have z2:0<L.length:=by omega
    have z3:1≤L.length:=z2
    have Tu:∀z∈L.set 0 4611686018427387904,Rg z:=fun z hz=>(List.mem_or_eq_of_mem_set hz).elim (hL z) fun e=>by rw[e];exact⟨by omega,by omega⟩
    have rY:dS (bK L) 0 [.v (.int .u64 4611686018427387904)] 1=bK (L.set 0 4611686018427387904):=by
     cases L with
     | nil=>simp at z2
     | cons a L=>simp[dS,bK,lG]
    simp only[Z8,seval,hI,bf d0,bt d1,z0,z1,z3,rY,Int.toNat_zero,Nat.zero_mul];exact⟨_,by apply eH;rfl;all_goals simp only[aH,Z8,seval,hI,bS,tM,bP,uN,dU]<;>rfl,⟨(nd v.ns i).block.cV.pj,_⟩,L.set 0 4611686018427387904,rfl,by simp only[ov,List.length_set],by rw[List.length_set];omega,Tu,rc1⟩
   simp only[Z8,seval,hI,bf d0,bf d1];exact⟨_,by apply eH;rfl;all_goals simp only[aH,Z8,seval,hI,bS,tM,bP,uN,dU]<;>rfl,⟨(nd v.ns i).block.cV.pj,_⟩,L,rfl,rfl,by omega,hL,rc1⟩
 simp only[Z8,seval,h.sd.tree,gP,hi,m1,m2,bt c0,Ng,Ru];refine cC (fun m st=>∃(j:Nat) (X:AV) (L:List Int),(st.env 1=.v (.int .i64 k)∧st.env 2=.ptr 2 0 0∧st.heap 2 0=some (.cells (aA s))∧st.env 4=.ptr 4 0 0∧st.heap 4 0=some (.cells (cA dZ))∧st.env 6=.ptr 6 0 0∧st.heap 6 0=some (.cells (cA ⟨c2,X⟩))∧st.env 7=.v (.int .i64 j))∧((X=.v (.slice none 0 0)∧L=[])∨∃g,X=.own 55 g∧g<st.aT 55∧st.heap 55 g=some (.row 23 1 L.length (bK L)))∧(∀y∈L,Rg y)∧L.length=j∧j≤(ol v.B).length∧m=(ol v.B).length-j)
  (fun e st=>e=.exit 0∧∃(g:Nat) (L:List Int),(st.env 1=.v (.int .i64 k)∧st.env 2=.ptr 2 0 0∧st.heap 2 0=some (.cells (aA s))∧st.env 4=.ptr 4 0 0∧st.heap 4 0=some (.cells (cA dZ))∧st.env 6=.ptr 6 0 0∧st.heap 6 0=some (.cells (cA ⟨c2,.own 55 g⟩))∧st.heap 55 g=some (.row 23 1 L.length (bK L)))∧(∀y∈L,Rg y)∧L.length=(ol v.B).length) (ol v.B).length ?step ?start ?rest
 case step =>
  rintro m st ⟨j,X,L,hI,hX,hL,hj,hjB,hm⟩
  by_cases aY:(j:Int)<(ol v.B).length
  ·have q0:(0:Int)≤j:=by omega
   have hw:IntKind.i64.wrap ((j:Int)+1)=((j+1:Nat):Int):=by rw[mT _ (by omega) (by omega)];omega
   have nL:(L.length:Int)<1000000:=by omega
   obtain⟨y,hy9⟩:∃y,IntKind.u64.wrap ((k.fdiv (2 ^ min (IntKind.u64.wrap (j:Int)).toNat IntKind.i64.bits)).tmod 50)=y:=⟨_,rfl⟩
   have ry:Rg y:=by rw[← hy9];exact hU _
   have Tu:∀z∈L++[y],Rg z:=fun z hz=>(List.mem_append.1 hz).elim (hL z) fun e=>by rw[List.mem_singleton] at e;rw[e];exact ry
   have yF:(L++[y]).length=j+1:=by rw[List.length_append,List.length_cons,List.length_nil];omega
   rcases hX with ⟨rfl,rfl⟩|⟨g,rfl,hg,hh⟩
   ·apply oN ((ol v.B).length-(j+1))
    ·simp only[Z8,seval,hI,aY,q0,h.sd.iP,xT,hy9,hw];rfl
    ·exact⟨j+1,_,[]++[y],⟨by simp only[E8,seval,hI],by simp only[E8,seval,hI],by simp only[E8,seval,hI],by simp only[E8,seval,hI],by simp only[E8,seval,hI],by simp only[E8,seval,hI],by simp only[E8,seval,hI]<;>rfl,by simp only[E8,seval]⟩,.inr ⟨_,rfl,by simp only[E8,seval]<;>omega,by simp only[E8,seval]<;>rfl⟩,Tu,yF,by omega,rfl⟩
   ·have vC:(g=st.aT 55)=False:=eq_false (by omega)
    apply oN ((ol v.B).length-(j+1))
    ·simp only[Z8,seval,hI,hh,vC,aY,q0,h.sd.iP,xT,hy9,hw,wK _ _ _ _ nL];rfl
    ·exact⟨j+1,_,L++[y],⟨by simp only[E8,seval,hI],by simp only[E8,seval,hI],by simp only[E8,seval,hI],by simp only[E8,seval,hI],by simp only[E8,seval,hI],by simp only[E8,seval,hI],by simp only[E8,seval,hI]<;>rfl,by simp only[E8,seval]⟩,.inr ⟨_,rfl,by simp only[E8,seval]<;>omega,by simp only[E8,seval]<;>rfl⟩,Tu,yF,by omega,rfl⟩
  ·rcases hX with ⟨rfl,rfl⟩|⟨g,rfl,hg,hh⟩
   ·simp at hj;omega
   ·apply oT (.exit 0)
    ·simp only[Z8,seval,hI,aY,h.sd.iP];rfl
    ·exact⟨rfl,g,L,by simp only[E8,seval,hI,hh],hL,by omega⟩
 case start=>exact⟨0,_,[],by and_intros<;>(simp only[E8,seval]<;>rfl),.inl ⟨rfl,rfl⟩,by simp,rfl,by omega,by omega⟩
 case rest =>
  rintro e st ⟨rfl,g,L,hI,hL,hlL⟩
  have nL:(L.length:Int)<1000000:=by omega
  by_cases d0:((((k).fdiv (2 ^ min 12 IntKind.i64.bits))).tmod 16)=0
  ·have Tu:∀z∈L++[(1:Int)],Rg z:=fun z hz=>(List.mem_append.1 hz).elim (hL z) fun e=>by rw[List.mem_singleton] at e;rw[e];exact⟨by omega,by omega⟩
   simp only[Z8,seval,hI,bt d0,wK _ _ _ _ nL];exact⟨_,by apply eH;rfl;all_goals simp only[aH,Z8,seval,hI,bS,tM,bP,uN,dU]<;>rfl,⟨c2,_⟩,L++[1],rfl,rfl,by rw[List.length_append,List.length_cons,List.length_nil];omega,Tu,rc2⟩
  by_cases d1:((((k).fdiv (2 ^ min 12 IntKind.i64.bits))).tmod 16)=1
  ·have z0:(0:Int)≤0:=by omega
   have z1:(0:Int)<(L.length:Int):=by omega
   have z2:0<L.length:=by omega
   have z3:1≤L.length:=z2
   have Tu:∀z∈L.set 0 4611686018427387904,Rg z:=fun z hz=>(List.mem_or_eq_of_mem_set hz).elim (hL z) fun e=>by rw[e];exact⟨by omega,by omega⟩
   have rY:dS (bK L) 0 [.v (.int .u64 4611686018427387904)] 1=bK (L.set 0 4611686018427387904):=by
    cases L with
    | nil=>simp at z2
    | cons a L=>simp[dS,bK,lG]
   simp only[Z8,seval,hI,bf d0,bt d1,z0,z1,z3,rY,Int.toNat_zero,Nat.zero_mul];exact⟨_,by apply eH;rfl;all_goals simp only[aH,Z8,seval,hI,bS,tM,bP,uN,dU]<;>rfl,⟨c2,_⟩,L.set 0 4611686018427387904,rfl,by simp only[ov,List.length_set],by rw[List.length_set];omega,Tu,rc2⟩
  simp only[Z8,seval,hI,bf d0,bf d1];exact⟨_,by apply eH;rfl;all_goals simp only[aH,Z8,seval,hI,bS,tM,bP,uN,dU]<;>rfl,⟨c2,_⟩,L,rfl,rfl,by omega,hL,rc2⟩
structure TD (t:State) (v:SV) (Q R:Option (List Request)):Prop where
 sd:SD t.store v
 Gz:t.iY=ov aF Q
 ret:t.rO=ov aF R
 nQ:((ol Q).length:Int)<900000
 nR:((ol R).length:Int)<900000
theorem TD.fl {t:State} {v:SV} {Q R:Option (List Request)} (h:TD t v Q R):Flat t.store.cFg.iP∧Flat t.store.gK.eB∧Flat t.store.gK.gW∧Flat t.store.cF.early∧Flat t.store.cF.bN∧Flat t.store.tree.nodes∧Flat t.store.tables∧Flat t.iY∧Flat t.rO:=by
 obtain⟨h1,h2,h3,h4,h5,h6,h7⟩:=h.sd.fl
 exact⟨h1,h2,h3,h4,h5,h6,h7,by rw[h.Gz];exact iZ Q,by rw[h.ret];exact iZ R⟩
theorem TD.flat {t:State} {v:SV} {Q R:Option (List Request)} (h:TD t v Q R):Flat (.agg (aQ t)):=(uG t).2 h.fl
def zY (ns:List Node) (r:cN):Prop:=0≤aN ns r∧(nd ns (aN ns r)).status=0
theorem c85 {t:State} {v:SV} {Q R:Option (List Request)} (h:TD t v Q R) (r:cN):aB Tryz.prog 85 [.agg (aQ t),.agg (bF r)]=some (.v (.bool (decide (zY v.ns r)))):=by
 have hr:=eQ v.ns r
 rw[cL Tryz.func85 rfl aRR rfl];refine gX ?_
 by_cases g1:0≤aN v.ns r
 ·by_cases g2:(nd v.ns (aN v.ns r)).status=0
  ·simp only[Z8,seval,h.sd.tree,mS _ _ h.sd.nn,g1,hr.2,bt g2];exact⟨_,bQ rfl (by simp only[E8,seval]<;>rfl) (by first|exact .v _|simp only[dU]),by simp[zY,g1,g2]⟩
  ·simp only[Z8,seval,h.sd.tree,mS _ _ h.sd.nn,g1,hr.2,bf g2];exact⟨_,bQ rfl (by simp only[E8,seval]<;>rfl) (by first|exact .v _|simp only[dU]),by simp[zY,g1,g2]⟩
 ·simp only[Z8,seval,h.sd.tree,mS _ _ h.sd.nn,g1];exact⟨_,bQ rfl (by simp only[E8,seval]<;>rfl) (by first|exact .v _|simp only[dU]),by simp[zY,g1]⟩
theorem k85 {t:State} {v:SV} {Q R:Option (List Request)} (h:TD t v Q R) (r:cN) (st:St) (d:Option Nat):aM (aB Tryz.prog) 85 [.agg (aQ t),.agg (bF r)] st d=some { dst:=d,val:=.v (.bool (decide (zY v.ns r)))}:=kx (c85 h r) (bE h.flat (qU r)) (.v _) st d
def aG7 (t:State) (L:List Request) (r:cN) (n:Int):State:={ t with iY:=ov aF (some (L++[⟨⟨t.dA⟩,r,n,0⟩])),dA:=IntKind.u64.wrap (t.dA+1)}
theorem c86 {t:State} {v:SV} {Q R:Option (List Request)} (h:TD t v Q R) (r:cN) (n:Int):aB Tryz.prog 86 [.agg (aQ t),.agg (bF r),.v (.int .i64 n)]=some (.agg (aQ (aG7 t (ol Q) r n))):=by
 have pJ:=h.fl
 have nq:((ol Q).length:Int)<1000000:=by have:=h.nQ;omega
 rw[cL Tryz.func86 rfl aRS rfl];refine gX ?_
 simp only[Z8,seval,h.Gz,rG _ nq,tP _ _ _ _ nq];exact⟨_,by apply eH;rfl;all_goals simp only[aH,Z8,seval,pJ,bS,vX,gJ,bP,cW,pM,dU]<;>rfl,rfl⟩
noncomputable def pN (ns:List Node) (l:List Request):List Request:=l.filter fun r=>decide (0≤aN ns r.block)
theorem c91 {t:State} {v:SV} {Q R:Option (List Request)} (h:TD t v Q R) (o:Option (List Request)) (hn:((ol o).length:Int)<1000000):aB Tryz.prog 91 [.agg (aQ t),ov aF o]=some (Oe 63 35 aF (pN v.ns (ol o))):=by
 rw[cL Tryz.func91 rfl aRT (by cases o<;>rfl)]
 refine gX ?_
 simp only[Z8,seval];refine cC (fun m st=>∃k:Nat,(st.env 2=.ptr 2 0 0∧st.heap 2 0=some (.cells (aQ t))∧st.env 1=ov aF o∧st.env 6=.v (.int .i64 k))∧(((((ol o).take k).filter (fun r=>decide (0≤aN v.ns r.block)))=[]∧st.env 5=.v (.slice none 0 0))∨((((ol o).take k).filter (fun r=>decide (0≤aN v.ns r.block)))≠[]∧∃g,st.env 5=.own 29 g∧g<st.aT 29∧st.heap 29 g=some (.row 63 35 (((ol o).take k).filter (fun r=>decide (0≤aN v.ns r.block))).length (aF (((ol o).take k).filter (fun r=>decide (0≤aN v.ns r.block)))))))∧k≤(ol o).length∧m=(ol o).length-k)
  (fun e st=>e=.exit 0∧(((((ol o).take (ol o).length).filter (fun r=>decide (0≤aN v.ns r.block)))=[]∧st.env 5=.v (.slice none 0 0))∨((((ol o).take (ol o).length).filter (fun r=>decide (0≤aN v.ns r.block)))≠[]∧∃g,st.env 5=.own 29 g∧g<st.aT 29∧st.heap 29 g=some (.row 63 35 (((ol o).take (ol o).length).filter (fun r=>decide (0≤aN v.ns r.block))).length (aF (((ol o).take (ol o).length).filter (fun r=>decide (0≤aN v.ns r.block)))))))∧st.env 2=.ptr 2 0 0∧st.heap 2 0=some (.cells (aQ t))∧st.env 1=ov aF o) ((ol o).length) ?step ?start ?rest
 case step =>
  rintro m st ⟨k,hI,h5,hk,hm⟩
  have Gx:(((((ol o).take k).filter (fun r=>decide (0≤aN v.ns r.block))).length:Nat):Int)<1000000:=by have:=List.length_filter_le (fun r=>decide (0≤aN v.ns r.block)) ((ol o).take k);have h2:=List.length_take_le' k (ol o);omega
  by_cases aY:(k:Int)<(ol o).length
  ·have q0:(0:Int)≤k:=by omega
   have hw:IntKind.i64.wrap ((k:Int)+1)=((k+1:Nat):Int):=by rw[mT _ (by omega) (by omega)];omega
   have hs:=yV cY (fun r=>decide (0≤aN v.ns r.block)) (ol o) k (by omega)
   by_cases hh:0≤aN v.ns (gx cY (ol o) (k:Int)).block
   ·rw[if_pos (decide_eq_true hh)] at hs;rcases h5 with ⟨hy,h5⟩|⟨hy,g,h5⟩
    ·rw[hy] at hs;apply oN ((ol o).length-(k+1))
     ·simp only[Z8,seval,hI,h5,aY,hw,q0,h.sd.tree,mS _ _ h.sd.nn,hh];rfl
     ·exact⟨k+1,by simp only[E8,seval,hI],.inr ⟨by rw[hs];simp,_,by simp only[E8,seval]<;>rfl,(by simp only[E8,seval]<;>omega),(by rw[hs];simp only[E8,seval]<;>rfl)⟩,by omega,rfl⟩
    ·apply oN ((ol o).length-(k+1))
     ·simp only[Z8,seval,hI,h5,Gx,aY,hw,q0,h.sd.tree,mS _ _ h.sd.nn,hh];rfl
     ·exact⟨k+1,by simp only[E8,seval,hI],.inr ⟨by rw[hs];simp,_,by simp only[E8,seval]<;>rfl,(by simp only[E8,seval]<;>omega),(by rw[hs];simp only[E8,seval]<;>rfl)⟩,by omega,rfl⟩
   ·rw[if_neg (by simpa using hh),List.append_nil] at hs
    apply oN ((ol o).length-(k+1))
    ·simp only[Z8,seval,hI,aY,hw,q0,h.sd.tree,mS _ _ h.sd.nn,hh];rfl
    ·exact⟨k+1,by simp only[E8,seval,hI],by rw[hs];simpa only[E8,seval] using h5,by omega,rfl⟩
  ·have Aq:k=(ol o).length:=by omega
   rw[Aq] at h5;apply oT (.exit 0)
   ·simp only[Z8,seval,hI,aY];rfl
   ·exact⟨rfl,by simpa only[E8,seval] using h5,by simp only[E8,seval,hI]⟩
 case start=>exact⟨0,by simp only[E8,seval]<;>rfl,.inl ⟨rfl,by simp only[E8,seval]⟩,by omega,by omega⟩
 case rest =>
  rintro e st ⟨rfl,⟨hy,h5⟩|⟨hy,g,h5,hg,As⟩,hI⟩
  ·rw[List.take_length] at hy;rw[show Oe 63 35 aF (pN v.ns (ol o))=.v (.slice none 0 0) from if_pos hy];simp only[Z8,seval,h5];exact⟨_,bQ rfl (by simp only[E8,seval,h5]<;>rfl) (by first|exact .v _|simp only[dU,h5]),rfl⟩
  ·rw[List.take_length] at hy As;rw[show Oe 63 35 aF (pN v.ns (ol o))=.uniq 63 35 (pN v.ns (ol o)).length (aF (pN v.ns (ol o))) from if_neg hy];simp only[Z8,seval,h5];exact⟨_,tU rfl (by simp only[E8,seval,h5]<;>rfl) (by simp only[E8,seval,As]<;>rfl) (uK _),rfl⟩
noncomputable def VM (t:State) (v:SV) (Q R:Option (List Request)):State:={ t with iY:=ov aF (nz (pN v.ns (ol Q))),rO:=ov aF (nz (pN v.ns (ol R)))}
theorem c36 {t:State} {v:SV} {Q R:Option (List Request)} (h:TD t v Q R):aB Tryz.prog 36 [.agg (aQ t)]=some (.agg (aQ (VM t v Q R))):=by
 have pJ:=h.fl
 have hf:=h.flat
 have cQ:=c91 h Q (by have:=h.nQ;omega)
 have cR:=c91 h R (by have:=h.nR;omega)
 rw[cL Tryz.func36 rfl aRU rfl];refine gX ?_
 by_cases e1:pN v.ns (ol Q)=[]
 ·rw[show Oe 63 35 aF (pN v.ns (ol Q))=.v (.slice none 0 0) from if_pos e1] at cQ;have z1:nz (pN v.ns (ol Q))=none:=if_pos e1
  have kQ:=kx cQ (bE hf (iZ Q)) (.v _)
  by_cases e2:pN v.ns (ol R)=[]
  ·rw[show Oe 63 35 aF (pN v.ns (ol R))=.v (.slice none 0 0) from if_pos e2] at cR;have z2:nz (pN v.ns (ol R))=none:=if_pos e2
   have kR:=kx cR (bE hf (iZ R)) (.v _)
   simp only[Z8,seval,h.Gz,h.ret,kQ,kR];exact⟨_,fJ rfl (by simp only[E8,seval,pJ]<;>rfl) (by simp only[Z8,seval,pJ]<;>rfl) (by simp only[dU,and_self,pJ]),by unfold VM;rw[z1,z2];rfl⟩
  ·rw[show Oe 63 35 aF (pN v.ns (ol R))=.uniq 63 35 (pN v.ns (ol R)).length (aF (pN v.ns (ol R))) from if_neg e2] at cR;have z2:nz (pN v.ns (ol R))=some (pN v.ns (ol R)):=if_neg e2
   have kR:∀(st:St) (d:Nat),aM (aB Tryz.prog) 91 [.agg (aQ t),ov aF R] st (some d)=_:=fun st d=>jF (st:=st) (d:=d) (bE hf (iZ R)) cR
   simp only[Z8,seval,h.Gz,h.ret,kQ,kR];exact⟨_,by apply eH;rfl;all_goals simp only[aH,Z8,seval,pJ,bS,vX,gJ,bP,cW,pM,dU]<;>rfl,by unfold VM;rw[z1,z2];rfl⟩
 ·rw[show Oe 63 35 aF (pN v.ns (ol Q))=.uniq 63 35 (pN v.ns (ol Q)).length (aF (pN v.ns (ol Q))) from if_neg e1] at cQ;have z1:nz (pN v.ns (ol Q))=some (pN v.ns (ol Q)):=if_neg e1
  have kQ:∀(st:St) (d:Nat),aM (aB Tryz.prog) 91 [.agg (aQ t),ov aF Q] st (some d)=_:=fun st d=>jF (st:=st) (d:=d) (bE hf (iZ Q)) cQ
  by_cases e2:pN v.ns (ol R)=[]
  ·rw[show Oe 63 35 aF (pN v.ns (ol R))=.v (.slice none 0 0) from if_pos e2] at cR;have z2:nz (pN v.ns (ol R))=none:=if_pos e2
   have kR:=kx cR (bE hf (iZ R)) (.v _)
   simp only[Z8,seval,h.Gz,h.ret,kQ,kR];exact⟨_,by apply eH;rfl;all_goals simp only[aH,Z8,seval,pJ,bS,vX,gJ,bP,cW,pM,dU]<;>rfl,by unfold VM;rw[z1,z2];rfl⟩
  ·rw[show Oe 63 35 aF (pN v.ns (ol R))=.uniq 63 35 (pN v.ns (ol R)).length (aF (pN v.ns (ol R))) from if_neg e2] at cR;have z2:nz (pN v.ns (ol R))=some (pN v.ns (ol R)):=if_neg e2
   have kR:∀(st:St) (d:Nat),aM (aB Tryz.prog) 91 [.agg (aQ t),ov aF R] st (some d)=_:=fun st d=>jF (st:=st) (d:=d) (bE hf (iZ R)) cR
   simp only[Z8,seval,h.Gz,h.ret,kQ,kR];exact⟨_,by apply eH;rfl;all_goals simp only[aH,Z8,seval,pJ,bS,vX,gJ,bP,cW,pM,dU]<;>rfl,by unfold VM;rw[z1,z2];rfl⟩
theorem TD.drp {t:State} {v:SV} {Q R:Option (List Request)} (h:TD t v Q R):TD (VM t v Q R) v (nz (pN v.ns (ol Q))) (nz (pN v.ns (ol R))):=by
 have h1:=List.length_filter_le (fun r:Request=>decide (0≤aN v.ns r.block)) (ol Q)
 have h2:=List.length_filter_le (fun r:Request=>decide (0≤aN v.ns r.block)) (ol R)
 refine⟨h.sd,rfl,rfl, ?_, ?_⟩
 ·rw[nF];have:=h.nQ;unfold pN;omega
 ·rw[nF];have:=h.nR;unfold pN;omega
noncomputable def p4 (ns:List Node) (p:Option (List Request) × Int) (r:cN):Option (List Request) × Int:=if zY ns r then (some (ol p.1++[⟨⟨p.2⟩,r,0,0⟩]),IntKind.u64.wrap (p.2+1)) else p
noncomputable def Nh (ns:List Node) (p:Option (List Request) × Int) (l:List cN):Option (List Request) × Int:=l.foldl (p4 ns) p
theorem W5 (ns:List Node) (a:Option (List Request) × Int) (l:List cN) (k:Nat) (h:k<l.length):Nh ns a (l.take (k+1))=p4 ns (Nh ns a (l.take k)) (gx dV l k):=by
 unfold Nh;rw[List.take_succ_eq_append_getElem h,List.foldl_append];simp[gx,h]
def VN (t:State) (p:Option (List Request) × Int):State:={ t with iY:=ov aF p.1,dA:=p.2 }
theorem TD.VN {t:State} {v:SV} {Q R:Option (List Request)} (h:TD t v Q R) (p:Option (List Request) × Int) (hn:((ol p.1).length:Int)<900000):TD (VN t p) v p.1 R:=⟨h.sd,rfl,h.ret,hn,h.nR⟩
theorem aG8 {t:State} {v:SV} {Q R:Option (List Request)} (h:TD t v Q R):Tryz.VN t (Q,t.dA)=t:=by unfold Tryz.VN;simp only;rw[← h.Gz]
theorem aC0 (ns:List Node) (p:Option (List Request) × Int) (r:cN):(ol (p4 ns p r).1).length≤(ol p.1).length+1:=by
 unfold p4;split
 ·show (ol p.1++[_]).length≤_;rw[List.length_append,List.length_cons,List.length_nil];omega
 ·omega
theorem p5 (ns:List Node) (p:Option (List Request) × Int) (l:List cN):(ol (Nh ns p l).1).length≤(ol p.1).length+l.length:=by
 induction l generalizing p with
 | nil=>exact Nat.le_refl _
 | cons r l ih=>have h1:=ih (p4 ns p r);have h2:=aC0 ns p r;rw[List.length_cons];show (ol (Nh ns (p4 ns p r) l).1).length≤_;omega
theorem c32 {t:State} {v:SV} {Q R:Option (List Request)} (h:TD t v Q R) (L:Option (List cN)) (hn:((ol Q).length:Int)+(ol L).length<800000):aB Tryz.prog 32 [.agg (aQ t),ov gZ L]=some (.agg (aQ (Tryz.VN t (Nh v.ns (Q,t.dA) (ol L))))):=by
 have hT:∀k:Nat,k≤(ol L).length→TD (Tryz.VN t (Nh v.ns (Q,t.dA) ((ol L).take k))) v (Nh v.ns (Q,t.dA) ((ol L).take k)).1 R:=fun k hk=>h.VN _ (by
  have:=p5 v.ns (Q,t.dA) ((ol L).take k);rw[List.length_take] at this;have e:ol (Q,t.dA).1=ol Q:=rfl;rw[e] at this;omega)
 rw[cL Tryz.func32 rfl aRV (by cases L<;>rfl)]
 refine gX ?_
 simp only[Z8,seval];refine cC (fun m st=>∃k:Nat,(st.env 1=ov gZ L∧st.env 2=.ptr 2 0 0∧st.heap 2 0=some (.cells (aQ (Tryz.VN t (Nh v.ns (Q,t.dA) ((ol L).take k)))))∧st.env 4=.ptr 4 0 0∧st.heap 4 0=some (.cells (aQ lZ))∧st.env 5=.v (.int .i64 k))∧k≤(ol L).length∧m=(ol L).length-k)
  (fun e st=>e=.exit 0∧(st.env 2=.ptr 2 0 0∧st.heap 2 0=some (.cells (aQ (Tryz.VN t (Nh v.ns (Q,t.dA) (ol L)))))∧st.env 4=.ptr 4 0 0∧st.heap 4 0=some (.cells (aQ lZ)))) (ol L).length ?step ?start ?rest
 case step =>
  rintro m st ⟨k,hI,hk,hm⟩
  by_cases aY:(k:Int)<(ol L).length
  ·have q0:(0:Int)≤k:=by omega
   have hw:IntKind.i64.wrap ((k:Int)+1)=((k+1:Nat):Int):=by rw[mT _ (by omega) (by omega)];omega
   have hs:=W5 v.ns (Q,t.dA) (ol L) k (by omega)
   have hTk:=hT k hk
   have G3:=k85 hTk (gx dV (ol L) (k:Int))
   by_cases g1:zY v.ns (gx dV (ol L) (k:Int))
   ·have hT1:=hT (k+1) (by omega)
    have k86':=kx (c86 hTk (gx dV (ol L) (k:Int)) 0) (lM hTk.flat (qU _) (.v _)) (by
     have:aG7 (Tryz.VN t (Nh v.ns (Q,t.dA) ((ol L).take k))) (ol (Nh v.ns (Q,t.dA) ((ol L).take k)).1) (gx dV (ol L) (k:Int)) 0=Tryz.VN t (Nh v.ns (Q,t.dA) ((ol L).take (k+1))):=by rw[hs,p4,if_pos g1];rfl
     rw[this];exact hT1.flat)
    have he:aG7 (Tryz.VN t (Nh v.ns (Q,t.dA) ((ol L).take k))) (ol (Nh v.ns (Q,t.dA) ((ol L).take k)).1) (gx dV (ol L) (k:Int)) 0=Tryz.VN t (Nh v.ns (Q,t.dA) ((ol L).take (k+1))):=by rw[hs,p4,if_pos g1];rfl
    rw[he] at k86'
    apply oN ((ol L).length-(k+1))
    ·simp only[Z8,seval,hI,aY,q0,G3,g1,k86',hw];rfl
    ·exact⟨k+1,by simp only[E8,seval,hI],by omega,rfl⟩
   ·rw[p4,if_neg g1] at hs;apply oN ((ol L).length-(k+1))
    ·simp only[Z8,seval,hI,aY,q0,G3,g1,hw];rfl
    ·exact⟨k+1,by simp only[E8,seval,hI,hs],by omega,rfl⟩
  ·have Aq:k=(ol L).length:=by omega
   rw[Aq,List.take_length] at hI;apply oT (.exit 0)
   ·simp only[Z8,seval,hI,Int.lt_irrefl];rfl
   ·exact⟨rfl,by simp only[E8,seval,hI]⟩
 case start=>exact⟨0,by rw[List.take_zero,show Nh v.ns (Q,t.dA) []=(Q,t.dA) from rfl,aG8 h];simp only[E8,seval]<;>rfl,by omega,by omega⟩
 case rest =>
  rintro e st ⟨rfl,hI⟩
  have hT1:=(hT (ol L).length (Nat.le_refl _)).fl
  rw[List.take_length] at hT1;simp only[Z8,seval,hI];exact⟨_,fJ rfl (by simp only[E8,seval,hI,hT1]<;>rfl) (by simp only[Z8,seval,hI,hT1]<;>rfl) (by simp only[dU,and_self,hI,hT1]),rfl⟩
noncomputable def NT (b:Int):Nat→Int→Int
 | 0,d=>d
 | n+1,d=>if IntKind.u64.wrap (b-d)≤d then b else NT b n (IntKind.u64.wrap (2 * d))
noncomputable def VO (n b:Int):Int:=if b=0 then 0 else NT b (n-1).toNat 1
theorem aRX (n b:Int) (hn:n≤9223372036854775807):aB Tryz.prog 143 [.v (.int .i64 n),.v (.int .u64 b)]=some (.v (.int .u64 (VO n b))):=by
 rw[cL Tryz.func143 rfl aMS rfl];refine gX ?_
 by_cases g0:b=0
 ·simp only[Z8,seval,bt g0];exact⟨_,bQ rfl (by simp only[E8,seval]<;>rfl) (by first|exact .v _|simp only[dU]),by rw[VO,if_pos g0]⟩
 simp only[Z8,seval,bf g0];refine cC (fun m st=>∃(k:Nat) (d i:Int),(st.env 0=.v (.int .i64 n)∧st.env 1=.v (.int .u64 b)∧st.env 5=.v (.int .u64 d)∧st.env 6=.v (.int .i64 i))∧i=k+1∧NT b ((n-1).toNat-k) d=NT b (n-1).toNat 1∧k≤(n-1).toNat∧m=(n-1).toNat-k)
  (fun e st=>(e=.ret∧st.env 4=.v (.int .u64 (NT b (n-1).toNat 1)))∨(e=.exit 0∧st.env 5=.v (.int .u64 (NT b (n-1).toNat 1)))) (n-1).toNat ?step ?start ?rest
 case step =>
  rintro m st ⟨k,d,i,hI,hi,hd,hk,hm⟩
  by_cases aY:i<n
  ·have hw:IntKind.i64.wrap (i+1)=i+1:=mT _ (by omega) (by omega)
   have e1:(n-1).toNat-k=((n-1).toNat-(k+1))+1:=by omega
   rw[e1,NT] at hd;by_cases g1:IntKind.u64.wrap (b-d)≤d
   ·rw[if_pos g1] at hd;apply oT (.ret)
    ·simp only[Z8,seval,hI,aY,g1];rfl
    ·exact .inl ⟨rfl,by rw[← hd];simp only[E8,seval]⟩
   ·rw[if_neg g1] at hd;apply oN ((n-1).toNat-(k+1))
    ·simp only[Z8,seval,hI,aY,g1,hw];rfl
    ·exact⟨k+1,_,i+1,by and_intros<;>(simp only[E8,seval,hI]<;>rfl),by omega,hd,by omega,rfl⟩
  ·have e1:(n-1).toNat-k=0:=by omega
   rw[e1,NT] at hd;apply oT (.exit 0)
   ·simp only[Z8,seval,hI,aY];rfl
   ·exact .inr ⟨rfl,by rw[← hd];simp only[E8,seval,hI]⟩
 case start=>exact⟨0,1,1,by and_intros<;>(simp only[E8,seval]<;>rfl),rfl,rfl,by omega,by omega⟩
 case rest =>
  rintro e st (⟨rfl,h⟩|⟨rfl,h⟩)
  ·simp only[Z8,seval,h];exact⟨_,bQ rfl (by simp only[E8,seval,h]<;>rfl) (by first|exact .v _|simp only[dU,h]),by rw[VO,if_neg g0]⟩
  ·simp only[Z8,seval,h];exact⟨_,bQ rfl (by simp only[E8,seval,h]<;>rfl) (by first|exact .v _|simp only[dU,h]),by rw[VO,if_neg g0]⟩
theorem aRY (n b:Int) (hn:n≤9223372036854775807) (st:St) (d:Option Nat):aM (aB Tryz.prog) 143 [.v (.int .i64 n),.v (.int .u64 b)] st d=some { dst:=d,val:=.v (.int .u64 (VO n b))}:=kx (aRX n b hn) (bE (.v _) (.v _)) (.v _) st d
theorem x37 {s:aL} {v:SV} {q:Int} (h:GI s v q) (r:RG s v) (hB:0<(ol v.B).length∧(ol v.B).length≤64) (k:Int) (hk:0≤k):∃x,aB Tryz.prog 37 [.agg (aA s),.v (.int .i64 k)]=some x∧∃(a:sG) (V:List Int),x=.agg (iD a)∧a.eZ=ov aK (some V)∧(V.length:Int)≤1000∧Rg a.slot∧Rg a.target.aE:=by
 have hn:=h.sd.nn
 have hp:(0:Int)<(v.ns.length:Int):=by have:=h.pos;omega
 have gP:¬((v.ns.length:Int)=0):=by omega
 obtain⟨m1,m2⟩:=cK (n:=(v.ns.length:Int)) hk hp
 obtain⟨i,hi⟩:∃i,k.tmod (v.ns.length:Int)=i:=⟨_,rfl⟩
 rw[hi] at m1 m2;obtain⟨m3,m4⟩:=cK (n:=(v.ns.length:Int)) (Bg hk (min 4 IntKind.i64.bits)) hp
 have Ng:=h.sp
 obtain⟨l,kl,hl⟩:=k45 (ol v.B).length ((k).fdiv (2 ^ min 3 IntKind.i64.bits)) (by omega) (by omega)
 have nl:(l.length:Int)<1000000:=by omega
 have rn:Rg s.now:=⟨r.now.1,by have:=r.now.2;omega⟩
 rw[cL Tryz.func37 rfl aRZ rfl];by_cases g1:0<((((k).fdiv (2 ^ min 9 IntKind.i64.bits))).tmod 4)
 case neg =>
  obtain⟨y,hy,c,rfl,rc⟩:=x92 h r i (IntKind.u64.wrap ((s.now).tdiv s.cFg.jL)) (hU _)
  have Ru:=kx hy (lM h.sd.flat (.v _) (.v _)) (.agg _ (bM _))
  by_cases d0:((((k).fdiv (2 ^ min 12 IntKind.i64.bits))).tmod 20)=0
  ·simp only[Z8,seval,h.sd.tree,h.sd.iP,gP,hi,m1,m2,kl,g1,Ng,Ru,bt d0];exact⟨_,by apply eH;rfl;all_goals simp only[aH,Z8,seval,bS,mA,bP,cW,kA,dU]<;>rfl,_,l,rfl,rfl,by omega,rn,hU _⟩
  by_cases d1:((((k).fdiv (2 ^ min 12 IntKind.i64.bits))).tmod 20)=1
  ·simp only[Z8,seval,h.sd.tree,h.sd.iP,gP,hi,m1,m2,kl,g1,Ng,Ru,bf d0,bt d1,Ra];exact⟨_,by apply eH;rfl;all_goals simp only[aH,Z8,seval,bS,mA,bP,cW,kA,dU]<;>rfl,_,l,rfl,rfl,by omega,rn,rc⟩
  by_cases d2:((((k).fdiv (2 ^ min 12 IntKind.i64.bits))).tmod 20)=2
  ·simp only[Z8,seval,h.sd.tree,h.sd.iP,gP,hi,m1,m2,kl,g1,Ng,Ru,bf d0,bf d1,bt d2,m3,m4];exact⟨_,by apply eH;rfl;all_goals simp only[aH,Z8,seval,bS,mA,bP,cW,kA,dU]<;>rfl,_,l,rfl,rfl,by omega,rn,rc⟩
  by_cases d3:((((k).fdiv (2 ^ min 12 IntKind.i64.bits))).tmod 20)=3
  ·simp only[Z8,seval,h.sd.tree,h.sd.iP,gP,hi,m1,m2,kl,g1,Ng,Ru,bf d0,bf d1,bf d2,bt d3];exact⟨_,by apply eH;rfl;all_goals simp only[aH,Z8,seval,bS,mA,bP,cW,kA,dU]<;>rfl,_,l,rfl,rfl,by omega,hU _,rc⟩
  by_cases d4:((((k).fdiv (2 ^ min 12 IntKind.i64.bits))).tmod 20)=4
  ·simp only[Z8,seval,h.sd.tree,h.sd.iP,gP,hi,m1,m2,kl,g1,Ng,Ru,bf d0,bf d1,bf d2,bf d3,bt d4,Ez _ _ _ _ nl];exact⟨_,by apply eH;rfl;all_goals simp only[aH,Z8,seval,bS,mA,bP,cW,kA,dU]<;>rfl,_,l++[((((k).fdiv (2 ^ min 17 IntKind.i64.bits))).tmod 9)],rfl,rfl,by rw[List.length_append,List.length_cons,List.length_nil];omega,rn,rc⟩
  simp only[Z8,seval,h.sd.tree,h.sd.iP,gP,hi,m1,m2,kl,g1,Ng,Ru,bf d0,bf d1,bf d2,bf d3,bf d4];exact⟨_,by apply eH;rfl;all_goals simp only[aH,Z8,seval,bS,mA,bP,cW,kA,dU]<;>rfl,_,l,rfl,rfl,by omega,rn,rc⟩
 by_cases g2:0<s.now
 case neg =>
  obtain⟨y,hy,c,rfl,rc⟩:=x92 h r i (IntKind.u64.wrap ((s.now).tdiv s.cFg.jL)) (hU _)
  have Ru:=kx hy (lM h.sd.flat (.v _) (.v _)) (.agg _ (bM _))
  by_cases d0:((((k).fdiv (2 ^ min 12 IntKind.i64.bits))).tmod 20)=0
  ·simp only[Z8,seval,h.sd.tree,h.sd.iP,gP,hi,m1,m2,kl,g1,g2,Ng,Ru,bt d0];exact⟨_,by apply eH;rfl;all_goals simp only[aH,Z8,seval,bS,mA,bP,cW,kA,dU]<;>rfl,_,l,rfl,rfl,by omega,rn,hU _⟩
  by_cases d1:((((k).fdiv (2 ^ min 12 IntKind.i64.bits))).tmod 20)=1
  ·simp only[Z8,seval,h.sd.tree,h.sd.iP,gP,hi,m1,m2,kl,g1,g2,Ng,Ru,bf d0,bt d1,Ra];exact⟨_,by apply eH;rfl;all_goals simp only[aH,Z8,seval,bS,mA,bP,cW,kA,dU]<;>rfl,_,l,rfl,rfl,by omega,rn,rc⟩
  by_cases d2:((((k).fdiv (2 ^ min 12 IntKind.i64.bits))).tmod 20)=2
  ·simp only[Z8,seval,h.sd.tree,h.sd.iP,gP,hi,m1,m2,kl,g1,g2,Ng,Ru,bf d0,bf d1,bt d2,m3,m4];exact⟨_,by apply eH;rfl;all_goals simp only[aH,Z8,seval,bS,mA,bP,cW,kA,dU]<;>rfl,_,l,rfl,rfl,by omega,rn,rc⟩
  by_cases d3:((((k).fdiv (2 ^ min 12 IntKind.i64.bits))).tmod 20)=3
  ·simp only[Z8,seval,h.sd.tree,h.sd.iP,gP,hi,m1,m2,kl,g1,g2,Ng,Ru,bf d0,bf d1,bf d2,bt d3];exact⟨_,by apply eH;rfl;all_goals simp only[aH,Z8,seval,bS,mA,bP,cW,kA,dU]<;>rfl,_,l,rfl,rfl,by omega,hU _,rc⟩
  by_cases d4:((((k).fdiv (2 ^ min 12 IntKind.i64.bits))).tmod 20)=4
  ·simp only[Z8,seval,h.sd.tree,h.sd.iP,gP,hi,m1,m2,kl,g1,g2,Ng,Ru,bf d0,bf d1,bf d2,bf d3,bt d4,Ez _ _ _ _ nl];exact⟨_,by apply eH;rfl;all_goals simp only[aH,Z8,seval,bS,mA,bP,cW,kA,dU]<;>rfl,_,l++[((((k).fdiv (2 ^ min 17 IntKind.i64.bits))).tmod 9)],rfl,rfl,by rw[List.length_append,List.length_cons,List.length_nil];omega,rn,rc⟩
  simp only[Z8,seval,h.sd.tree,h.sd.iP,gP,hi,m1,m2,kl,g1,g2,Ng,Ru,bf d0,bf d1,bf d2,bf d3,bf d4];exact⟨_,by apply eH;rfl;all_goals simp only[aH,Z8,seval,bS,mA,bP,cW,kA,dU]<;>rfl,_,l,rfl,rfl,by omega,rn,rc⟩
 obtain⟨y,hy,c,rfl,rc⟩:=x92 h r i (IntKind.u64.wrap ((IntKind.u64.wrap (s.now-1)).tdiv s.cFg.jL)) (hU _)
 have Ru:=kx hy (lM h.sd.flat (.v _) (.v _)) (.agg _ (bM _))
 by_cases d0:((((k).fdiv (2 ^ min 12 IntKind.i64.bits))).tmod 20)=0
 ·simp only[Z8,seval,h.sd.tree,h.sd.iP,gP,hi,m1,m2,kl,g1,g2,Ng,Ru,bt d0];exact⟨_,by apply eH;rfl;all_goals simp only[aH,Z8,seval,bS,mA,bP,cW,kA,dU]<;>rfl,_,l,rfl,rfl,by omega,hU _,hU _⟩
 by_cases d1:((((k).fdiv (2 ^ min 12 IntKind.i64.bits))).tmod 20)=1
 ·simp only[Z8,seval,h.sd.tree,h.sd.iP,gP,hi,m1,m2,kl,g1,g2,Ng,Ru,bf d0,bt d1,Ra];exact⟨_,by apply eH;rfl;all_goals simp only[aH,Z8,seval,bS,mA,bP,cW,kA,dU]<;>rfl,_,l,rfl,rfl,by omega,hU _,rc⟩
 by_cases d2:((((k).fdiv (2 ^ min 12 IntKind.i64.bits))).tmod 20)=2
 ·simp only[Z8,seval,h.sd.tree,h.sd.iP,gP,hi,m1,m2,kl,g1,g2,Ng,Ru,bf d0,bf d1,bt d2,m3,m4];exact⟨_,by apply eH;rfl;all_goals simp only[aH,Z8,seval,bS,mA,bP,cW,kA,dU]<;>rfl,_,l,rfl,rfl,by omega,hU _,rc⟩
 by_cases d3:((((k).fdiv (2 ^ min 12 IntKind.i64.bits))).tmod 20)=3
 ·simp only[Z8,seval,h.sd.tree,h.sd.iP,gP,hi,m1,m2,kl,g1,g2,Ng,Ru,bf d0,bf d1,bf d2,bt d3];exact⟨_,by apply eH;rfl;all_goals simp only[aH,Z8,seval,bS,mA,bP,cW,kA,dU]<;>rfl,_,l,rfl,rfl,by omega,hU _,rc⟩
 by_cases d4:((((k).fdiv (2 ^ min 12 IntKind.i64.bits))).tmod 20)=4
 ·simp only[Z8,seval,h.sd.tree,h.sd.iP,gP,hi,m1,m2,kl,g1,g2,Ng,Ru,bf d0,bf d1,bf d2,bf d3,bt d4,Ez _ _ _ _ nl];exact⟨_,by apply eH;rfl;all_goals simp only[aH,Z8,seval,bS,mA,bP,cW,kA,dU]<;>rfl,_,l++[((((k).fdiv (2 ^ min 17 IntKind.i64.bits))).tmod 9)],rfl,rfl,by rw[List.length_append,List.length_cons,List.length_nil];omega,hU _,rc⟩
 simp only[Z8,seval,h.sd.tree,h.sd.iP,gP,hi,m1,m2,kl,g1,g2,Ng,Ru,bf d0,bf d1,bf d2,bf d3,bf d4];exact⟨_,by apply eH;rfl;all_goals simp only[aH,Z8,seval,bS,mA,bP,cW,kA,dU]<;>rfl,_,l,rfl,rfl,by omega,hU _,rc⟩
theorem iU {call:Nat→List AV→Option AV} {ops:Array Oper} {st:St} {T:Nat} {pos:String} {eU:Array Edge} (d:Nat):cI Tryz.prog call ops ⟨some d,.buildSlice 22 6 #[(0,.const (.int .i64 1)),(1,.const (.int .i64 1)),(2,.const (.int .i64 2)),(3,.const (.int .i64 2)),(4,.const (.int .i64 3)),(5,.const (.int .i64 4))],T,pos,eU,none⟩ st =
 some ((st.new d (.row 3 1 6 (aK [1,1,2,2,3,4]))).put (some d) (.own d (st.aT d))):=by
 rw[kZ];simp[Ln,ze3,cT,St.ev,AV.jD,Value.oneCell',gS,AV.cells,List.range,List.range.loop,aK,qV]
theorem x25 {t:State} {v:SV} {Q R:Option (List Request)} {q:Int} (hT:TD t v Q R) (h:GI t.store v q) (hq:∀r∈ol Q,Rg r.tagged.tag) (k:Int) (hk:0≤k):∃x,aB Tryz.prog 25 [.agg (aQ t),.v (.int .i64 k)]=some x∧∃w:gV,x=.agg (dL w)∧Rg w.tagged.tag:=by
 have hn:=h.sd.nn
 have hp:(0:Int)<(v.ns.length:Int):=by have:=h.pos;omega
 have gP:¬((v.ns.length:Int)=0):=by omega
 obtain⟨m1,m2⟩:=cK (n:=(v.ns.length:Int)) hk hp
 obtain⟨j0,j1⟩:=cK (n:=6) (Bg hk (min 4 IntKind.i64.bits)) (by omega)
 obtain⟨j,hj⟩:∃j,((((k).fdiv (2 ^ min 4 IntKind.i64.bits))).tmod 6)=j:=⟨_,rfl⟩
 rw[hj] at j0 j1;have g6:=nX (l:=[1,1,2,2,3,4]) j0 (by show j<((6:Nat):Int);omega)
 have fv:∀w:gV,Flat (.agg (dL w))=True:=fun w=>eq_true (.agg _ (jR w))
 have P0:=hU (k.tmod 9)
 rw[cG Tryz.func25 rfl aR0 (by kernel_rfl) rfl]
 by_cases g1:(0:Int)<((ol Q).length:Int)
 case neg =>
  by_cases p0:0≤aN v.ns ((nd v.ns (k.tmod (v.ns.length:Int))).block.root)
  case neg =>
   have kp:=fun st d=>C5 v.ns (aN v.ns ((nd v.ns (k.tmod (v.ns.length:Int))).block.root)) (fun hh=>p0 hh.1) st d
   by_cases e2:((((k).fdiv (2 ^ min 14 IntKind.i64.bits))).tmod 16)=0
   ·simp only[ZG,seval,Bool.false_and,Prod.mk.injEq,Gq,iU,hj,j0,j1,g6,hT.Gz,h.sd.tree,gP,m1,m2,mS _ _ hn,g1,kp,bt e2,Ra];exact⟨_,fJ rfl (by simp only[E8,seval,fv]<;>rfl) (by simp only[Z8,seval,fv]<;>rfl) (by simp only[dU,and_self,fv]),_,rfl,P0⟩
   simp only[ZG,seval,Bool.false_and,Prod.mk.injEq,Gq,iU,hj,j0,j1,g6,hT.Gz,h.sd.tree,gP,m1,m2,mS _ _ hn,g1,kp,bf e2];exact⟨_,fJ rfl (by simp only[E8,seval,fv]<;>rfl) (by simp only[Z8,seval,fv]<;>rfl) (by simp only[dU,and_self,fv]),_,rfl,P0⟩
  have pr:=eQ v.ns ((nd v.ns (k.tmod (v.ns.length:Int))).block.root)
  have kp:=fun st d=>k76 v.ns h.up hn (aN v.ns ((nd v.ns (k.tmod (v.ns.length:Int))).block.root)) p0 pr.2 st d
  have pm:=vL h.up p0 pr.2
  have prg:∀x∈path v.ns (aN v.ns ((nd v.ns (k.tmod (v.ns.length:Int))).block.root)),0≤x∧x<v.ns.length:=fun x hx=>vM h.up hx
  have pl:=Bf h.up (aN v.ns ((nd v.ns (k.tmod (v.ns.length:Int))).block.root))
  obtain⟨p,ep⟩:∃p,path v.ns (aN v.ns ((nd v.ns (k.tmod (v.ns.length:Int))).block.root))=p:=⟨_,rfl⟩
  rw[ep] at kp pm prg pl;have l0:(0:Int)<(p.length:Int):=by have:=List.length_pos_of_mem pm;omega
  have lne:¬((p.length:Int)=0):=by omega
  by_cases e1:0<((((k).fdiv (2 ^ min 14 IntKind.i64.bits))).tmod 4)
  case neg =>
   by_cases e2:((((k).fdiv (2 ^ min 14 IntKind.i64.bits))).tmod 16)=0
   ·simp only[ZG,seval,Bool.false_and,Prod.mk.injEq,Gq,iU,hj,j0,j1,g6,hT.Gz,h.sd.tree,gP,m1,m2,mS _ _ hn,g1,kp,l0,e1,bt e2,Ra];exact⟨_,fJ rfl (by simp only[E8,seval,fv]<;>rfl) (by simp only[Z8,seval,fv]<;>rfl) (by simp only[dU,and_self,fv]),_,rfl,P0⟩
   simp only[ZG,seval,Bool.false_and,Prod.mk.injEq,Gq,iU,hj,j0,j1,g6,hT.Gz,h.sd.tree,gP,m1,m2,mS _ _ hn,g1,kp,l0,e1,bf e2];exact⟨_,fJ rfl (by simp only[E8,seval,fv]<;>rfl) (by simp only[Z8,seval,fv]<;>rfl) (by simp only[dU,and_self,fv]),_,rfl,P0⟩
  obtain⟨x1,x2⟩:=cK (n:=(p.length:Int)) (Bg hk (min 16 IntKind.i64.bits)) l0
  obtain⟨y,hy⟩:∃y,((((k).fdiv (2 ^ min 16 IntKind.i64.bits))).tmod (p.length:Int))=y:=⟨_,rfl⟩
  rw[hy] at x1 x2;have gp:=nX x1 x2
  obtain⟨z1,z2⟩:=prg (it p y) (by obtain⟨h1,h2⟩:=xP x1 x2;rw[h2];exact List.getElem_mem h1)
  by_cases e2:((((k).fdiv (2 ^ min 14 IntKind.i64.bits))).tmod 16)=0
  ·simp only[ZG,seval,Bool.false_and,Prod.mk.injEq,Gq,iU,hj,j0,j1,g6,hT.Gz,h.sd.tree,gP,m1,m2,mS _ _ hn,g1,kp,l0,lne,e1,hy,x1,x2,gp,z1,z2,bt e2,Ra];exact⟨_,fJ rfl (by simp only[E8,seval,fv]<;>rfl) (by simp only[Z8,seval,fv]<;>rfl) (by simp only[dU,and_self,fv]),_,rfl,P0⟩
  simp only[ZG,seval,Bool.false_and,Prod.mk.injEq,Gq,iU,hj,j0,j1,g6,hT.Gz,h.sd.tree,gP,m1,m2,mS _ _ hn,g1,kp,l0,lne,e1,hy,x1,x2,gp,z1,z2,bf e2];exact⟨_,fJ rfl (by simp only[E8,seval,fv]<;>rfl) (by simp only[Z8,seval,fv]<;>rfl) (by simp only[dU,and_self,fv]),_,rfl,P0⟩
 by_cases g2:0<((((k).fdiv (2 ^ min 8 IntKind.i64.bits))).tmod 8)
 case neg =>
  by_cases p0:0≤aN v.ns ((nd v.ns (k.tmod (v.ns.length:Int))).block.root)
  case neg =>
   have kp:=fun st d=>C5 v.ns (aN v.ns ((nd v.ns (k.tmod (v.ns.length:Int))).block.root)) (fun hh=>p0 hh.1) st d
   by_cases e2:((((k).fdiv (2 ^ min 14 IntKind.i64.bits))).tmod 16)=0
   ·simp only[ZG,seval,Bool.false_and,Prod.mk.injEq,Gq,iU,hj,j0,j1,g6,hT.Gz,h.sd.tree,gP,m1,m2,mS _ _ hn,g1,g2,kp,bt e2,Ra];exact⟨_,fJ rfl (by simp only[E8,seval,fv]<;>rfl) (by simp only[Z8,seval,fv]<;>rfl) (by simp only[dU,and_self,fv]),_,rfl,P0⟩
   simp only[ZG,seval,Bool.false_and,Prod.mk.injEq,Gq,iU,hj,j0,j1,g6,hT.Gz,h.sd.tree,gP,m1,m2,mS _ _ hn,g1,g2,kp,bf e2];exact⟨_,fJ rfl (by simp only[E8,seval,fv]<;>rfl) (by simp only[Z8,seval,fv]<;>rfl) (by simp only[dU,and_self,fv]),_,rfl,P0⟩
  have pr:=eQ v.ns ((nd v.ns (k.tmod (v.ns.length:Int))).block.root)
  have kp:=fun st d=>k76 v.ns h.up hn (aN v.ns ((nd v.ns (k.tmod (v.ns.length:Int))).block.root)) p0 pr.2 st d
  have pm:=vL h.up p0 pr.2
  have prg:∀x∈path v.ns (aN v.ns ((nd v.ns (k.tmod (v.ns.length:Int))).block.root)),0≤x∧x<v.ns.length:=fun x hx=>vM h.up hx
  have pl:=Bf h.up (aN v.ns ((nd v.ns (k.tmod (v.ns.length:Int))).block.root))
  obtain⟨p,ep⟩:∃p,path v.ns (aN v.ns ((nd v.ns (k.tmod (v.ns.length:Int))).block.root))=p:=⟨_,rfl⟩
  rw[ep] at kp pm prg pl;have l0:(0:Int)<(p.length:Int):=by have:=List.length_pos_of_mem pm;omega
  have lne:¬((p.length:Int)=0):=by omega
  by_cases e1:0<((((k).fdiv (2 ^ min 14 IntKind.i64.bits))).tmod 4)
  case neg =>
   by_cases e2:((((k).fdiv (2 ^ min 14 IntKind.i64.bits))).tmod 16)=0
   ·simp only[ZG,seval,Bool.false_and,Prod.mk.injEq,Gq,iU,hj,j0,j1,g6,hT.Gz,h.sd.tree,gP,m1,m2,mS _ _ hn,g1,g2,kp,l0,e1,bt e2,Ra];exact⟨_,fJ rfl (by simp only[E8,seval,fv]<;>rfl) (by simp only[Z8,seval,fv]<;>rfl) (by simp only[dU,and_self,fv]),_,rfl,P0⟩
   simp only[ZG,seval,Bool.false_and,Prod.mk.injEq,Gq,iU,hj,j0,j1,g6,hT.Gz,h.sd.tree,gP,m1,m2,mS _ _ hn,g1,g2,kp,l0,e1,bf e2];exact⟨_,fJ rfl (by simp only[E8,seval,fv]<;>rfl) (by simp only[Z8,seval,fv]<;>rfl) (by simp only[dU,and_self,fv]),_,rfl,P0⟩
  obtain⟨x1,x2⟩:=cK (n:=(p.length:Int)) (Bg hk (min 16 IntKind.i64.bits)) l0
  obtain⟨y,hy⟩:∃y,((((k).fdiv (2 ^ min 16 IntKind.i64.bits))).tmod (p.length:Int))=y:=⟨_,rfl⟩
  rw[hy] at x1 x2;have gp:=nX x1 x2
  obtain⟨z1,z2⟩:=prg (it p y) (by obtain⟨h1,h2⟩:=xP x1 x2;rw[h2];exact List.getElem_mem h1)
  by_cases e2:((((k).fdiv (2 ^ min 14 IntKind.i64.bits))).tmod 16)=0
  ·simp only[ZG,seval,Bool.false_and,Prod.mk.injEq,Gq,iU,hj,j0,j1,g6,hT.Gz,h.sd.tree,gP,m1,m2,mS _ _ hn,g1,g2,kp,l0,lne,e1,hy,x1,x2,gp,z1,z2,bt e2,Ra];exact⟨_,fJ rfl (by simp only[E8,seval,fv]<;>rfl) (by simp only[Z8,seval,fv]<;>rfl) (by simp only[dU,and_self,fv]),_,rfl,P0⟩
  simp only[ZG,seval,Bool.false_and,Prod.mk.injEq,Gq,iU,hj,j0,j1,g6,hT.Gz,h.sd.tree,gP,m1,m2,mS _ _ hn,g1,g2,kp,l0,lne,e1,hy,x1,x2,gp,z1,z2,bf e2];exact⟨_,fJ rfl (by simp only[E8,seval,fv]<;>rfl) (by simp only[Z8,seval,fv]<;>rfl) (by simp only[dU,and_self,fv]),_,rfl,P0⟩
 have qne:¬(((ol Q).length:Int)=0):=by omega
 obtain⟨c1,c2⟩:=cK (n:=((ol Q).length:Int)) (Bg hk (min 11 IntKind.i64.bits)) g1
 obtain⟨c,hc⟩:∃c,((((k).fdiv (2 ^ min 11 IntKind.i64.bits))).tmod ((ol Q).length:Int))=c:=⟨_,rfl⟩
 rw[hc] at c1 c2;have rTB:Rg (gx cY (ol Q) c).tagged.tag:=hq _ (oO c1 c2)
 by_cases p0:0≤aN v.ns ((gx cY (ol Q) c).block)
 case neg =>
  have kp:=fun st d=>C5 v.ns (aN v.ns ((gx cY (ol Q) c).block)) (fun hh=>p0 hh.1) st d
  by_cases e2:((((k).fdiv (2 ^ min 14 IntKind.i64.bits))).tmod 16)=0
  ·simp only[ZG,seval,Bool.false_and,Prod.mk.injEq,Gq,iU,hj,j0,j1,g6,hT.Gz,h.sd.tree,gP,m1,m2,mS _ _ hn,g1,g2,qne,hc,c1,c2,kp,bt e2,Ra];exact⟨_,fJ rfl (by simp only[E8,seval,fv]<;>rfl) (by simp only[Z8,seval,fv]<;>rfl) (by simp only[dU,and_self,fv]),_,rfl,rTB⟩
  simp only[ZG,seval,Bool.false_and,Prod.mk.injEq,Gq,iU,hj,j0,j1,g6,hT.Gz,h.sd.tree,gP,m1,m2,mS _ _ hn,g1,g2,qne,hc,c1,c2,kp,bf e2];exact⟨_,fJ rfl (by simp only[E8,seval,fv]<;>rfl) (by simp only[Z8,seval,fv]<;>rfl) (by simp only[dU,and_self,fv]),_,rfl,rTB⟩
 have pr:=eQ v.ns ((gx cY (ol Q) c).block)
 have kp:=fun st d=>k76 v.ns h.up hn (aN v.ns ((gx cY (ol Q) c).block)) p0 pr.2 st d
 have pm:=vL h.up p0 pr.2
 have prg:∀x∈path v.ns (aN v.ns ((gx cY (ol Q) c).block)),0≤x∧x<v.ns.length:=fun x hx=>vM h.up hx
 have pl:=Bf h.up (aN v.ns ((gx cY (ol Q) c).block))
 obtain⟨p,ep⟩:∃p,path v.ns (aN v.ns ((gx cY (ol Q) c).block))=p:=⟨_,rfl⟩
 rw[ep] at kp pm prg pl;have l0:(0:Int)<(p.length:Int):=by have:=List.length_pos_of_mem pm;omega
 have lne:¬((p.length:Int)=0):=by omega
 by_cases e1:0<((((k).fdiv (2 ^ min 14 IntKind.i64.bits))).tmod 4)
 case neg =>
  by_cases e2:((((k).fdiv (2 ^ min 14 IntKind.i64.bits))).tmod 16)=0
  ·simp only[ZG,seval,Bool.false_and,Prod.mk.injEq,Gq,iU,hj,j0,j1,g6,hT.Gz,h.sd.tree,gP,m1,m2,mS _ _ hn,g1,g2,qne,hc,c1,c2,kp,l0,e1,bt e2,Ra];exact⟨_,fJ rfl (by simp only[E8,seval,fv]<;>rfl) (by simp only[Z8,seval,fv]<;>rfl) (by simp only[dU,and_self,fv]),_,rfl,rTB⟩
  simp only[ZG,seval,Bool.false_and,Prod.mk.injEq,Gq,iU,hj,j0,j1,g6,hT.Gz,h.sd.tree,gP,m1,m2,mS _ _ hn,g1,g2,qne,hc,c1,c2,kp,l0,e1,bf e2];exact⟨_,fJ rfl (by simp only[E8,seval,fv]<;>rfl) (by simp only[Z8,seval,fv]<;>rfl) (by simp only[dU,and_self,fv]),_,rfl,rTB⟩
 obtain⟨x1,x2⟩:=cK (n:=(p.length:Int)) (Bg hk (min 16 IntKind.i64.bits)) l0
 obtain⟨y,hy⟩:∃y,((((k).fdiv (2 ^ min 16 IntKind.i64.bits))).tmod (p.length:Int))=y:=⟨_,rfl⟩
 rw[hy] at x1 x2;have gp:=nX x1 x2
 obtain⟨z1,z2⟩:=prg (it p y) (by obtain⟨h1,h2⟩:=xP x1 x2;rw[h2];exact List.getElem_mem h1)
 by_cases e2:((((k).fdiv (2 ^ min 14 IntKind.i64.bits))).tmod 16)=0
 ·simp only[ZG,seval,Bool.false_and,Prod.mk.injEq,Gq,iU,hj,j0,j1,g6,hT.Gz,h.sd.tree,gP,m1,m2,mS _ _ hn,g1,g2,qne,hc,c1,c2,kp,l0,lne,e1,hy,x1,x2,gp,z1,z2,bt e2,Ra];exact⟨_,fJ rfl (by simp only[E8,seval,fv]<;>rfl) (by simp only[Z8,seval,fv]<;>rfl) (by simp only[dU,and_self,fv]),_,rfl,rTB⟩
 simp only[ZG,seval,Bool.false_and,Prod.mk.injEq,Gq,iU,hj,j0,j1,g6,hT.Gz,h.sd.tree,gP,m1,m2,mS _ _ hn,g1,g2,qne,hc,c1,c2,kp,l0,lne,e1,hy,x1,x2,gp,z1,z2,bf e2];exact⟨_,fJ rfl (by simp only[E8,seval,fv]<;>rfl) (by simp only[Z8,seval,fv]<;>rfl) (by simp only[dU,and_self,fv]),_,rfl,rTB⟩
end Go.Ab.Tryz
section
namespace Go.Ab
open Classical
theorem pS [Ext] {P:Program} {bi:Bool} {a b:Code} {st:St} {β:Type} {K:Ex × St→Option β} {R:β→Prop} (Q:St→Prop) (h:∃st',wX P bi a st=some (.normal,st')∧Q st')
 (rest:∀st',Q st'→∃r,cT (wX P bi b st') K=some r∧R r):∃r,cT (wX P bi (.seq a b) st) K=some r∧R r:=by
 obtain⟨s1,h1,h2⟩:=h
 rw[HV,h1];exact rest s1 h2
end Go.Ab
namespace Go.Ab.Tryz
open Classical Go.Proofs Go.Ab
structure BQ (n:Int) (v:SV) (b:Block):Prop extends RB b where
 rt:b.root=mkRoot n∨∃m∈v.ns,b.root=m.block.root
theorem x50 {s:aL} {v:SV} {q:Int} (h:GI s v q) (r:RG s v) (n k:Int) (hk:0≤k):∃x,aB Tryz.prog 50 [.agg (aA s),.v (.int .i64 n),.v (.int .i64 k)]=some x∧∃b:Block,x=.agg (aP b)∧BQ n v b:=by
 have hn:=h.sd.nn
 have hp:(0:Int)<(v.ns.length:Int):=by have:=h.pos;omega
 have gP:¬((v.ns.length:Int)=0):=by omega
 have Ng:=h.sp
 have rn:Rg s.now:=⟨r.now.1,by have:=r.now.2;omega⟩
 have rnd:∀p:Int,0≤p→p<v.ns.length→RB (nd v.ns p).block:=fun p h0 h1=>(r.nd _ (Rq h0 h1)).1
 obtain⟨m1,m2⟩:=cK (n:=(v.ns.length:Int)) hk hp
 obtain⟨m3,m4⟩:=cK (n:=(v.ns.length:Int)) (Bg hk (min 3 IntKind.i64.bits)) hp
 rw[cG Tryz.func50 rfl aR1 (by kernel_rfl) rfl]
 refine pS (fun st=>st.aT 8=0∧st.aT 9=0∧st.aT 11=0∧st.env 1=.v (.int .i64 n)∧st.env 2=.v (.int .i64 k)∧st.env 3=.ptr 3 0 0∧st.heap 3 0=some (.cells (aA s))∧st.env 6=.ptr 6 0 0∧st.heap 6 0=some (.cells (aP eA))) ?h0 ?r0
 case h0 =>
  refine⟨?s1, ?h1, ?q1⟩
  case h1 =>
   simp only[ZG,seval,Bool.false_and,Prod.mk.injEq,sO];rfl
  case q1=>exact⟨by simp only[E8,seval]<;>rfl,by simp only[E8,seval]<;>rfl,by simp only[E8,seval]<;>rfl,by simp only[E8,seval]<;>rfl,by simp only[E8,seval]<;>rfl,by simp only[E8,seval]<;>rfl,by simp only[E8,seval]<;>rfl,by simp only[E8,seval]<;>rfl,by simp only[E8,seval]<;>rfl⟩
 case r0 =>
 intro st hI;refine pS (fun st=>∃p:Int,(st.aT 8=0∧st.aT 9=0∧st.aT 11=0∧st.env 1=.v (.int .i64 n)∧st.env 2=.v (.int .i64 k)∧st.env 3=.ptr 3 0 0∧st.heap 3 0=some (.cells (aA s))∧st.env 6=.ptr 6 0 0∧st.heap 6 0=some (.cells (aP eA))∧st.env 7=.v (.int .i64 p))∧0≤p∧p<v.ns.length) ?h1 ?r1
 case h1 =>
  refine⟨?s2, ?h2, ?q2⟩
  case h2 =>
   simp only[ZG,seval,Bool.false_and,Prod.mk.injEq,sO,hI,h.sd.tree,gP];rfl
  case q2=>exact⟨_,by and_intros<;>(simp only[E8,seval,hI]<;>rfl),m1,m2⟩
 case r1 =>
 rintro st ⟨p,hI,p0,p1⟩
 refine pS (fun st=>∃p:Int,(st.aT 8=0∧st.aT 9=0∧st.aT 11=0∧st.env 1=.v (.int .i64 n)∧st.env 2=.v (.int .i64 k)∧st.env 3=.ptr 3 0 0∧st.heap 3 0=some (.cells (aA s))∧st.env 6=.ptr 6 0 0∧st.heap 6 0=some (.cells (aP eA))∧st.env 7=.v (.int .i64 p))∧0≤p∧p<v.ns.length) ?h2 ?r2
 case h2 =>
  by_cases g:0<((((k).fdiv (2 ^ min 6 IntKind.i64.bits))).tmod 3)
  ·obtain⟨M,hM⟩:∃M,(if (v.ns.length:Int)<3 then (v.ns.length:Int) else 3)=M:=⟨_,rfl⟩
   have hM1:1≤M∧M≤v.ns.length:=by rw[← hM];split<;>omega
   have hM0:¬M=0:=by omega
   obtain⟨x0,x1⟩:=cK (n:=M) p0 (by omega)
   have w1:IntKind.i64.wrap ((v.ns.length:Int)-1)=(v.ns.length:Int)-1:=mT _ (by omega) (by omega)
   have w2:IntKind.i64.wrap ((v.ns.length:Int)-1-p.tmod M)=(v.ns.length:Int)-1-p.tmod M:=mT _ (by omega) (by omega)
   refine⟨?s3, ?h3, ?q3⟩
   case h3 =>
    simp only[ZG,seval,Bool.false_and,Prod.mk.injEq,sO,hI,h.sd.tree,g,hM,hM0,w1,w2];rfl
   case q3=>exact⟨(v.ns.length:Int)-1-p.tmod M,by and_intros<;>(simp only[E8,seval,hI]<;>rfl),by omega,by omega⟩
  ·skip
   refine⟨?s4, ?h4, ?q4⟩
   case h4 =>
    simp only[ZG,seval,Bool.false_and,Prod.mk.injEq,sO,hI,g];rfl
   case q4=>exact⟨p,by and_intros<;>(simp only[E8,seval,hI]<;>rfl),p0,p1⟩
 case r2 =>
 clear hI p0 p1
 clear p
 rintro st ⟨p,hI,p0,p1⟩
 have rN:=rnd p p0 p1
 refine pS (fun st=>st.aT 9=0∧st.aT 11=0∧st.env 1=.v (.int .i64 n)∧st.env 2=.v (.int .i64 k)∧st.env 3=.ptr 3 0 0∧st.heap 3 0=some (.cells (aA s))∧st.env 6=.ptr 6 0 0∧st.heap 6 0=some (.cells (aP eA))∧st.env 7=.v (.int .i64 p)∧st.env 8=.ptr 8 0 0∧st.heap 8 0=some (.cells (fK (nd v.ns p)))) ?h4 ?r4
 case h4 =>
  refine⟨?s5, ?h5, ?q5⟩
  case h5 =>
   simp only[ZG,seval,Bool.false_and,Prod.mk.injEq,sO,hI,h.sd.tree,p0,p1];rfl
  case q5=>exact⟨by simp only[E8,seval,hI]<;>rfl,by simp only[E8,seval,hI]<;>rfl,by simp only[E8,seval,hI]<;>rfl,by simp only[E8,seval,hI]<;>rfl,by simp only[E8,seval,hI]<;>rfl,by simp only[E8,seval,hI]<;>rfl,by simp only[E8,seval,hI]<;>rfl,by simp only[E8,seval,hI]<;>rfl,by simp only[E8,seval,hI]<;>rfl,by simp only[E8,seval,hI]<;>rfl,by simp only[E8,seval,hI]<;>rfl⟩
 case r4 =>
 clear hI
 intro st hI;refine pS (fun st=>∃b:Block,(st.aT 11=0∧st.env 1=.v (.int .i64 n)∧st.env 2=.v (.int .i64 k)∧st.env 3=.ptr 3 0 0∧st.heap 3 0=some (.cells (aA s))∧st.env 6=.ptr 6 0 0∧st.heap 6 0=some (.cells (aP eA))∧st.env 7=.v (.int .i64 p)∧st.env 8=.ptr 8 0 0∧st.heap 8 0=some (.cells (fK (nd v.ns p)))∧st.env 9=.ptr 9 0 0∧st.heap 9 0=some (.cells (aP b)))∧BQ n v b) ?h5 ?r5
 case h5 =>
  refine⟨?s6, ?h6, ?q6⟩
  case h6 =>
   simp only[ZG,seval,Bool.false_and,Prod.mk.injEq,sO,hI,Ra];rfl
  case q6=>exact⟨_,by and_intros<;>(simp only[E8,seval,hI]<;>rfl),by exact⟨⟨rn,rN.j,rN.f,rN.pj,rN.pf⟩,.inl rfl⟩⟩
 case r5 =>
 clear hI
 rintro st ⟨b,hI,rb⟩
 refine pS (fun st=>∃b:Block,(st.aT 11=0∧st.env 1=.v (.int .i64 n)∧st.env 2=.v (.int .i64 k)∧st.env 3=.ptr 3 0 0∧st.heap 3 0=some (.cells (aA s))∧st.env 6=.ptr 6 0 0∧st.heap 6 0=some (.cells (aP eA))∧st.env 7=.v (.int .i64 p)∧st.env 8=.ptr 8 0 0∧st.heap 8 0=some (.cells (fK (nd v.ns p)))∧st.env 9=.ptr 9 0 0∧st.heap 9 0=some (.cells (aP b)))∧BQ n v b) ?h6 ?r6
 case h6 =>
  by_cases g:((((k).fdiv (2 ^ min 10 IntKind.i64.bits))).tmod 5)=0
  case neg =>
   refine⟨?s7, ?h7, ?q7⟩
   case h7 =>
    simp only[ZG,seval,Bool.false_and,Prod.mk.injEq,sO,hI,bf g];rfl
   case q7=>exact⟨b,by and_intros<;>(simp only[E8,seval,hI]<;>rfl),rb⟩
  by_cases g2:0<s.now
  case neg =>
   refine⟨?s8, ?h8, ?q8⟩
   case h8 =>
    simp only[ZG,seval,Bool.false_and,Prod.mk.injEq,sO,hI,bt g,g2];rfl
   case q8=>exact⟨b,by and_intros<;>(simp only[E8,seval,hI]<;>rfl),rb⟩
  refine⟨?s9, ?h9, ?q9⟩
  case h9 =>
   simp only[ZG,seval,Bool.false_and,Prod.mk.injEq,sO,hI,bt g,g2];rfl
  case q9=>exact⟨_,by and_intros<;>(simp only[E8,seval,hI]<;>rfl),by exact⟨⟨hU _,rb.j,rb.f,rb.pj,rb.pf⟩,rb.rt⟩⟩
 case r6 =>
 clear hI rb
 clear b
 rintro st ⟨b,hI,rb⟩
 refine pS (fun st=>∃b:Block,(st.aT 11=0∧st.env 1=.v (.int .i64 n)∧st.env 2=.v (.int .i64 k)∧st.env 3=.ptr 3 0 0∧st.heap 3 0=some (.cells (aA s))∧st.env 6=.ptr 6 0 0∧st.heap 6 0=some (.cells (aP eA))∧st.env 7=.v (.int .i64 p)∧st.env 8=.ptr 8 0 0∧st.heap 8 0=some (.cells (fK (nd v.ns p)))∧st.env 9=.ptr 9 0 0∧st.heap 9 0=some (.cells (aP b)))∧BQ n v b) ?h8 ?r8
 case h8 =>
  by_cases g:((((k).fdiv (2 ^ min 12 IntKind.i64.bits))).tmod 16)=0
  case neg =>
   refine⟨?s10, ?h10, ?q10⟩
   case h10 =>
    simp only[ZG,seval,Bool.false_and,Prod.mk.injEq,sO,hI,bf g];rfl
   case q10=>exact⟨b,by and_intros<;>(simp only[E8,seval,hI]<;>rfl),rb⟩
  refine⟨?s11, ?h11, ?q11⟩
  case h11 =>
   simp only[ZG,seval,Bool.false_and,Prod.mk.injEq,sO,hI,bt g,Ra];rfl
  case q11=>exact⟨_,by and_intros<;>(simp only[E8,seval,hI]<;>rfl),by exact⟨⟨rb.sl,rb.j,rb.f,rb.pj,rb.pf⟩,rb.rt⟩⟩
 case r8 =>
 clear hI rb
 clear b
 rintro st ⟨b,hI,rb⟩
 refine pS (fun st=>∃e:Int,(st.aT 11=0∧st.env 1=.v (.int .i64 n)∧st.env 2=.v (.int .i64 k)∧st.env 3=.ptr 3 0 0∧st.heap 3 0=some (.cells (aA s))∧st.env 6=.ptr 6 0 0∧st.heap 6 0=some (.cells (aP eA))∧st.env 7=.v (.int .i64 p)∧st.env 8=.ptr 8 0 0∧st.heap 8 0=some (.cells (fK (nd v.ns p)))∧st.env 9=.ptr 9 0 0∧st.heap 9 0=some (.cells (aP b))∧st.env 10=.v (.int .u64 e))∧Rg e) ?h10 ?r10
 case h10 =>
  refine⟨?s12, ?h12, ?q12⟩
  case h12 =>
   simp only[ZG,seval,Bool.false_and,Prod.mk.injEq,sO,hI,Ng];rfl
  case q12=>exact⟨_,by and_intros<;>(simp only[E8,seval,hI]<;>rfl),hU _⟩
 case r10 =>
 clear hI
 rintro st ⟨e,hI,re⟩
 obtain⟨y,hy,c,rfl,rc⟩:=x92 h r p e re
 have Ru:=kx hy (lM h.sd.flat (.v _) (.v _)) (.agg _ (bM _))
 refine pS (fun st=>∃b:Block,(st.env 1=.v (.int .i64 n)∧st.env 2=.v (.int .i64 k)∧st.env 3=.ptr 3 0 0∧st.heap 3 0=some (.cells (aA s))∧st.env 6=.ptr 6 0 0∧st.heap 6 0=some (.cells (aP eA))∧st.env 7=.v (.int .i64 p)∧st.env 8=.ptr 8 0 0∧st.heap 8 0=some (.cells (fK (nd v.ns p)))∧st.env 9=.ptr 9 0 0∧st.heap 9 0=some (.cells (aP b))∧st.env 10=.v (.int .u64 e))∧BQ n v b) ?h11 ?r11
 case h11 =>
  by_cases g:b.cV.pj.aE<c.aE
  case neg =>
   refine⟨?s13, ?h13, ?q13⟩
   case h13 =>
    simp only[ZG,seval,Bool.false_and,Prod.mk.injEq,sO,hI,Ru,g];rfl
   case q13=>exact⟨b,by and_intros<;>(simp only[E8,seval,hI]<;>rfl),rb⟩
  by_cases g2:((((k).fdiv (2 ^ min 13 IntKind.i64.bits))).tmod 2)=0
  case neg =>
   refine⟨?s14, ?h14, ?q14⟩
   case h14 =>
    simp only[ZG,seval,Bool.false_and,Prod.mk.injEq,sO,hI,Ru,g,bf g2];rfl
   case q14=>exact⟨b,by and_intros<;>(simp only[E8,seval,hI]<;>rfl),rb⟩
  by_cases g3:((((k).fdiv (2 ^ min 14 IntKind.i64.bits))).tmod 2)=0
  case neg =>
   refine⟨?s15, ?h15, ?q15⟩
   case h15 =>
    simp only[ZG,seval,Bool.false_and,Prod.mk.injEq,sO,hI,Ru,g,bt g2,bf g3];rfl
   case q15=>exact⟨_,by and_intros<;>(simp only[E8,seval,hI]<;>rfl),by exact⟨⟨rb.sl,rb.j,rb.f,rc,rb.pf⟩,rb.rt⟩⟩
  refine⟨?s16, ?h16, ?q16⟩
  case h16 =>
   simp only[ZG,seval,Bool.false_and,Prod.mk.injEq,sO,hI,Ru,g,bt g2,bt g3];rfl
  case q16=>exact⟨_,by and_intros<;>(simp only[E8,seval,hI]<;>rfl),by exact⟨⟨rb.sl,rb.j,rb.f,rc,rb.pj⟩,rb.rt⟩⟩
 case r11 =>
 clear hI rb
 clear b
 rintro st ⟨b,hI,rb⟩
 refine pS (fun st=>∃b:Block,(st.env 1=.v (.int .i64 n)∧st.env 2=.v (.int .i64 k)∧st.env 3=.ptr 3 0 0∧st.heap 3 0=some (.cells (aA s))∧st.env 6=.ptr 6 0 0∧st.heap 6 0=some (.cells (aP eA))∧st.env 7=.v (.int .i64 p)∧st.env 8=.ptr 8 0 0∧st.heap 8 0=some (.cells (fK (nd v.ns p)))∧st.env 9=.ptr 9 0 0∧st.heap 9 0=some (.cells (aP b))∧st.env 10=.v (.int .u64 e))∧BQ n v b) ?h16 ?r16
 case h16 =>
  by_cases g:((((k).fdiv (2 ^ min 15 IntKind.i64.bits))).tmod 3)=0
  case neg =>
   refine⟨?s17, ?h17, ?q17⟩
   case h17 =>
    simp only[ZG,seval,Bool.false_and,Prod.mk.injEq,sO,hI,bf g];rfl
   case q17=>exact⟨b,by and_intros<;>(simp only[E8,seval,hI]<;>rfl),rb⟩
  by_cases g2:IntKind.u64.wrap ((nd v.ns p).block.slot.tdiv s.cFg.jL)<e
  case neg =>
   refine⟨?s18, ?h18, ?q18⟩
   case h18 =>
    simp only[ZG,seval,Bool.false_and,Prod.mk.injEq,sO,hI,bt g,Ng,g2];rfl
   case q18=>exact⟨b,by and_intros<;>(simp only[E8,seval,hI]<;>rfl),rb⟩
  refine⟨?s19, ?h19, ?q19⟩
  case h19 =>
   simp only[ZG,seval,Bool.false_and,Prod.mk.injEq,sO,hI,bt g,Ng,g2];rfl
  case q19=>exact⟨_,by and_intros<;>(simp only[E8,seval,hI]<;>rfl),by exact⟨⟨rb.sl,rN.pj,rN.pf,rb.pj,rb.pf⟩,rb.rt⟩⟩
 case r16 =>
 clear hI rb
 clear b
 rintro st ⟨b,hI,rb⟩
 refine pS (fun st=>∃b:Block,(st.env 1=.v (.int .i64 n)∧st.env 2=.v (.int .i64 k)∧st.env 3=.ptr 3 0 0∧st.heap 3 0=some (.cells (aA s))∧st.env 6=.ptr 6 0 0∧st.heap 6 0=some (.cells (aP eA))∧st.env 7=.v (.int .i64 p)∧st.env 8=.ptr 8 0 0∧st.heap 8 0=some (.cells (fK (nd v.ns p)))∧st.env 9=.ptr 9 0 0∧st.heap 9 0=some (.cells (aP b))∧st.env 10=.v (.int .u64 e))∧BQ n v b) ?h18 ?r18
 case h18 =>
  by_cases g:(nd v.ns p).block.jK=dV
  case neg =>
   refine⟨?s20, ?h20, ?q20⟩
   case h20 =>
    simp only[ZG,seval,Bool.false_and,Prod.mk.injEq,sO,hI,g,Ra,pL,Nat.reduceLT];rfl
   case q20=>exact⟨_,by and_intros<;>(simp only[E8,seval,hI]<;>rfl),by exact⟨⟨rb.sl,rb.j,rb.f,rb.pj,rb.pf⟩,rb.rt⟩⟩
  by_cases g2:((((k).fdiv (2 ^ min 16 IntKind.i64.bits))).tmod 3)=0
  case neg =>
   refine⟨?s21, ?Ar, ?q21⟩
   case Ar =>
    simp only[ZG,seval,Bool.false_and,Prod.mk.injEq,sO,hI,g,bf g2];rfl
   case q21=>exact⟨b,by and_intros<;>(simp only[E8,seval,hI]<;>rfl),rb⟩
  refine⟨?s22, ?Ci, ?q22⟩
  case Ci =>
   simp only[ZG,seval,Bool.false_and,Prod.mk.injEq,sO,hI,g,bt g2,Ra,pL,Nat.reduceLT];rfl
  case q22=>exact⟨_,by and_intros<;>(simp only[E8,seval,hI]<;>rfl),by exact⟨⟨rb.sl,rb.j,rb.f,rb.pj,rb.pf⟩,rb.rt⟩⟩
 case r18 =>
 clear hI rb
 clear b
 rintro st ⟨b,hI,rb⟩
 obtain⟨w0,hw0,W,rfl⟩:=aRL ((k).fdiv (2 ^ min 3 IntKind.i64.bits))
 have k111:=kx hw0 (cU (.v _)) (.agg _ (iQ W))
 refine pS (fun st=>∃b:Block,(st.env 1=.v (.int .i64 n)∧st.env 2=.v (.int .i64 k)∧st.env 3=.ptr 3 0 0∧st.heap 3 0=some (.cells (aA s))∧st.env 6=.ptr 6 0 0∧st.heap 6 0=some (.cells (aP eA))∧st.env 7=.v (.int .i64 p)∧st.env 8=.ptr 8 0 0∧st.heap 8 0=some (.cells (fK (nd v.ns p)))∧st.env 9=.ptr 9 0 0∧st.heap 9 0=some (.cells (aP b))∧st.env 10=.v (.int .u64 e))∧BQ n v b) ?Ar ?r21
 case Ar =>
  by_cases c0:((((k).fdiv (2 ^ min 18 IntKind.i64.bits))).tmod 24)=0
  ·skip
   refine⟨?s23, ?Xh, ?q23⟩
   case Xh =>
    simp only[ZG,seval,Bool.false_and,Prod.mk.injEq,sO,hI,bt c0,Ra];rfl
   case q23=>exact⟨_,by and_intros<;>(simp only[E8,seval,hI]<;>rfl),by exact⟨⟨rb.sl,rb.j,rb.f,rb.pj,rb.pf⟩,rb.rt⟩⟩
  by_cases c1:((((k).fdiv (2 ^ min 18 IntKind.i64.bits))).tmod 24)=1
  ·skip
   refine⟨?s24, ?h24, ?q24⟩
   case h24 =>
    simp only[ZG,seval,Bool.false_and,Prod.mk.injEq,sO,hI,bf c0,bt c1,k111];rfl
   case q24=>exact⟨_,by and_intros<;>(simp only[E8,seval,hI]<;>rfl),by exact⟨⟨rb.sl,rb.j,rb.f,rb.pj,rb.pf⟩,rb.rt⟩⟩
  by_cases c2:((((k).fdiv (2 ^ min 18 IntKind.i64.bits))).tmod 24)=2
  ·skip
   refine⟨?s25, ?h25, ?q25⟩
   case h25 =>
    simp only[ZG,seval,Bool.false_and,Prod.mk.injEq,sO,hI,bf c0,bf c1,bt c2,k111];rfl
   case q25=>exact⟨_,by and_intros<;>(simp only[E8,seval,hI]<;>rfl),by exact⟨⟨rb.sl,rb.j,rb.f,rb.pj,rb.pf⟩,rb.rt⟩⟩
  by_cases c3:((((k).fdiv (2 ^ min 18 IntKind.i64.bits))).tmod 24)=3
  ·skip
   refine⟨?s26, ?h26, ?q26⟩
   case h26 =>
    simp only[ZG,seval,Bool.false_and,Prod.mk.injEq,sO,hI,bf c0,bf c1,bf c2,bt c3];rfl
   case q26=>exact⟨_,by and_intros<;>(simp only[E8,seval,hI]<;>rfl),by exact⟨⟨rb.sl,rb.j,rb.f,hU _,rb.pf⟩,rb.rt⟩⟩
  by_cases c4:((((k).fdiv (2 ^ min 18 IntKind.i64.bits))).tmod 24)=4
  ·skip
   refine⟨?s27, ?h27, ?q27⟩
   case h27 =>
    simp only[ZG,seval,Bool.false_and,Prod.mk.injEq,sO,hI,bf c0,bf c1,bf c2,bf c3,bt c4];rfl
   case q27=>exact⟨_,by and_intros<;>(simp only[E8,seval,hI]<;>rfl),by exact⟨⟨hU _,rb.j,rb.f,rb.pj,rb.pf⟩,rb.rt⟩⟩
  by_cases c5:((((k).fdiv (2 ^ min 18 IntKind.i64.bits))).tmod 24)=5
  ·skip
   refine⟨?s28, ?h28, ?q28⟩
   case h28 =>
    simp only[ZG,seval,Bool.false_and,Prod.mk.injEq,sO,hI,bf c0,bf c1,bf c2,bf c3,bf c4,bt c5,h.sd.tree,gP,m3,m4];rfl
   case q28=>exact⟨_,by and_intros<;>(simp only[E8,seval,hI]<;>rfl),by exact⟨⟨rb.sl,rb.j,rb.f,rb.pj,rb.pf⟩,.inr ⟨_,Rq m3 m4,rfl⟩⟩⟩
  by_cases c6:((((k).fdiv (2 ^ min 18 IntKind.i64.bits))).tmod 24)=6
  ·skip
   refine⟨?s29, ?h29, ?q29⟩
   case h29 =>
    simp only[ZG,seval,Bool.false_and,Prod.mk.injEq,sO,hI,bf c0,bf c1,bf c2,bf c3,bf c4,bf c5,bt c6,Ra];rfl
   case q29=>exact⟨_,by and_intros<;>(simp only[E8,seval,hI]<;>rfl),by exact⟨⟨rb.sl,rb.j,rb.f,rb.pj,rb.pf⟩,rb.rt⟩⟩
  by_cases c7:((((k).fdiv (2 ^ min 18 IntKind.i64.bits))).tmod 24)=7
  ·skip
   refine⟨?s30, ?h30, ?q30⟩
   case h30 =>
    simp only[ZG,seval,Bool.false_and,Prod.mk.injEq,sO,hI,bf c0,bf c1,bf c2,bf c3,bf c4,bf c5,bf c6,bt c7];rfl
   case q30=>exact⟨_,by and_intros<;>(simp only[E8,seval,hI]<;>rfl),by exact⟨⟨rb.sl,rb.j,rb.f,rb.pj,rb.pf⟩,rb.rt⟩⟩
  refine⟨?s31, ?h31, ?q31⟩
  case h31 =>
   simp only[ZG,seval,Bool.false_and,Prod.mk.injEq,sO,hI,bf c0,bf c1,bf c2,bf c3,bf c4,bf c5,bf c6,bf c7];rfl
  case q31=>exact⟨b,by and_intros<;>(simp only[E8,seval,hI]<;>rfl),rb⟩
 case r21 =>
 clear hI rb
 clear b
 rintro st ⟨b,hI,rb⟩
 simp only[ZG,seval,Bool.false_and,Prod.mk.injEq,sO,hI];exact⟨_,fJ rfl (by simp only[E8,seval,hI]<;>rfl) (by simp only[Z8,seval,hI]<;>rfl) (by simp only[dU,and_self,hI]),b,rfl,rb⟩
end Go.Ab.Tryz
end
namespace Go.Ab.Tryz
open Classical Go.Proofs Go.Ab
def Fx (st st':St):Prop:=(∀s g,g<st.aT s→st'.heap s g=st.heap s g)∧∀s,st.aT s≤st'.aT s
theorem aR4:aD 0 3 (some 2)=[]∧aD 1 17 (some 6)=[]∧aD 2 2 (some 21)=[]:=⟨rfl,rfl,rfl⟩
theorem aFN {s:aL} {v:SV} (hs:SD s v) (X:AV) (a:sG) (V:Option (List Int)) (ha:a.eZ=ov aK V) (hV:((ol V).length:Int)<1000000) (hr:∀x∈ol V,0≤x∧x<(ol v.L).length) :
 ∃G:St→St,∀st,pT Tryz.prog 44 [.agg (aA (wW s X)),.agg (iD a)] st=some (.agg (aA (wW (Rn s v a (ol V)) X)),G st)∧Fx st (G st):=by
 have one:∀st,∃st',pT Tryz.prog 44 [.agg (aA (wW s X)),.agg (iD a)] st=some (.agg (aA (wW (Rn s v a (ol V)) X)),st')∧Fx st st':=by
  intro st;have hl:(wW s X).gK.eB=ov dD v.L:=hs.eB
  rw[Bq Tryz.prog Tryz.func44 rfl (by kernel_rfl)]
  simp only[ZG,seval,Bool.false_and,Prod.mk.injEq,aR4,hl,ha,aLC v.L hs.nL _ _ V hV hr,dE];refine⟨_,wZ (P:=Tryz.prog) (fn:=Tryz.f44) (r:=.cell 4 53) (x:=.agg (aA (wW (Rn s v a (ol V)) X))) (.inl rfl) rfl ?h1, ?h2⟩
  case h1 =>
   rw[rM];simp only[bY,Z8,seval];unfold wW Rn;simp only[ov,Rm]
  case h2 =>
   refine⟨fun x g hg=>?_,fun x=>?_⟩
   ·have n2:(x=2∧g=st.aT 2)=False:=eq_false (by rintro⟨rfl,rfl⟩;omega)
    have n3:(x=3∧g=st.aT 3)=False:=eq_false (by rintro⟨rfl,rfl⟩;omega)
    have n4:(x=4∧g=st.aT 4)=False:=eq_false (by rintro⟨rfl,rfl⟩;omega)
    simp only[E8,seval,aV,aZ,n2,n3,n4,if_false]
   ·simp only[E8,seval,aV,aZ];split<;>(try split)<;>(try split)<;>subst_vars<;>omega
 exact⟨fun st=>Classical.choose (one st),fun st=>Classical.choose_spec (one st)⟩
theorem FU {cs:List AV} (h:∀c∈cs,Flat c):cs.flatMap iB=[]:=List.flatMap_eq_nil_iff.2 fun c hc=>by have:=h c hc;cases this<;>rfl
theorem aFO {c:AV} (h:Flat c):iB c=[]:=by cases h<;>rfl
theorem W6 {s:aL} {v:SV} (h:SD s v) (a g:Nat):jE (.agg (aA (mU s (.own a g))))=[(a,g)]:=by
 obtain⟨h1,h2,h3,h4,h5,h6,h7⟩:=h.fl
 show (aA (mU s (.own a g))).flatMap iB=[(a,g)]
 unfold mU aA jX;simp only[List.flatMap_append,List.flatMap_cons,List.flatMap_nil,List.append_nil];rw[FU (uF _ h1),FU (qW _ h2 h3),FU (lF _),FU (wS _ h6),FU (eD _),FU (dX _)];have e4:iB s.cF.early=[]:=aFO h4
 have e7:iB s.tables=[]:=aFO h7
 simp only[e4,e7,List.nil_append,List.append_nil];rfl
theorem aC1 {s:aL} {v:SV} (h:SD s v) (a g:Nat):ZH (.agg (aA (mU s (.own a g)))):=by
 obtain⟨h1,h2,h3,h4,h5,h6,h7⟩:=h.fl
 refine .inr (.inr ⟨_,rfl,fun c hc=>?_⟩)
 unfold mU aA jX at hc;simp only[List.mem_append,List.mem_singleton] at hc;rcases hc with hc|hc|hc|(hc|hc)|hc|hc|hc|hc
 ·exact .inl (uF _ h1 _ hc)
 ·exact .inl (qW _ h2 h3 _ hc)
 ·exact .inl (lF _ _ hc)
 ·exact .inl (hc ▸ h4)
 ·exact .inr ⟨a,g,hc⟩
 ·exact .inl (wS _ h6 _ hc)
 ·exact .inl (eD _ _ hc)
 ·exact .inl (dX _ _ hc)
 ·exact .inl (hc ▸ h7)
theorem aMT {s:aL} {v:SV} {q:Int} (h:GI s v q) {b:Block} (hb:Ku s v b=0) (st:St) (d:Option Nat):fG (aB Tryz.prog) 217 [.agg (aA s),.agg (aP b)] st d=some { dst:=d,val:=.agg (aA (tC s v b))}:=Hs (bE h.sd.flat (qL b)) (aLD h hb) (h.ins hb).sd.flat
theorem aFP {s:aL} {v:SV} {q:Int} (h0:SD s v) {O:List Block} (h:GI (mU s (ov aG (some O))) { v with O:=some O } q) {b:Block} (hb:Ku (mU s (ov aG (some O))) { v with O:=some O } b=0) (a g:Nat) (st:St) (d:Option Nat) (hh:st.heap a g=some (.row 74 238 O.length (aG O))) :
 fG (aB Tryz.prog) 217 [.agg (aA (mU s (.own a g))),.agg (aP b)] st d=some { dst:=d,val:=.agg (aA (tC (mU s (ov aG (some O))) { v with O:=some O } b)),dS:=some (a,g,none)}:=by
 rw[Ol (s:=a) (k:=g) (by rw[List.flatMap_cons,List.flatMap_cons,List.flatMap_nil,W6 h0,vU (qL b)];rfl) (by intro x hx;simp only[List.mem_cons,List.not_mem_nil,or_false] at hx;rcases hx with rfl|rfl;exact aC1 h0 a g;exact .inl (qL b)),
  List.map_cons,List.map_cons,List.map_nil,zU h0 st hh,Lz,bO,bO,fR]
 exact NL (aLD h hb) (h.ins hb).sd.flat
theorem aR5 {s:aL} {v:SV} {q:Int} (h0:SD s v) {O:List Block} (h:GI (mU s (ov aG (some O))) { v with O:=some O } q) (b:Block) (a g:Nat) (st:St) (d:Option Nat) (hh:st.heap a g=some (.row 74 238 O.length (aG O))) :
 aM (aB Tryz.prog) 52 [.agg (aA (mU s (.own a g))),.agg (aP b)] st d=some { dst:=d,val:=.v (.int .i64 (Ku (mU s (ov aG (some O))) { v with O:=some O } b))}:=by
 rw[jU,List.map_cons,List.map_cons,List.map_nil,zU h0 st hh,Lz,bO,bO,fR];exact Tr (c52 h.sd h.up h.sp b)
theorem aMU {s:aL} {v:SV} {q:Int} (h0:SD s v) {O:List Block} (h:GI (mU s (ov aG (some O))) { v with O:=some O } q) (a g:Nat) (st:St) (d:Option Nat) (hh:st.heap a g=some (.row 74 238 O.length (aG O))) :
 aM (aB Tryz.prog) 218 [.agg (aA (mU s (.own a g)))] st d=some { dst:=d,val:=.v (.int .i64 (CL { v with O:=some O }))}:=by
 rw[jU,List.map_cons,List.map_nil,zU h0 st hh,bO,fR];exact Tr (aLz h.sd)
theorem tE {s:aL} {v:SV} (h:SD s v):mU s (ov aG v.O)=s:=by unfold mU;rw[← h.bN]
end Go.Ab.Tryz
